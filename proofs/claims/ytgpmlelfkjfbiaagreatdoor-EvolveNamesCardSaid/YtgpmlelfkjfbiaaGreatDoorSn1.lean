/-
  Part 1 of the proof: rules and walks that the claim's last text uses.
-/
import Derived.Below
import Derived.Laws.BytesArg
import Derived.Laws.IdiomStrings
import Derived.Laws.MakeOwn
import Derived.Laws.Rows
import Derived.Laws.Runes
import Derived.Laws.Small
import Derived.Laws.StructEq
import Derived.Lib.ConvBytes
import Derived.Lib.Strings
import Derived.Orders
import Derived.RangeFuncNested
import Derived.RangeFuncRecord
import Derived.WalkKit
set_option linter.unusedSimpArgs false
set_option linter.unusedVariables false
set_option maxRecDepth 100000
set_option maxHeartbeats 4000000
namespace Go.Ev
open Go Go.RowKit
inductive Own where
 | none | full | seed | row (id : Nat)
 deriving DecidableEq
inductive AV where
 | val (v : Value)
 | list (xs : List AV) (o : Own)
 | elem (x : AV) (off : Nat)
 | box (l off : Nat)
 | clo (f : FuncId) (caps : List AV)
 | agg (cs : List AV)
 | tup (vs : List AV)
 | yld (k : Nat)
 | vec (id ver o n : Nat)
 | vel (id ver off : Nat)
abbrev AV.junk : AV := .tup []
instance : Inhabited AV := ⟨.junk⟩
def AV.cells : AV → List AV
 | .agg cs => cs
 | x => [x]
def AV.one : AV → Bool
 | .agg _ | .tup _ => false
 | _ => true
def Zgb : Value → Bool
 | .bool _ | .int _ _ | .float _ _ | .pointer none | .nilFunc | .nilIface | .map none => true
 | .string s => decide (s.size ≤ maxLen)
 | _ => false
structure LoopA where
 e : List (Nat × Bool × AV)
 n : Nat
 ps : Array Tmp
 asg : Code
 body : Code
 st : LoopState
 pend : Option Code
inductive RowA where
 | grow (n sz : Nat)
 | vec (ver sz : Nat) (cells : List AV)
 | dead (ver : Nat)
structure St where
 boxes : List (List AV)
 rows : List RowA
 loops : List LoopA
structure Mem where
 N : Nat
 NR : Nat
 bx : Nat → Nat
 top : Nat → Nat
 fr : Nat → Nat
 blk : Nat → Nat
 cap : Nat → Nat
 rsz : Nat → Nat
 NL : Nat
 lb : Nat → Nat
def Mem.imm (M : Mem) (w0 : World) (b off : Nat) : Prop := b < w0.heap.size ∨ off < M.top b
def Zsd (M : Mem) (b off cap n sz : Nat) : Own → Prop
 | .none => True
 | .full | .seed => n = cap
 | .row id => id < M.NR ∧ n ≤ M.fr id ∧ (n = M.fr id → b = M.blk id ∧ off = 0 ∧ cap = M.cap id ∧ sz = M.rsz id)
inductive R (w0 : World) (M : Mem) (w : World) : Value → AV → Prop
 | flat {v : Value} (h : Zgb v = true) : R w0 M w v (.val v)
 | agg {cs : Array Value} {xs : List AV} (hl : cs.size = xs.length) (h1 : ∀ x ∈ xs, x.one = true) (h : ∀ i (h1 : i < cs.size) (h2 : i < xs.length), R w0 M w cs[i] xs[i]) : R w0 M w (.agg cs) (.agg xs)
 | tup {cs : Array Value} {xs : List AV} (hl : cs.size = xs.length) (h : ∀ i (h1 : i < cs.size) (h2 : i < xs.length), R w0 M w cs[i] xs[i]) : R w0 M w (.tuple cs) (.tup xs)
 | nil {o : Own} (ho : ∀ id, o ≠ .row id) : R w0 M w (.slice none 0 0) (.list [] o)
 | emp {a : Addr} {o : Own} (ho : ∀ id, o ≠ .row id) : R w0 M w (.slice (some a) 0 0) (.list [] o)
 | list {b off cap : Nat} {xs : List AV} {o : Own} (sz : Nat) (us : Nat → Value) (hc : xs.length ≤ cap) (hm : cap ≤ maxLen)
   (hcell : ∀ i, i < xs.length → (us i).cells.size = sz ∧ ∀ j, j < sz → M.imm w0 b (off + i * sz + j) ∧ w.cell? ⟨b, off + i * sz + j, none⟩ = (us i).cells[j]?)
   (hu : ∀ i (hi : i < xs.length), R w0 M w (us i) xs[i]) (ho : Zsd M b off cap xs.length sz o) : R w0 M w (.slice (some ⟨b, off, none⟩) xs.length cap) (.list xs o)
 | elem {b off : Nat} {x : AV} (u : Value) (k : Nat) (hcell : ∀ j, j < u.cells.size → M.imm w0 b (off + j) ∧ w.cell? ⟨b, off + j, none⟩ = u.cells[j]?) (hu : R w0 M w u x) :
   R w0 M w (.pointer (some ⟨b, off + k, none⟩)) (.elem x k)
 | box {l off : Nat} (hl : l < M.N) : R w0 M w (.pointer (some ⟨M.bx l, off, none⟩)) (.box l off)
 | clo {f : FuncId} {cs : Array Value} {xs : List AV} (hl : cs.size = xs.length) (h : ∀ i (h1 : i < cs.size) (h2 : i < xs.length), R w0 M w cs[i] xs[i]) : R w0 M w (.func (.func f) #[] cs) (.clo f xs)
 | yld {k : Nat} (hk : k < M.NL) : R w0 M w (.func (.yield (M.lb k)) #[] #[]) (.yld k)
 | vec {id ver o n : Nat} {p : Option Addr} {cap : Nat} (hi : id < M.NR) (hv : ver ≤ M.fr id) (h : ver = M.fr id → p = some ⟨M.blk id, o * M.rsz id, none⟩ ∧ cap + o = M.cap id ∧ n ≤ cap) : R w0 M w (.slice p n cap) (.vec id ver o n)
 | vel {id ver off : Nat} {a : Addr} (hi : id < M.NR) (hv : ver ≤ M.fr id) (h : ver = M.fr id → a = ⟨M.blk id, off, none⟩) : R w0 M w (.pointer (some a)) (.vel id ver off)
structure Ext (w0 : World) (M : Mem) (w : World) (M' : Mem) (w' : World) : Prop where
 N : M.N ≤ M'.N
 bx : ∀ l, l < M.N → M'.bx l = M.bx l
 NR : M.NR ≤ M'.NR
 rows : ∀ id, id < M.NR → M.fr id ≤ M'.fr id ∧ (M'.fr id = M.fr id → M'.blk id = M.blk id ∧ M'.cap id = M.cap id ∧ M'.rsz id = M.rsz id)
 cell : ∀ b off v, M.imm w0 b off → w.cell? ⟨b, off, none⟩ = some v → w'.cell? ⟨b, off, none⟩ = some v ∧ M'.imm w0 b off
 size : w.heap.size ≤ w'.heap.size
 NL : M.NL ≤ M'.NL
 lb : ∀ k, k < M.NL → M'.lb k = M.lb k
 lnew : ∀ k, M.NL ≤ k → k < M'.NL → w.heap.size ≤ M'.lb k
 objs : ∀ b o, w.heap[b]? = some o → o.isCells = false → (∀ k, k < M.NL → M.lb k ≠ b) → w'.heap[b]? = some o
def KeepsObj (w w' : World) : Prop := ∀ (b : Nat) (o : Obj), w.heap[b]? = some o → o.isCells = false → w'.heap[b]? = some o
theorem KeepsObj.refl (w : World) : KeepsObj w w := fun _ _ h _ => h
theorem KeepsObj.trans {a b c : World} (h : KeepsObj a b) (k : KeepsObj b c) : KeepsObj a c := fun i o h1 h2 => k i o (h i o h1 h2) h2
theorem KeepsObj.alloc (w : World) (o : Obj) : KeepsObj w (w.alloc o) := fun b _ h _ => (Below.heap_alloc w o b (Array.getElem?_eq_some_iff.1 h).1).trans h
theorem Ext.refl (w0 : World) (M : Mem) (w : World) : Ext w0 M w M w :=
 ⟨Nat.le_refl _, fun _ _ => rfl, Nat.le_refl _, fun _ _ => ⟨Nat.le_refl _, fun _ => ⟨rfl, rfl, rfl⟩⟩, fun _ _ _ h k => ⟨k, h⟩, Nat.le_refl _, Nat.le_refl _, fun _ _ => rfl, fun _ _ _ => by omega, fun _ _ h _ _ => h⟩
theorem Ext.trans {w0 : World} {M1 M2 M3 : Mem} {w1 w2 w3 : World} (h : Ext w0 M1 w1 M2 w2) (k : Ext w0 M2 w2 M3 w3) : Ext w0 M1 w1 M3 w3 where
 N := Nat.le_trans h.N k.N
 bx := fun l hl => (k.bx l (Nat.lt_of_lt_of_le hl h.N)).trans (h.bx l hl)
 NR := Nat.le_trans h.NR k.NR
 rows := fun id hid => by
  obtain ⟨a1, a2⟩ := h.rows id hid
  obtain ⟨b1, b2⟩ := k.rows id (Nat.lt_of_lt_of_le hid h.NR)
  refine ⟨Nat.le_trans a1 b1, fun e => ?_⟩
  have e1 : M2.fr id = M1.fr id := by omega
  have e2 : M3.fr id = M2.fr id := by omega
  obtain ⟨x1, x2, x3⟩ := a2 e1
  obtain ⟨y1, y2, y3⟩ := b2 e2
  exact ⟨y1.trans x1, y2.trans x2, y3.trans x3⟩
 cell := fun b off v hi hc => by
  obtain ⟨c1, i1⟩ := h.cell b off v hi hc
  exact k.cell b off v i1 c1
 size := Nat.le_trans h.size k.size
 NL := Nat.le_trans h.NL k.NL
 lb := fun i hi => (k.lb i (Nat.lt_of_lt_of_le hi h.NL)).trans (h.lb i hi)
 lnew := fun i h1 h2 => by
  by_cases c : i < M2.NL
  ·
   rw [k.lb i c]; exact h.lnew i h1 c
  ·
   exact Nat.le_trans h.size (k.lnew i (by omega) h2)
 objs := fun b o h1 h2 h3 => k.objs b o (h.objs b o h1 h2 h3) h2 fun i hi => by
  by_cases c : i < M1.NL
  ·
   rw [h.lb i c]; exact h3 i c
  ·
   have := h.lnew i (by omega) hi
   have := (Array.getElem?_eq_some_iff.1 h1).1
   omega
theorem ZhS {u : Value} {j : Nat} (h : j < u.cells.size) : ∃ v, u.cells[j]? = some v := ⟨_, Array.getElem?_eq_getElem h⟩
theorem R.mono {w0 : World} {M M' : Mem} {w w' : World} (hx : Ext w0 M w M' w') {v : Value} {x : AV} (h : R w0 M w v x) : R w0 M' w' v x := by
 induction h with
 | flat h => exact .flat h
 | agg hl h1 _ ih => exact .agg hl h1 ih
 | tup hl _ ih => exact .tup hl ih
 | nil ho => exact .nil ho
 | emp ho => exact .emp ho
 | @list b off cap xs o sz us hc hm hcell _ ho ih =>
  refine .list sz us hc hm (fun i hi => ⟨(hcell i hi).1, fun j hj => ?_⟩) ih ?_
  ·
   obtain ⟨hi1, hc1⟩ := (hcell i hi).2 j hj
   obtain ⟨v, hv⟩ := ZhS (u := us i) (j := j) (by rw [(hcell i hi).1]; exact hj)
   obtain ⟨k1, k2⟩ := hx.cell _ _ v hi1 (hc1.trans hv)
   exact ⟨k2, k1.trans hv.symm⟩
  ·
   cases o with
   | none => trivial
   | full => exact ho
   | seed => exact ho
   | row id =>
    obtain ⟨h1, h2, h3⟩ := ho
    obtain ⟨r1, r2⟩ := hx.rows id h1
    refine ⟨Nat.lt_of_lt_of_le h1 hx.NR, Nat.le_trans h2 r1, fun e => ?_⟩
    have e1 : M'.fr id = M.fr id := by omega
    obtain ⟨a, b, c⟩ := r2 e1
    rw [a, b, c]
    exact h3 (by omega)
 | @elem b off x u k hcell _ ih =>
  refine .elem u k (fun j hj => ?_) ih
  obtain ⟨hi1, hc1⟩ := hcell j hj
  obtain ⟨v, hv⟩ := ZhS (u := u) (j := j) hj
  obtain ⟨k1, k2⟩ := hx.cell _ _ v hi1 (hc1.trans hv)
  exact ⟨k2, k1.trans hv.symm⟩
 | box hl => rw [← hx.bx _ hl]; exact .box (Nat.lt_of_lt_of_le hl hx.N)
 | clo hl _ ih => exact .clo hl ih
 | yld hk => rw [← hx.lb _ hk]; exact .yld (Nat.lt_of_lt_of_le hk hx.NL)
 | @vec id ver o n p cap hi hv h =>
  obtain ⟨r1, r2⟩ := hx.rows id hi
  refine .vec (Nat.lt_of_lt_of_le hi hx.NR) (Nat.le_trans hv r1) (fun e => ?_)
  obtain ⟨q1, q2, q3⟩ := r2 (by omega)
  rw [q1, q2, q3]
  exact h (by omega)
 | @vel id ver off a hi hv h =>
  obtain ⟨r1, r2⟩ := hx.rows id hi
  refine .vel (Nat.lt_of_lt_of_le hi hx.NR) (Nat.le_trans hv r1) (fun e => ?_)
  obtain ⟨q1, q2, q3⟩ := r2 (by omega)
  rw [q1]
  exact h (by omega)
theorem R.cells {w0 : World} {M : Mem} {w : World} {v : Value} {x : AV} (h : R w0 M w v x) :
  v.cells.size = x.cells.length ∧ ∀ i (h1 : i < v.cells.size) (h2 : i < x.cells.length), R w0 M w v.cells[i] x.cells[i] := by
 have one : ∀ (u : Value) (y : AV), u.cells = #[u] → y.cells = [y] → R w0 M w u y →
   u.cells.size = y.cells.length ∧ ∀ i (h1 : i < u.cells.size) (h2 : i < y.cells.length), R w0 M w u.cells[i] y.cells[i] := by
  intro u y hu hy hr
  rw [hu, hy]
  refine ⟨rfl, fun i h1 h2 => ?_⟩
  have : i = 0 := by simp at h2; exact h2
  subst this
  exact hr
 cases h with
 | agg hl _ h => exact ⟨hl, h⟩
 | flat hf => exact one _ _ (by cases v <;> first | rfl | simp [Zgb] at hf) rfl (.flat hf)
 | tup hl h => exact one _ _ rfl rfl (.tup hl h)
 | nil ho => exact one _ _ rfl rfl (.nil ho)
 | emp ho => exact one _ _ rfl rfl (.emp ho)
 | list sz us hc hm hcell hu ho => exact one _ _ rfl rfl (.list sz us hc hm hcell hu ho)
 | elem u k hcell hu => exact one _ _ rfl rfl (.elem u k hcell hu)
 | box hl => exact one _ _ rfl rfl (.box hl)
 | clo hl h => exact one _ _ rfl rfl (.clo hl h)
 | yld hk => exact one _ _ rfl rfl (.yld hk)
 | vec hi hv h => exact one _ _ rfl rfl (.vec hi hv h)
 | vel hi hv h => exact one _ _ rfl rfl (.vel hi hv h)
theorem R.oneCell {w0 : World} {M : Mem} {w : World} {v : Value} {x : AV} (h : R w0 M w v x) (hx : x.one = true) : v.oneCell' = true := by
 cases h with
 | agg => cases hx
 | flat hf => cases v <;> first | rfl | simp [Zgb] at hf
 | tup => cases hx
 | _ => rfl
theorem R.cellsOne {w0 : World} {M : Mem} {w : World} {v : Value} {x : AV} (h : R w0 M w v x) (ht : ∀ vs, x ≠ .tup vs) : ∀ c ∈ x.cells, c.one = true := by
 cases h with
 | agg hl h1 h => exact h1
 | tup => exact absurd rfl (ht _)
 | _ => intro c hc; simp only [AV.cells, List.mem_singleton] at hc; subst hc; rfl
theorem R.isAgg {w0 : World} {M : Mem} {w : World} {v : Value} {xs : List AV} (h : R w0 M w v (.agg xs)) : ∃ cs, v = .agg cs := by
 cases h with
 | agg hl h1 h => exact ⟨_, rfl⟩
theorem R.cells_one {w0 : World} {M : Mem} {w : World} {v : Value} {x : AV} (h : R w0 M w v x) (hx : x.one = true) : v.cells = #[v] ∧ x.cells = [x] := by
 cases h with
 | agg => cases hx
 | flat hf => exact ⟨by cases v <;> first | rfl | simp [Zgb] at hf, rfl⟩
 | tup => cases hx
 | _ => exact ⟨rfl, rfl⟩
def AV.pubCell : AV → AV
 | .list xs _ => .list xs .none
 | x => x
def AV.pub : AV → AV
 | .agg cs => .agg (cs.map AV.pubCell)
 | .list xs _ => .list xs .none
 | x => x
theorem R.pubCell {w0 : World} {M : Mem} {w : World} {v : Value} {x : AV} (h : R w0 M w v x) : R w0 M w v x.pubCell := by
 cases h with
 | nil ho => exact .nil (fun id => by simp)
 | emp ho => exact .emp (fun id => by simp)
 | list sz us hc hm hcell hu ho => exact .list sz us hc hm hcell hu trivial
 | flat hf => exact .flat hf
 | agg hl h1 h => exact .agg hl h1 h
 | tup hl h => exact .tup hl h
 | elem u k hcell hu => exact .elem u k hcell hu
 | box hl => exact .box hl
 | clo hl h => exact .clo hl h
 | yld hk => exact .yld hk
 | vec hi hv h => exact .vec hi hv h
 | vel hi hv h => exact .vel hi hv h
theorem AV.one_pubCell (x : AV) : x.pubCell.one = x.one := by cases x <;> rfl
theorem R.pub {w0 : World} {M : Mem} {w : World} {v : Value} {x : AV} (h : R w0 M w v x) : R w0 M w v x.pub := by
 cases h with
 | nil ho => exact .nil (fun id => by simp)
 | emp ho => exact .emp (fun id => by simp)
 | list sz us hc hm hcell hu ho => exact .list sz us hc hm hcell hu trivial
 | flat hf => exact .flat hf
 | agg hl h1 h => exact .agg (by simpa using hl) (fun x hx => by obtain ⟨y, hy, rfl⟩ := List.mem_map.1 hx; rw [AV.one_pubCell]; exact h1 y hy) (fun i a b => by simp only [List.getElem_map]; exact (h i a (by simpa using b)).pubCell)
 | tup hl h => exact .tup hl h
 | elem u k hcell hu => exact .elem u k hcell hu
 | box hl => exact .box hl
 | clo hl h => exact .clo hl h
 | yld hk => exact .yld hk
 | vec hi hv h => exact .vec hi hv h
 | vel hi hv h => exact .vel hi hv h
theorem AV.pub_cells_length (x : AV) : x.pub.cells.length = x.cells.length := by cases x <;> simp [AV.pub, AV.cells]
def tyT (P : Program) (t : TypeId) : Option (Nat × Bool) :=
 match P.info? t, P.underlying t with
 | some i, some d => some (i.size, match d with | .struct _ | .array _ _ => true | _ => false)
 | _, _ => none
def Zfm (P : Program) (t : TypeId) (f : Nat) : Option (Nat × Nat × Bool) :=
 match P.underlying t with
 | some (.struct fs) => match fs[f]? with
  | some x => (tyT P x.type).map fun (s, a) => (x.offset, s, a)
  | none => none
 | _ => none
def elT (P : Program) (t : TypeId) : Option (TypeId × Nat × Bool × Nat) :=
 match P.underlying t with
 | some (.slice e) => match P.info? e, tyT P e with
  | some i, some (s, a) => some (e, s, a, i.bytes)
  | _, _ => none
 | _ => none
def Zf5 (P : Program) (t : TypeId) : Option (Nat × Nat × Bool) :=
 match P.underlying t with
 | some (.array n e) => (tyT P e).map fun (s, a) => (n, s, a)
 | _ => none
def ZeY (P : Program) (t : TypeId) : Bool :=
 match P.underlying t with | some .string => true | _ => false
def Zfy (P : Program) (t : TypeId) : Bool :=
 match P.underlying t with
 | some (.slice e) => (match P.underlying e with | some (.int .u8) => true | _ => false) && (match tyT P e with | some (1, false) => true | _ => false)
 | _ => false
def Zkt (P : Program) (t : TypeId) : Option IntKind :=
 match P.underlying t with | some (.int k) => some k | _ => none
def Zhu : Value → AV
 | .slice none 0 0 => .list [] .full
 | v => .val v
def Zge : Value → AV
 | .agg cs => .agg (cs.toList.map Zhu)
 | v => Zhu v
def Zjz : Value → Bool
 | .slice none 0 0 => true
 | v => Zgb v
def Zh4 : Value → Bool
 | .agg cs => cs.toList.all Zjz
 | v => Zjz v
def ZbW (P : Program) (t : TypeId) : Option (List AV) :=
 match P.info? t with
 | some i => match i.zero with
  | some z => if Zh4 z && z.cells.size == i.size then some (Zge z).cells else none
  | none => none
 | none => none
abbrev Env := List (Nat × Bool × AV)
def ZdS : Env → Nat → Option (Bool × AV)
 | [], _ => none
 | (k, c, v) :: r, s => if k = s then some (c, v) else ZdS r s
def Zce : List Nat → Env → Env
 | [], _ => []
 | s :: K, e => match ZdS e s with
  | some (c, v) => (s, c, v) :: Zce K e
  | none => Zce K e
def Zan (e : Env) : Operand → AV
 | .tmp t => match ZdS e t with | some (_, v) => v | none => .junk
 | .const v => Zge v
 | .func f => .clo f []
 | .global _ => .junk
def ZaE (e : Env) (c : Bool) : Operand → Prop
 | .tmp t => match ZdS e t with | some (c', _) => (c = true → c' = true) | none => False
 | .const v => Zh4 v = true
 | .func _ => True
 | .global _ => False
def Zf7 : AV → Bool
 | .val (.bool b) => b
 | _ => false
def isB : AV → Bool
 | .val (.bool _) => true
 | _ => false
def AV.sel (t : Bool) : AV → AV → AV
 | .val (.bool x), .val (.bool y) => .val (.bool (if t then x else y))
 | a, b => if t then a else b
def ZbZ (l : List AV) (off : Nat) (xs : List AV) : List AV := l.take off ++ xs ++ l.drop (off + xs.length)
def nth (l : List AV) (i : Nat) : AV := l.getD i .junk
def ZiS (P : Program) : List Field → Option (List (Nat × Nat))
 | [] => some []
 | f :: fs => match P.info? f.type, ZiS P fs with
  | some i, some r => some ((f.offset, i.size) :: r)
  | _, _ => none
def Zb3 (P : Program) (t : TypeId) : Option (List (Nat × Nat)) :=
 match P.underlying t with
 | some (.struct fs) => ZiS P fs.toList
 | _ => none
def Zar (P : Program) (t : TypeId) (i : Nat) : Option (Nat × Nat) :=
 match Zb3 P t with
 | some l => l[i]?
 | none => match Zf5 P t with
  | some (_, s, _) => some (i * s, s)
  | none => none
def ZaW (P : Program) (t : TypeId) : List AV → List (Nat × AV) → List AV
 | cs, [] => cs
 | cs, (i, x) :: r => match Zar P t i with
  | some (o, _) => ZaW P t (ZbZ cs o x.cells) r
  | none => cs
def Zat (P : Program) (t : TypeId) : Nat → List (Nat × AV) → Prop
 | _, [] => True
 | n, (i, x) :: r => (match Zar P t i with
  | some (o, s) => x.cells.length = s ∧ o + s ≤ n
  | none => False) ∧ Zat P t n r
def ZaH : AV → Bool
 | .tup _ => false
 | _ => true
def ZdH : AV → Bool
 | .agg _ => true
 | _ => false
def inK : IntKind → Int → Prop
 | .i8, n => -128 ≤ n ∧ n ≤ 127
 | .i16, n => -32768 ≤ n ∧ n ≤ 32767
 | .i32, n => -2147483648 ≤ n ∧ n ≤ 2147483647
 | .i64, n => -9223372036854775808 ≤ n ∧ n ≤ 9223372036854775807
 | .u8, n => 0 ≤ n ∧ n ≤ 255
 | .u16, n => 0 ≤ n ∧ n ≤ 65535
 | .u32, n => 0 ≤ n ∧ n ≤ 4294967295
 | .u64, n => 0 ≤ n ∧ n ≤ 18446744073709551615
def sEq (x y : ByteArray) : Bool := x.data.toList == y.data.toList
def sLt (x y : ByteArray) : Bool := Op.bytesLess x.data.toList y.data.toList
def evBin : BinOp → Value → Value → Prop × Value
 | .add, .int k a, .int k' b => (k = k' ∧ inK k (a + b), .int k (a + b))
 | .sub, .int k a, .int k' b => (k = k' ∧ inK k (a - b), .int k (a - b))
 | .mul, .int k a, .int k' b => (k = k' ∧ inK k (a * b), .int k (a * b))
 | .quo, .int k a, .int k' b => (k = k' ∧ b ≠ 0 ∧ inK k (a.tdiv b), .int k (a.tdiv b))
 | .rem, .int k a, .int k' b => (k = k' ∧ b ≠ 0, .int k (a.tmod b))
 | .eql, .int k a, .int k' b => (k = k', .bool (decide (a = b)))
 | .neq, .int k a, .int k' b => (k = k', .bool (!decide (a = b)))
 | .lss, .int k a, .int k' b => (k = k', .bool (decide (a < b)))
 | .leq, .int k a, .int k' b => (k = k', .bool (decide (a ≤ b)))
 | .gtr, .int k a, .int k' b => (k = k', .bool (decide (b < a)))
 | .geq, .int k a, .int k' b => (k = k', .bool (decide (b ≤ a)))
 | .add, .string x, .string y => (x.size + y.size ≤ 9223372036854775807, .string (x ++ y))
 | .eql, .string x, .string y => (True, .bool (sEq x y))
 | .neq, .string x, .string y => (True, .bool (!sEq x y))
 | .lss, .string x, .string y => (True, .bool (sLt x y))
 | .leq, .string x, .string y => (True, .bool (sLt x y || sEq x y))
 | .gtr, .string x, .string y => (True, .bool (!(sLt x y || sEq x y)))
 | .geq, .string x, .string y => (True, .bool (!sLt x y))
 | .shr, .int k a, .int _ b => (b = 1 ∧ 0 ≤ a, .int k (a / 2))
 | _, _, _ => (False, undef)
def evBB : BinOp → Bool → Bool → Prop × Bool
 | .eql, a, b => (True, a == b)
 | .neq, a, b => (True, a != b)
 | _, _, _ => (False, false)
def Zir (P : Program) (t : TypeId) : Bool :=
 match P.underlying t with | some .bool => true | _ => false
def ZfA (P : Program) (t : TypeId) : AV → AV → Prop
 | .val (.int k _), .val (.int k' _) => (Zkt P t).isSome = true ∧ k = k'
 | .val (.string _), .val (.string _) => ZeY P t = true
 | .val (.bool _), .val (.bool _) => Zir P t = true
 | _, _ => False
def eqCell : AV → AV → Bool
 | .val (.int _ a), .val (.int _ b) => decide (a = b)
 | .val (.string a), .val (.string b) => sEq a b
 | .val (.bool a), .val (.bool b) => a == b
 | _, _ => false
def Zjl : List AV → List AV → Bool
 | [], [] => true
 | x :: xs, y :: ys => eqCell x y && Zjl xs ys
 | _, _ => false
def ZpG (P : Program) : List Field → Nat → List AV → List AV → Prop
 | [], _, [], [] => True
 | f :: fs, i, x :: xs, y :: ys => f.name ≠ "_" ∧ f.offset = i ∧ tyT P f.type = some (1, false) ∧ ZfA P f.type x y ∧ ZpG P fs (i + 1) xs ys
 | _, _, _, _ => False
def eqT (P : Program) (t : TypeId) : Option (List Field) :=
 match P.underlying t with
 | some (.struct fs) => if P.stoodInHeld t = false ∧ P.eqGuardType P.depth t = false then some fs.toList else none
 | _ => none
def Zjr (P : Program) (op : BinOp) (t : TypeId) (xs ys : List AV) : Prop × Bool :=
 match eqT P t, op with
 | some fs, .eql => (ZpG P fs 0 xs ys, Zjl xs ys)
 | some fs, .neq => (ZpG P fs 0 xs ys, !Zjl xs ys)
 | _, _ => (False, false)
def ZgW : AV → List AV
 | .agg xs => xs
 | _ => []
def evUn : UnOp → Value → Prop × Value
 | .not, .bool b => (True, .bool (!b))
 | .neg, .int k a => (inK k (0 - a), .int k (0 - a))
 | _, _ => (False, undef)
def ZeS : AV → Value
 | .val v => v
 | _ => undef
def Zds : AV → Bool
 | .val _ => true
 | _ => false
def Zau : AV → Int
 | .val (.int _ n) => n
 | _ => 0
def ZfY : AV → IntKind
 | .val (.int k _) => k
 | _ => .i64
def Zdn : AV → Bool
 | .val (.int _ _) => true
 | _ => false
def ZaA : AV → List AV
 | .list xs _ => xs
 | _ => []
def Zbi : AV → Bool
 | .list _ _ => true
 | _ => false
def ZiG : AV → Bool
 | .val (.string _) => true
 | _ => false
def Zsj : AV → ByteArray
 | .val (.string s) => s
 | _ => .empty
def Zn5 : AV → Prop
 | .val (.int .u8 n) => 0 ≤ n ∧ n ≤ 255
 | _ => False
def Zd6 (xs : List AV) : ByteArray := ⟨(xs.map fun x => UInt8.ofNat (Zau x).toNat).toArray⟩
def Zdv (l : List UInt8) : List AV := l.map fun b => .val (.int .u8 b.toNat)
def Ze4 (rows : List RowA) (id ver : Nat) : Option (Nat × List AV) :=
 match rows[id]? with
 | some (.vec v sz cs) => if v = ver then some (sz, cs) else none
 | _ => none
def ZaM (st : St) : AV → List AV
 | .box l _ => st.boxes.getD l []
 | .elem x _ => x.cells
 | .vel id ver _ => match Ze4 st.rows id ver with | some (_, cs) => cs | none => []
 | _ => []
def Zdq : AV → Nat
 | .box _ o => o
 | .elem _ o => o
 | .vel _ _ o => o
 | _ => 0
def Zcg (st : St) : AV → Bool
 | .box l _ => decide (l < st.boxes.length)
 | .elem (.tup _) _ => false
 | .elem _ _ => true
 | .vel id ver _ => (Ze4 st.rows id ver).isSome
 | _ => false
def Zj0 (x : AV) (n : Nat) : AV :=
 match x with
 | .box l o => .box l (o + n)
 | .elem y o => .elem y (o + n)
 | .vel id ver o => .vel id ver (o + n)
 | x => x
def ZjR (agg : Bool) (cs : List AV) (off sz : Nat) : AV := if agg then .agg ((cs.drop off).take sz) else nth cs off
def Zk9 (st : St) (a : AV) (xs : List AV) : St :=
 match a with
 | .box l o => { st with boxes := st.boxes.set l (ZbZ (st.boxes.getD l []) o xs) }
 | .vel id ver o => match Ze4 st.rows id ver with
  | some (sz, cs) => { st with rows := st.rows.set id (.vec ver sz (ZbZ cs o xs)) }
  | none => st
 | _ => st
def ZjA : AV → Bool
 | .box _ _ => true
 | .vel _ _ _ => true
 | _ => false
def Zl6 (P : Program) (t : TypeId) (x : AV) : Prop × AV :=
 match x with
 | .val (.string s) => (ZeY P t = true, .val (.int .i64 s.size))
 | .list xs _ => ((elT P t).isSome = true, .val (.int .i64 xs.length))
 | .vec _ _ _ n => ((elT P t).isSome = true, .val (.int .i64 n))
 | _ => (False, .junk)
def Zbk (P : Program) (el sz by8 : Nat) (n : Nat) (xs : List AV) : Prop :=
 0 < sz ∧ (ZbW P el).isSome = true ∧ (n + xs.length) * by8 ≤ 140737488355328 ∧ n + xs.length ≤ 4611686018427387904 ∧ (∀ y ∈ xs, y.cells.length = sz ∧ ZaH y = true)
def ZaS (P : Program) (st : St) (t : TypeId) (s x : AV) : Prop × AV × St :=
 match elT P t with
 | some (el, sz, _, by8) =>
  match s with
  | .list ys .full => if (ZaA x).length = 0 then (Zbi x = true ∧ 0 < sz, .list ys .full, st)
   else (Zbi x = true ∧ Zbk P el sz by8 ys.length (ZaA x) ∧ (∀ y ∈ ys, y.cells.length = sz), .list (ys ++ (ZaA x).map AV.pub) (.row st.rows.length), { st with rows := st.rows ++ [.grow (ys.length + (ZaA x).length) sz] })
  | .list ys (.row id) => (Zbi x = true ∧ Zbk P el sz by8 ys.length (ZaA x) ∧ (∀ y ∈ ys, y.cells.length = sz) ∧ st.rows[id]? = some (.grow ys.length sz), .list (ys ++ (ZaA x).map AV.pub) (.row id), { st with rows := st.rows.set id (.grow (ys.length + (ZaA x).length) sz) })
  | .list ys .seed => (Zbi x = true ∧ Zbk P el sz by8 0 (ZaA x) ∧ ys.length = 0 ∧ 0 < (ZaA x).length, .vec st.rows.length 0 0 (ZaA x).length, { st with rows := st.rows ++ [.vec 0 sz ((ZaA x).flatMap fun y => y.pub.cells)] })
  | .vec id ver o n => match Ze4 st.rows id ver with
   | some (sz', cs) => (Zbi x = true ∧ Zbk P el sz by8 n (ZaA x) ∧ sz' = sz ∧ o = 0 ∧ n * sz ≤ cs.length, .vec id (ver + 1) 0 (n + (ZaA x).length), { st with rows := st.rows.set id (.vec (ver + 1) sz (cs.take (n * sz) ++ (ZaA x).flatMap fun y => y.pub.cells)) })
   | none => (False, .junk, st)
  | _ => (False, .junk, st)
 | none => (False, .junk, st)
def Zb7 (e : Env) (d : Int) : Option Operand → Int
 | some y => Zau (Zan e y)
 | none => d
def ZiL (e : Env) (c : Bool) : Option Operand → Prop
 | some y => ZaE e c y ∧ Zdn (Zan e y) = true
 | none => True
def ZmC (st : St) (x : Prop × AV × St) : Prop × AV × St := (x.1, x.2.1, st)
def Zfg (e : Env) (t : TypeId) : Bool :=
 match ZdS e (1000000 + t) with
 | some _ => true
 | none => false
def Zbp (P : Program) (e : Env) (c : Bool) (st : St) : Op → Prop × AV × St
 | .move x | .assign x => (ZaE e c x, Zan e x, st)
 | .pick b x y => (ZaE e c b ∧ isB (Zan e b) = true ∧ (c = true → Zf7 (Zan e b) = true → ZaE e true x) ∧ (c = true → Zf7 (Zan e b) = false → ZaE e true y), AV.sel (Zf7 (Zan e b)) (Zan e x) (Zan e y), st)
 | .alloc t => match ZbW P t with
  | some z => (c = true, .box st.boxes.length 0, { st with boxes := st.boxes ++ [z] })
  | none => (False, .junk, st)
 | .box _ x => (c = true ∧ ZaE e c x ∧ ZaH (Zan e x) = true, .box st.boxes.length 0, { st with boxes := st.boxes ++ [(Zan e x).cells] })
 | .build t ps => match ZbW P t with
  | some z => (((Zb3 P t).isSome = true ∨ (Zf5 P t).isSome = true) ∧ (∀ p ∈ ps.toList, ZaE e c p.2 ∧ ZaH (Zan e p.2) = true) ∧ Zat P t z.length (ps.toList.map fun p => (p.1, Zan e p.2)), .agg (ZaW P t z (ps.toList.map fun p => (p.1, Zan e p.2))), st)
  | none => (False, .junk, st)
 | .buildSlice t n ps =>
  let vs := ps.toList.map fun p => Zan e p.2
  match elT P t with
  | some (el, sz, _, _) => match Zfg e t with
   | false => ((∀ p ∈ ps.toList, ZaE e c p.2) ∧ ps.toList.map (·.1) = List.range n ∧ n * sz ≤ 16777216 ∧ 0 < sz ∧ (ZbW P el).isSome = true ∧ (∀ x ∈ vs, x.cells.length = sz), .list (vs.map AV.pub) .full, st)
   | true => (c = true ∧ (∀ p ∈ ps.toList, ZaE e c p.2) ∧ ps.toList.map (·.1) = List.range n ∧ n * sz ≤ 16777216 ∧ 0 < sz ∧ (ZbW P el).isSome = true ∧ (∀ x ∈ vs, x.cells.length = sz) ∧ (∀ x ∈ vs, ZaH x = true), .vec st.rows.length 0 0 n, { st with rows := st.rows ++ [.vec 0 sz (vs.flatMap fun x => x.pub.cells)] })
  | none => (False, .junk, st)
 | .load t a => match tyT P t with
  | some (sz, ag) => (ZaE e c a ∧ Zcg st (Zan e a) = true ∧ Zdq (Zan e a) + sz ≤ (ZaM st (Zan e a)).length ∧ (ag = true ∨ sz = 1), ZjR ag (ZaM st (Zan e a)) (Zdq (Zan e a)) sz, st)
  | none => (False, .junk, st)
 | .store t a v => match tyT P t with
  | some (sz, _) => (c = true ∧ ZaE e c a ∧ ZaE e c v ∧ ZjA (Zan e a) = true ∧ Zcg st (Zan e a) = true ∧ ZaH (Zan e v) = true ∧ (Zan e v).cells.length = sz ∧ Zdq (Zan e a) + sz ≤ (ZaM st (Zan e a)).length, .junk, Zk9 st (Zan e a) (Zan e v).cells)
  | none => (False, .junk, st)
 | .nilCheck x => (ZaE e c x ∧ Zcg st (Zan e x) = true, Zan e x, st)
 | .binOp op t x y _ => if isB (Zan e x) && isB (Zan e y) then (ZaE e c x ∧ ZaE e c y ∧ Zir P t = true ∧ (evBB op (Zf7 (Zan e x)) (Zf7 (Zan e y))).1, .val (.bool (evBB op (Zf7 (Zan e x)) (Zf7 (Zan e y))).2), st)
  else if ZdH (Zan e x) && ZdH (Zan e y) then (ZaE e c x ∧ ZaE e c y ∧ (Zjr P op t (ZgW (Zan e x)) (ZgW (Zan e y))).1, .val (.bool (Zjr P op t (ZgW (Zan e x)) (ZgW (Zan e y))).2), st)
  else (ZaE e c x ∧ ZaE e c y ∧ Zds (Zan e x) = true ∧ Zds (Zan e y) = true ∧ (evBin op (ZeS (Zan e x)) (ZeS (Zan e y))).1, .val (evBin op (ZeS (Zan e x)) (ZeS (Zan e y))).2, st)
 | .unOp op _ x => (ZaE e c x ∧ Zds (Zan e x) = true ∧ (evUn op (ZeS (Zan e x))).1, .val (evUn op (ZeS (Zan e x))).2, st)
 | .convert s d x => match Zkt P s, Zkt P d with
  | some _, some k => (ZaE e c x ∧ Zdn (Zan e x) = true ∧ inK k (Zau (Zan e x)), .val (.int k (Zau (Zan e x))), st)
  | some _, none => (ZaE e c x ∧ Zdn (Zan e x) = true ∧ ZeY P d = true, .val (.string (Utf8.encode (Zau (Zan e x)))), st)
  | none, _ => if ZeY P s && ZeY P d then (ZaE e c x ∧ ZiG (Zan e x) = true, Zan e x, st)
   else if Zfy P s && ZeY P d then match Zan e x with
    | .vec id ver o n => match Ze4 st.rows id ver with
     | some (sz', cs) => (ZaE e c x ∧ sz' = 1 ∧ o + n ≤ cs.length ∧ n ≤ 9223372036854775807 ∧ (∀ y ∈ (cs.drop o).take n, Zn5 y), .val (.string (Zd6 ((cs.drop o).take n))), st)
     | none => (False, .junk, st)
    | _ => (ZaE e c x ∧ Zbi (Zan e x) = true ∧ (ZaA (Zan e x)).length ≤ 9223372036854775807 ∧ (∀ y ∈ ZaA (Zan e x), Zn5 y), .val (.string (Zd6 (ZaA (Zan e x)))), st)
   else if ZeY P s && Zfy P d then (c = true ∧ ZaE e c x ∧ ZiG (Zan e x) = true, .list (Zdv (Zsj (Zan e x)).data.toList) .none, st)
   else (False, .junk, st)
 | .makeFunc (.func f) fi cap => (fi.size = 0 ∧ (∀ x ∈ cap.toList, ZaE e c x), .clo f (cap.toList.map (Zan e)), st)
 | .makeSlice t len cap => match elT P t with
  | some (el, sz, _, by8) => match ZbW P el with
   | some z => (c = true ∧ ZaE e c len ∧ ZaE e c cap ∧ Zdn (Zan e len) = true ∧ Zdn (Zan e cap) = true ∧ 0 ≤ Zau (Zan e len) ∧ Zau (Zan e len) ≤ Zau (Zan e cap) ∧ Zau (Zan e cap) * by8 ≤ 140737488355328 ∧ Zau (Zan e cap) ≤ 4611686018427387904 ∧ 0 < sz ∧ z.length = sz ∧ (Zau (Zan e len) = 0 ∨ Zfg e t = true ∨ sz = 1),
     if Zau (Zan e len) = 0 then .list [] (.row st.rows.length) else if Zfg e t = true then .vec st.rows.length 0 0 (Zau (Zan e len)).toNat else .list (List.replicate (Zau (Zan e len)).toNat (nth z 0)) .none,
     if Zau (Zan e len) = 0 then { st with rows := st.rows ++ [.grow 0 sz] } else if Zfg e t = true then { st with rows := st.rows ++ [.vec 0 sz ((List.replicate (Zau (Zan e len)).toNat z).flatten)] } else st)
   | none => (False, .junk, st)
  | none => (False, .junk, st)
 | .slice t x lo hi mx => match Zan e x with
  | .vec id ver o n => match elT P t, Ze4 st.rows id ver with
   | some (_, sz, _, _), some (sz', _) => (ZaE e c x ∧ ZiL e c lo ∧ ZiL e c hi ∧ mx.isNone = true ∧ 0 ≤ Zb7 e 0 lo ∧ Zb7 e 0 lo ≤ Zb7 e n hi ∧ Zb7 e n hi ≤ n ∧ (Zb7 e 0 lo = 0 ∨ Zb7 e 0 lo < n) ∧ sz' = sz, .vec id ver (o + (Zb7 e 0 lo).toNat) ((Zb7 e n hi).toNat - (Zb7 e 0 lo).toNat), st)
   | _, _ => (False, .junk, st)
  | .val (.string s) =>
   (ZeY P t = true ∧ ZaE e c x ∧ ZiL e c lo ∧ ZiL e c hi ∧ mx.isNone = true ∧ 0 ≤ Zb7 e 0 lo ∧ Zb7 e 0 lo ≤ Zb7 e s.size hi ∧ Zb7 e s.size hi ≤ s.size, .val (.string (s.extract (Zb7 e 0 lo).toNat (Zb7 e s.size hi).toNat)), st)
  | .list xs _ => match elT P t with
   | some (_, sz, _, _) => match mx with
    | none => (ZaE e c x ∧ ZiL e c lo ∧ ZiL e c hi ∧ 0 ≤ Zb7 e 0 lo ∧ Zb7 e 0 lo ≤ Zb7 e xs.length hi ∧ Zb7 e xs.length hi ≤ xs.length ∧ (Zb7 e 0 lo = 0 ∨ ∀ y ∈ xs, y.cells.length = sz), .list ((xs.take (Zb7 e xs.length hi).toNat).drop (Zb7 e 0 lo).toNat) .none, st)
    | some m => (ZaE e c x ∧ ZiL e c lo ∧ ZiL e c hi ∧ ZiL e c (some m) ∧ Zb7 e 0 lo = 0 ∧ Zb7 e 1 hi = 0 ∧ Zb7 e 1 (some m) = 0, .list [] .full, st)
   | none => (False, .junk, st)
  | _ => (False, .junk, st)
 | .fieldAddr t x f => match Zfm P t f with
  | some (o, sz, _) => (ZaE e c x ∧ Zcg st (Zan e x) = true ∧ 0 < sz, Zj0 (Zan e x) o, st)
  | none => (False, .junk, st)
 | .field t x f => match Zfm P t f with
  | some (o, sz, ag) => (ZaE e c x ∧ ZdH (Zan e x) = true ∧ o + sz ≤ (Zan e x).cells.length ∧ (ag = true ∨ sz = 1), ZjR ag (Zan e x).cells o sz, st)
  | none => (False, .junk, st)
 | .indexAddr t x i => ZmC st <| match elT P t with
  | some (_, sz, _, _) => match Zan e x with
   | .vec id ver o n => match Ze4 st.rows id ver with
    | some (sz', _) => (ZaE e c x ∧ ZaE e c i ∧ Zdn (Zan e i) = true ∧ 0 ≤ Zau (Zan e i) ∧ Zau (Zan e i) < n ∧ sz' = sz, .vel id ver ((o + (Zau (Zan e i)).toNat) * sz), st)
    | none => (False, .junk, st)
   | _ => (ZaE e c x ∧ ZaE e c i ∧ Zbi (Zan e x) = true ∧ Zdn (Zan e i) = true ∧ 0 ≤ Zau (Zan e i) ∧ Zau (Zan e i) < (ZaA (Zan e x)).length ∧ (nth (ZaA (Zan e x)) (Zau (Zan e i)).toNat).cells.length = sz, .elem (nth (ZaA (Zan e x)) (Zau (Zan e i)).toNat) 0, st)
  | none => match Zf5 P t with
   | some (n, sz, _) => (ZaE e c x ∧ ZaE e c i ∧ Zcg st (Zan e x) = true ∧ Zdn (Zan e i) = true ∧ 0 ≤ Zau (Zan e i) ∧ Zau (Zan e i) < n, Zj0 (Zan e x) ((Zau (Zan e i)).toNat * sz), st)
   | none => (False, .junk, st)
 | .index t x i => ZmC st <| match Zan e x with
  | .val (.string s) => (ZeY P t = true ∧ ZaE e c x ∧ ZaE e c i ∧ Zdn (Zan e i) = true ∧ 0 ≤ Zau (Zan e i) ∧ Zau (Zan e i) < s.size, .val (.int .u8 (s.get! (Zau (Zan e i)).toNat).toNat), st)
  | .agg cs => match Zf5 P t with
   | some (n, sz, ag) => (ZaE e c x ∧ ZaE e c i ∧ Zdn (Zan e i) = true ∧ 0 ≤ Zau (Zan e i) ∧ Zau (Zan e i) < n ∧ cs.length = n * sz ∧ (ag = true ∨ sz = 1), ZjR ag cs ((Zau (Zan e i)).toNat * sz) sz, st)
   | none => (False, .junk, st)
  | _ => (False, .junk, st)
 | .extract x i => ZmC st <| match Zan e x with
  | .tup vs => (ZaE e c x ∧ i < vs.length, nth vs i, st)
  | _ => (False, .junk, st)
 | .call ⟨.builtin .len, args, ts⟩ => match args.toList, ts.toList with
  | [x], [t] => (ZaE e c x ∧ (Zl6 P t (Zan e x)).1, (Zl6 P t (Zan e x)).2, st)
  | _, _ => (False, .junk, st)
 | .call ⟨.builtin .append, args, ts⟩ => match args.toList, ts.toList with
  | [s, x], [t, t'] => (c = true ∧ ZaE e c s ∧ ZaE e c x ∧ t = t' ∧ (ZaS P st t (Zan e s) (Zan e x)).1, (ZaS P st t (Zan e s) (Zan e x)).2)
  | _, _ => (False, .junk, st)
 | .call ⟨.builtin .min, args, _⟩ => match args.toList with
  | [x, y] => (ZaE e c x ∧ ZaE e c y ∧ Zdn (Zan e x) = true ∧ Zdn (Zan e y) = true ∧ True, .val (.int (ZfY (Zan e x)) (if Zau (Zan e y) < Zau (Zan e x) then Zau (Zan e y) else Zau (Zan e x))), st)
  | _ => (False, .junk, st)
 | .call ⟨.builtin .max, args, _⟩ => match args.toList with
  | [x, y] => (ZaE e c x ∧ ZaE e c y ∧ Zdn (Zan e x) = true ∧ Zdn (Zan e y) = true, .val (.int (ZfY (Zan e x)) (if Zau (Zan e x) < Zau (Zan e y) then Zau (Zan e y) else Zau (Zan e x))), st)
  | _ => (False, .junk, st)
 | _ => (False, .junk, st)
def entryOk (w0 : World) (M : Mem) (w : World) (v : Value) (x : Bool × AV) : Prop := if x.1 = true then R w0 M w v x.2 else v = undef
structure LoopSt (w0 : World) (M : Mem) (w : World) (ls : List LoopA) : Prop where
 NL : M.NL = ls.length
 inj : ∀ k k', k < M.NL → k' < M.NL → M.lb k = M.lb k' → k = k'
 record : ∀ k la, ls[k]? = some la → w0.heap.size ≤ M.lb k ∧ ∃ r : Loop, w.heap[M.lb k]? = some (.loop r) ∧ r.state = la.st ∧ r.pending = la.pend ∧ r.params = la.ps ∧ r.assign = la.asg ∧ r.body = la.body ∧
  r.tmps.size = la.n ∧ ∀ s x, ZdS la.e s = some x → entryOk w0 M w (r.tmps.getD s undef) x
theorem entryOk.mono {w0 : World} {M M' : Mem} {w w' : World} (hx : Ext w0 M w M' w') {v : Value} {x : Bool × AV} (h : entryOk w0 M w v x) : entryOk w0 M' w' v x := by
 unfold entryOk at *
 split
 ·
  rename_i c; rw [if_pos c] at h; exact h.mono hx
 ·
  rename_i c; rw [if_neg c] at h; exact h
theorem LoopSt.mono {w0 : World} {M M' : Mem} {w w' : World} {ls : List LoopA} (h : LoopSt w0 M w ls) (hx : Ext w0 M w M' w') (hN : M'.NL = M.NL) (hk : KeepsObj w w') : LoopSt w0 M' w' ls where
 NL := hN.trans h.NL
 inj := fun k k' h1 h2 e => h.inj k k' (hN ▸ h1) (hN ▸ h2) (by rw [hx.lb k (hN ▸ h1), hx.lb k' (hN ▸ h2)] at e; exact e)
 record := fun k la hla => by
  have hk1 : k < M.NL := by rw [h.NL]; exact (List.getElem?_eq_some_iff.1 hla).1
  obtain ⟨a1, r, a2, a3, a4, a5, a6, a7, a8, a9⟩ := h.record k la hla
  rw [hx.lb k hk1]
  exact ⟨a1, r, hk _ _ a2 rfl, a3, a4, a5, a6, a7, a8, fun s x hs => (a9 s x hs).mono hx⟩
def RowOk (w0 : World) (M : Mem) (w : World) (id : Nat) : RowA → Prop
 | .grow n sz => M.fr id = n ∧ M.rsz id = sz ∧ w0.heap.size ≤ M.blk id ∧ M.top (M.blk id) = n * sz ∧ (∀ l, l < M.N → M.bx l ≠ M.blk id) ∧ M.cap id ≤ maxLen ∧ n ≤ M.cap id ∧
  ∃ c ty, w.heap[M.blk id]? = some (.cells c ty (0, 0)) ∧ c.size = M.cap id * sz
 | .vec ver sz cs => M.fr id = ver ∧ M.rsz id = sz ∧ w0.heap.size ≤ M.blk id ∧ M.top (M.blk id) = 0 ∧ (∀ l, l < M.N → M.bx l ≠ M.blk id) ∧ M.cap id ≤ maxLen ∧ 0 < sz ∧
  ∃ c ty, w.heap[M.blk id]? = some (.cells c ty (0, 0)) ∧ c.size = M.cap id * sz ∧ cs.length ≤ c.size ∧ (∀ x ∈ cs, x.one = true) ∧ ∀ i (h1 : i < c.size) (h2 : i < cs.length), R w0 M w c[i] cs[i]
 | .dead ver => M.fr id = ver ∧ w0.heap.size ≤ M.blk id ∧ (∀ l, l < M.N → M.bx l ≠ M.blk id) ∧ M.blk id < w.heap.size
theorem RowOk.base {w0 : World} {M : Mem} {w : World} {id : Nat} {x : RowA} (h : RowOk w0 M w id x) : w0.heap.size ≤ M.blk id := by
 cases x with
 | grow n sz => exact h.2.2.1
 | vec v sz cs => exact h.2.2.1
 | dead v => exact h.2.1
theorem RowOk.ne {w0 : World} {M : Mem} {w : World} {id : Nat} {x : RowA} (h : RowOk w0 M w id x) : ∀ l, l < M.N → M.bx l ≠ M.blk id := by
 cases x with
 | grow n sz => exact h.2.2.2.2.1
 | vec v sz cs => exact h.2.2.2.2.1
 | dead v => exact h.2.2.1
theorem RowOk.lt {w0 : World} {M : Mem} {w : World} {id : Nat} {x : RowA} (h : RowOk w0 M w id x) : M.blk id < w.heap.size := by
 cases x with
 | grow n sz => obtain ⟨_, _, _, _, _, _, _, c, ty, hc, _⟩ := h; exact (Array.getElem?_eq_some_iff.1 hc).1
 | vec v sz cs => obtain ⟨_, _, _, _, _, _, _, c, ty, hc, _⟩ := h; exact (Array.getElem?_eq_some_iff.1 hc).1
 | dead v => exact h.2.2.2
theorem RowOk.keep {w0 : World} {M M' : Mem} {w w' : World} {id : Nat} {x : RowA} (h : RowOk w0 M w id x) (hx : Ext w0 M w M' w') (e1 : M'.fr id = M.fr id) (e2 : M'.rsz id = M.rsz id) (e3 : M'.blk id = M.blk id) (e4 : M'.cap id = M.cap id)
  (e5 : M'.top (M.blk id) = M.top (M.blk id)) (e6 : ∀ l, l < M'.N → M'.bx l ≠ M.blk id) (e7 : w'.heap[M.blk id]? = w.heap[M.blk id]?) : RowOk w0 M' w' id x := by
 cases x with
 | grow n sz =>
  obtain ⟨a1, a2, a3, a4, a5, a6, a7, c, ty, a8, a9⟩ := h
  simp only [RowOk, e1, e2, e3, e4, e5, e7]
  exact ⟨a1, a2, a3, a4, e6, a6, a7, c, ty, a8, a9⟩
 | vec v sz cs =>
  obtain ⟨a1, a2, a3, a4, a5, a6, a7, c, ty, a8, a9, b1, b2, b3⟩ := h
  simp only [RowOk, e1, e2, e3, e4, e5, e7]
  exact ⟨a1, a2, a3, a4, e6, a6, a7, c, ty, a8, a9, b1, b2, fun i h1 h2 => (b3 i h1 h2).mono hx⟩
 | dead v =>
  obtain ⟨a1, a2, a3, a4⟩ := h
  simp only [RowOk, e1, e3]
  exact ⟨a1, a2, e6, Nat.lt_of_lt_of_le a4 hx.size⟩
structure RelSt (w0 : World) (M : Mem) (st : St) (w : World) : Prop where
 below : Below w0.heap.size w0 w
 N : M.N = st.boxes.length
 NR : M.NR = st.rows.length
 top : ∀ b, w.heap.size ≤ b → M.top b = 0
 inj : ∀ l l', l < M.N → l' < M.N → M.bx l = M.bx l' → l = l'
 box : ∀ l cs, st.boxes[l]? = some cs → w0.heap.size ≤ M.bx l ∧ M.top (M.bx l) = 0 ∧ ∃ c ty, w.heap[M.bx l]? = some (.cells c ty (0, 0)) ∧ c.size = cs.length ∧ (∀ x ∈ cs, x.one = true) ∧
  ∀ i (h1 : i < c.size) (h2 : i < cs.length), R w0 M w c[i] cs[i]
 row : ∀ id x, st.rows[id]? = some x → RowOk w0 M w id x
 rowinj : ∀ i j, i < M.NR → j < M.NR → M.blk i = M.blk j → i = j
 loop : LoopSt w0 M w st.loops
structure Rel (w0 : World) (n : Nat) (M : Mem) (e : Env) (st : St) (a : Act) (w : World) : Prop where
 st : RelSt w0 M st w
 size : a.tmps.size = n
 env : ∀ s x, ZdS e s = some x → entryOk w0 M w (a.tmps.getD s undef) x
section
variable {P : Program} {w0 : World} {n : Nat} {M : Mem} {e : Env} {st : St} {a : Act} {w : World}
theorem ZgQ {t : TypeId} {s : Nat} {b : Bool} (h : tyT P t = some (s, b)) : ∃ i d, P.info? t = some i ∧ i.size = s ∧ P.underlying t = some d ∧ (match d with | .struct _ | .array _ _ => true | _ => false) = b := by
 unfold tyT at h
 split at h
 ·
  rename_i i d h1 h2
  simp only [Option.some.injEq, Prod.mk.injEq] at h
  exact ⟨i, d, h1, h.1, h2, h.2⟩
 ·
  cases h
theorem ZaT {t : TypeId} {s : Nat} {b : Bool} (h : tyT P t = some (s, b)) (w : World) : (sizeOf t).run P w = .ok s w := by
 obtain ⟨i, d, h1, h2, _, _⟩ := ZgQ h
 simp [sizeOf, typeInfo, h1, h2]
theorem ZjZ {t : TypeId} {s : Nat} {b : Bool} (h : tyT P t = some (s, b)) (w : World) : (isAgg t).run P w = .ok b w := by
 obtain ⟨i, d, _, _, h3, h4⟩ := ZgQ h
 unfold isAgg
 rw [Sem.run_bind, run_underlying h3 w]
 subst h4
 cases d <;> rfl
theorem Zlu {t : TypeId} {f o s : Nat} {b : Bool} (h : Zfm P t f = some (o, s, b)) : ∃ fs x, P.underlying t = some (.struct fs) ∧ fs[f]? = some x ∧ x.offset = o ∧ tyT P x.type = some (s, b) := by
 unfold Zfm at h
 split at h
 ·
  rename_i fs h1
  split at h
  ·
   rename_i x h2
   obtain ⟨⟨s', b'⟩, h3, h4⟩ := Option.map_eq_some_iff.1 h
   simp only [Prod.mk.injEq] at h4
   obtain ⟨rfl, rfl, rfl⟩ := h4
   exact ⟨fs, x, h1, h2, rfl, h3⟩
  ·
   cases h
 ·
  cases h
theorem Zdy {t el : TypeId} {s by8 : Nat} {b : Bool} (h : elT P t = some (el, s, b, by8)) : ∃ i, P.underlying t = some (.slice el) ∧ P.info? el = some i ∧ i.bytes = by8 ∧ tyT P el = some (s, b) := by
 unfold elT at h
 split at h
 ·
  rename_i e' h1
  split at h
  ·
   rename_i i s' b' h2 h3
   simp only [Option.some.injEq, Prod.mk.injEq] at h
   obtain ⟨rfl, rfl, rfl, rfl⟩ := h
   exact ⟨i, h1, h2, rfl, h3⟩
  ·
   cases h
 ·
  cases h
theorem Zje {t : TypeId} {m s : Nat} {b : Bool} (h : Zf5 P t = some (m, s, b)) : ∃ el, P.underlying t = some (.array m el) ∧ tyT P el = some (s, b) := by
 unfold Zf5 at h
 split at h
 ·
  rename_i m' el h1
  obtain ⟨⟨s', b'⟩, h3, h4⟩ := Option.map_eq_some_iff.1 h
  simp only [Prod.mk.injEq] at h4
  obtain ⟨rfl, rfl, rfl⟩ := h4
  exact ⟨el, h1, h3⟩
 ·
  cases h
theorem ZcI {t : TypeId} (h : ZeY P t = true) : P.underlying t = some .string := by
 unfold ZeY at h
 split at h
 ·
  assumption
 ·
  cases h
theorem ZiT {t : TypeId} {k : IntKind} (h : Zkt P t = some k) : P.underlying t = some (.int k) := by
 unfold Zkt at h
 split at h
 ·
  rename_i k' h1; cases h; exact h1
 ·
  cases h
theorem ZoJ : R w0 M w undef .junk := .tup rfl (fun i h1 => absurd h1 (by simp))
theorem ZmS {v : Value} (h : Zjz v = true) : R w0 M w v (Zhu v) := by
 unfold Zhu
 split
 ·
  exact .nil (fun id => by simp)
 ·
  rename_i hne
  refine .flat ?_
  unfold Zjz at h
  split at h
  ·
   exact absurd rfl hne
  ·
   exact h
theorem Znw {v : Value} (h : Zjz v = true) : (Zhu v).one = true := by
 unfold Zhu
 split <;> rfl
theorem ZiV {v : Value} (h : Zh4 v = true) : R w0 M w v (Zge v) := by
 cases v with
 | agg cs =>
  have h' : ∀ x ∈ cs.toList, Zjz x = true := List.all_eq_true.1 h
  refine .agg (by simp) (fun x hx => ?_) (fun i h1 h2 => ?_)
  ·
   obtain ⟨y, hy, rfl⟩ := List.mem_map.1 hx
   exact Znw (h' y hy)
  ·
   simp only [List.getElem_map, Array.getElem_toList]
   exact ZmS (h' _ (by simp))
 | _ => exact ZmS h
theorem ZaY (h : Rel w0 n M e st a w) {x : Operand} (ho : ZaE e true x) : R w0 M w (a.eval x) (Zan e x) := by
 cases x with
 | tmp t =>
  simp only [ZaE, Zan] at *
  cases hl : ZdS e t with
  | none => simp [hl] at ho
  | some x =>
   obtain ⟨c', v⟩ := x
   simp only [hl] at ho ⊢
   have := h.env t _ hl
   unfold entryOk at this
   rw [if_pos (by simpa using ho)] at this
   exact this
 | const v => exact ZiV ho
 | func f => exact .clo rfl (fun i h1 => absurd h1 (by simp))
 | global g => exact ho.elim
theorem R.val_inv {v u : Value} (h : R w0 M w v (.val u)) : v = u ∧ Zgb u = true := by cases h; exact ⟨rfl, ‹_›⟩
theorem R.plain {v : Value} {x : AV} (h : R w0 M w v x) (hp : Zds x = true) : v = ZeS x ∧ Zgb (ZeS x) = true ∧ x = .val (ZeS x) := by
 cases x with
 | val u => obtain ⟨rfl, hf⟩ := h.val_inv; exact ⟨rfl, hf, rfl⟩
 | _ => cases hp
theorem R.int {v : Value} {x : AV} (h : R w0 M w v x) (hp : Zdn x = true) : v = .int (ZfY x) (Zau x) ∧ x = .val (.int (ZfY x) (Zau x)) := by
 cases x with
 | val u =>
  obtain ⟨rfl, hf⟩ := h.val_inv
  cases v <;> first | exact ⟨rfl, rfl⟩ | cases hp
 | _ => cases hp
theorem R.bool {v : Value} {x : AV} (h : R w0 M w v x) (hp : isB x = true) : v = .bool (Zf7 x) ∧ x = .val (.bool (Zf7 x)) := by
 cases x with
 | val u =>
  obtain ⟨rfl, hf⟩ := h.val_inv
  cases v <;> first | exact ⟨rfl, rfl⟩ | cases hp
 | _ => cases hp
def Yields' (P : Program) (w0 : World) (M : Mem) (st' : St) (r : AV) (w : World) (s : Sem Next) : Prop :=
 ∃ v w' M', (s.run P w = .ok (.value v) w' ∨ (s.run P w = .ok .skip w' ∧ v = undef)) ∧ Ext w0 M w M' w' ∧ RelSt w0 M' st' w' ∧ R w0 M' w' v r
theorem ZfU (hst : RelSt w0 M st w) {s : Sem Next} {v : Value} {r : AV} (hs : s.run P w = .ok (.value v) w) (hr : R w0 M w v r) : Yields' P w0 M st r w s :=
 ⟨v, w, M, .inl hs, Ext.refl _ _ _, hst, hr⟩
theorem ZgN {k : IntKind} {m : Int} (h : inK k m) : k.wrap m = m := by
 cases k <;> simp only [inK] at h <;> simp only [IntKind.wrap, IntKind.signed, IntKind.bits] <;> simp <;> omega
theorem Zii (x y : ByteArray) : (x.toList == y.toList) = sEq x y := by
 unfold sEq
 rw [Lib.toList_data, Lib.toList_data]
theorem ZmG {op : BinOp} {x y : Value} {t : TypeId} {X Y : Operand} (h : (evBin op x y).1) :
  (do eqGuard op t X Y x y; binOp op t x y : Sem Value).run P w = .ok (evBin op x y).2 w := by
 unfold evBin at h ⊢
 split at h <;> simp only at h ⊢ <;> try exact h.elim
 case h_1 k a k' b => obtain ⟨rfl, h⟩ := h; simp [eqGuard, binOp, Op.intArith, ZgN h]
 case h_2 k a k' b => obtain ⟨rfl, h⟩ := h; simp [eqGuard, binOp, Op.intArith, ZgN h]
 case h_3 k a k' b => obtain ⟨rfl, h⟩ := h; simp [eqGuard, binOp, Op.intArith, ZgN h]
 case h_4 k a k' b =>
  obtain ⟨rfl, hb, h⟩ := h
  simp [eqGuard, binOp, Op.intDiv, hb, ZgN h]
 case h_5 k a k' b =>
  obtain ⟨rfl, hb⟩ := h
  simp [eqGuard, binOp, Op.intDiv, hb]
 case h_6 k a k' b => subst h; simp [eqGuard, binOp, Op.intCmp]; rfl
 case h_7 k a k' b => subst h; simp [eqGuard, binOp, Op.intCmp]; rfl
 case h_8 k a k' b => subst h; simp [eqGuard, binOp, Op.intCmp]
 case h_9 k a k' b => subst h; simp [eqGuard, binOp, Op.intCmp]
 case h_10 k a k' b => subst h; simp [eqGuard, binOp, Op.intCmp]
 case h_11 k a k' b => subst h; simp [eqGuard, binOp, Op.intCmp]
 case h_12 x y =>
  have e : ¬ (((x.size + y.size : Nat) : Int) > IntKind.i64.max) := by simp [IntKind.max, IntKind.signed, IntKind.bits]; omega
  simp only [eqGuard, binOp, Op.stringOp, if_neg e]
  simp
 case h_13 x y => simp [eqGuard, binOp, Op.stringOp, Zii]
 case h_14 x y => simp [eqGuard, binOp, Op.stringOp, Zii]
 case h_15 x y => simp [eqGuard, binOp, Op.stringOp, Lib.toList_data, sLt]
 case h_16 x y => simp [eqGuard, binOp, Op.stringOp, Lib.toList_data, sLt, sEq]
 case h_17 x y => simp [eqGuard, binOp, Op.stringOp, Lib.toList_data, sLt, sEq]
 case h_18 x y => simp [eqGuard, binOp, Op.stringOp, Lib.toList_data, sLt]
 case h_19 k a k' b =>
  obtain ⟨rfl, h⟩ := h
  have e : Nat.min (Int.toNat 1) k.bits = 1 := by cases k <;> rfl
  have e2 : min (Int.toNat 1) k.bits = 1 := by cases k <;> rfl
  simp only [eqGuard, binOp, Op.shift, e, e2]
  simp [Int.fdiv_eq_ediv_of_nonneg]
section
theorem ZlU {d : Nat} {t : TypeId} {u v : Value} (h : ZfA P t (.val u) (.val v)) : (Op.equalIn (d + 1) t u v).run P w = .ok (eqCell (.val u) (.val v)) w := by
 unfold ZfA at h
 split at h
 ·
  rename_i k a k' b e1 e2
  cases e1; cases e2
  obtain ⟨h1, rfl⟩ := h
  unfold Zkt at h1
  split at h1
  ·
   rename_i k1 hk
   rw [run_equalIn_int w d t _ k1 a b hk]; rfl
  ·
   cases h1
 ·
  rename_i a b e1 e2
  cases e1; cases e2
  unfold ZeY at h
  split at h
  ·
   rename_i hk
   rw [run_equalIn_string w d t a b hk, Zii]; rfl
  ·
   cases h
 ·
  rename_i a b e1 e2
  cases e1; cases e2
  unfold Zir at h
  split at h
  ·
   rename_i hk
   rw [run_equalIn_bool' w d t a b hk]; rfl
  ·
   cases h
 ·
  exact h.elim
theorem ZlY {t : TypeId} {x y : AV} (h : ZfA P t x y) : ∃ u v, x = .val u ∧ y = .val v := by
 unfold ZfA at h
 split at h
 ·
  exact ⟨_, _, rfl, rfl⟩
 ·
  exact ⟨_, _, rfl, rfl⟩
 ·
  exact ⟨_, _, rfl, rfl⟩
 ·
  exact h.elim
theorem ZmR {t : TypeId} (ht : tyT P t = some (1, false)) {cs : Array Value} {i : Nat} {v : Value} (h : cs[i]? = some v) : (part t cs i).run P w = .ok v w := by
 obtain ⟨i0, d, h1, h2, h3, h4⟩ := ZgQ ht
 have ha : (isAgg t).run P w = .ok false w := by
  simp only [isAgg, Sem.run_bind, run_underlying h3, Result.andThen_ok]
  cases d <;> first | (cases h4; done) | rfl | (cases h4; rfl)
 simp [part, ha, h]
theorem Zfe (d : Nat) {cs ds : Array Value} : ∀ (fs : List Field) (i : Nat) (xs ys : List AV), ZpG P fs i xs ys → (∀ j v, xs[j]? = some (.val v) → cs[i + j]? = some v) → (∀ j v, ys[j]? = some (.val v) → ds[i + j]? = some v) →
  (Op.eqFields (d + 1) cs ds fs).run P w = .ok (Zjl xs ys) w
 | [], _, [], [], _, _, _ => by simp [Op.eqFields, Zjl]
 | f :: fs, i, x :: xs, y :: ys, h, hx, hy => by
  obtain ⟨h1, rfl, h3, h4, h5⟩ := h
  obtain ⟨u, v, rfl, rfl⟩ := ZlY h4
  have e1 := ZmR (w := w) h3 (hx 0 u rfl)
  have e2 := ZmR (w := w) h3 (hy 0 v rfl)
  simp only [Nat.add_zero] at e1 e2
  have ih := Zfe d fs _ xs ys h5 (fun j v hj => by rw [Nat.add_assoc, Nat.add_comm 1 j]; exact hx (j + 1) v hj) (fun j v hj => by rw [Nat.add_assoc, Nat.add_comm 1 j]; exact hy (j + 1) v hj)
  simp only [Op.eqFields, if_pos h1, Sem.run_bind, e1, e2, Result.andThen_ok, ZlU h4, Zjl]
  cases hc : eqCell (.val u) (.val v)
  ·
   simp
  ·
   simp [ih]
 | [], _, [], _ :: _, h, _, _ => h.elim
 | [], _, _ :: _, _, h, _, _ => h.elim
 | _ :: _, _, [], _, h, _, _ => h.elim
 | _ :: _, _, _ :: _, [], h, _, _ => h.elim
theorem Zon {op : BinOp} {t : TypeId} {cs ds : Array Value} {xs ys : List AV} {X Y : Operand} (h : (Zjr P op t xs ys).1) (hx : ∀ (j : Nat) (v : Value), xs[j]? = some (.val v) → cs[j]? = some v) (hy : ∀ (j : Nat) (v : Value), ys[j]? = some (.val v) → ds[j]? = some v) :
  (do eqGuard op t X Y (.agg cs) (.agg ds); binOp op t (.agg cs) (.agg ds) : Sem Value).run P w = .ok (.bool (Zjr P op t xs ys).2) w := by
 unfold Zjr at h ⊢
 unfold eqT at h ⊢
 cases hu : P.underlying t with
 | none => rw [hu] at h; exact h.elim
 | some d =>
  cases d <;> (try (rw [hu] at h; exact h.elim))
  rename_i fs
  rw [hu] at h
  simp only at h ⊢
  by_cases hc : P.stoodInHeld t = false ∧ P.eqGuardType P.depth t = false
  ·
   rw [if_pos hc] at h ⊢
   have hf : P.fieldsOf t = fs := by unfold Program.fieldsOf; rw [hu]
   have hu' : P.underlying t = some (.struct (P.fieldsOf t)) := by rw [hf]; exact hu
   cases op <;> simp only at h ⊢ <;> (try exact h.elim)
   ·
    have := Zfe (P := P) (w := w) 9998 fs.toList 0 xs ys h (fun j v hj => by rw [Nat.zero_add]; exact hx j v hj) (fun j v hj => by rw [Nat.zero_add]; exact hy j v hj)
    simp only [Sem.run_bind, run_eqGuard_agg w _ t X Y cs ds hc.2, Result.andThen_ok, run_eql_struct, run_equalIn_agg w 9999 t cs ds hu' hc.1, hf, this]
   ·
    have := Zfe (P := P) (w := w) 9998 fs.toList 0 xs ys h (fun j v hj => by rw [Nat.zero_add]; exact hx j v hj) (fun j v hj => by rw [Nat.zero_add]; exact hy j v hj)
    simp only [Sem.run_bind, run_eqGuard_agg w _ t X Y cs ds hc.2, Result.andThen_ok, run_neq_struct, run_equalIn_agg w 9999 t cs ds hu' hc.1, hf, this]
  ·
   rw [if_neg hc] at h; exact h.elim
end
theorem R.aggC {w0 : World} {M : Mem} {w : World} {v : Value} {x : AV} (h : R w0 M w v x) (hx : ZdH x = true) : ∃ cs, v = .agg cs ∧ ∀ (j : Nat) (u : Value), (ZgW x)[j]? = some (.val u) → cs[j]? = some u := by
 cases h with
 | @agg cs xs hl h1 h =>
  refine ⟨cs, rfl, fun j u hj => ?_⟩
  replace hj : xs[j]? = some (.val u) := hj
  obtain ⟨hj1, hj2⟩ := List.getElem?_eq_some_iff.1 hj
  have hr := h j (by omega) hj1
  have hj2' : xs[j]'hj1 = .val u := hj2
  rw [hj2'] at hr
  have hj3 : j < cs.size := by omega
  rw [Array.getElem?_eq_getElem hj3]
  generalize cs[j] = q at hr
  cases hr
  rfl
 | _ => cases hx
theorem ZnQ {op : BinOp} {x y : Value} (h : (evBin op x y).1) : Zgb (evBin op x y).2 = true := by
 unfold evBin at h ⊢
 split at h <;> simp only at h ⊢ <;> try first | exact h.elim | rfl
 rename_i x y
 have e : (x ++ y).size = x.size + y.size := ByteArray.size_append
 simp only [Zgb, maxLen, e]
 simp
 omega
theorem ZnH {op : UnOp} {x : Value} (h : (evUn op x).1) : (Op.unary op x).run P w = .ok (evUn op x).2 w := by
 unfold evUn at h ⊢
 split at h <;> simp only at h ⊢ <;> try exact h.elim
 ·
  simp [Op.unary]
 ·
  have e := ZgN h
  simp only [Op.unary, Op.intArith, e]
  rfl
theorem ZoW {op : UnOp} {x : Value} (h : (evUn op x).1) : Zgb (evUn op x).2 = true := by
 unfold evUn at h ⊢
 split at h <;> simp only at h ⊢ <;> first | exact h.elim | rfl
theorem ZcD (b o j : Nat) : (⟨b, o, none⟩ : Addr).add j = ⟨b, o + j, none⟩ := by
 unfold Addr.add
 split
 ·
  subst j; rfl
 ·
  rfl
theorem ZdD {rows : List RowA} {id ver sz : Nat} {cs : List AV} (h : Ze4 rows id ver = some (sz, cs)) : rows[id]? = some (.vec ver sz cs) := by
 unfold Ze4 at h
 split at h
 ·
  rename_i v s c he
  split at h
  ·
   rename_i hv; cases h; rw [he, hv]
  ·
   cases h
 ·
  cases h
theorem Zjb {rows : List RowA} {id ver : Nat} (h : (Ze4 rows id ver).isSome = true) : ∃ sz cs, Ze4 rows id ver = some (sz, cs) := by
 obtain ⟨⟨a, b⟩, h⟩ := Option.isSome_iff_exists.1 h
 exact ⟨a, b, h⟩
theorem ZmV (hst : RelSt w0 M st w) {v : Value} {x : AV} (h : R w0 M w v x) (hr : Zcg st x = true) :
  ∃ b o, v = .pointer (some ⟨b, o + Zdq x, none⟩) ∧ (∀ c ∈ ZaM st x, c.one = true) ∧ ∀ j (hj : j < (ZaM st x).length), ∃ u, w.cell? ⟨b, o + j, none⟩ = some u ∧ R w0 M w u (ZaM st x)[j] := by
 cases x with
 | box l off =>
  cases h with
  | box hl =>
   have hl' : l < st.boxes.length := by simpa [Zcg] using hr
   obtain ⟨cs, hcs⟩ : ∃ cs, st.boxes[l]? = some cs := ⟨_, List.getElem?_eq_getElem hl'⟩
   obtain ⟨_, _, c, ty, hb, hsz, h1, hR⟩ := hst.box l cs hcs
   have e : ZaM st (.box l off) = cs := by simp [ZaM, List.getD, hcs]
   refine ⟨M.bx l, 0, by simp [Zdq], by rw [e]; exact h1, fun j hj => ?_⟩
   simp only [e] at hj ⊢
   refine ⟨c[j]'(by omega), ?_, hR j (by omega) hj⟩
   rw [Nat.zero_add, cell_of_row w _ j c ty _ hb]
   exact Array.getElem?_eq_getElem (by omega)
 | elem y k =>
  cases h with
  | @elem b off x u k hcell hu =>
   obtain ⟨hs, hR⟩ := hu.cells
   refine ⟨b, off, rfl, ?_, fun j hj => ?_⟩
   ·
    refine hu.cellsOne (fun vs hv => ?_)
    subst hv
    simp [Zcg] at hr
   ·
    have hj' : j < u.cells.size := by rw [hs]; exact hj
    refine ⟨u.cells[j], ?_, hR j hj' hj⟩
    rw [(hcell j hj').2]
    exact Array.getElem?_eq_getElem hj'
 | vel id ver off =>
  cases h with
  | @vel _ _ _ a hi hv hh =>
   obtain ⟨sz, cs, hcs⟩ := Zjb (show (Ze4 st.rows id ver).isSome = true from hr)
   obtain ⟨f1, f2, f3, f4, f5, f6, f7, c, ty, f8, f9, f10, f11, f12⟩ := hst.row id _ (ZdD hcs)
   have e : ZaM st (.vel id ver off) = cs := by simp [ZaM, hcs]
   refine ⟨M.blk id, 0, by rw [hh f1.symm]; simp [Zdq], by rw [e]; exact f11, fun j hj => ?_⟩
   simp only [e] at hj ⊢
   refine ⟨c[j]'(by omega), ?_, f12 j (by omega) hj⟩
   rw [Nat.zero_add, cell_of_row w _ j c ty _ f8]
   exact Array.getElem?_eq_getElem (by omega)
 | _ => cases hr
theorem Yields'.value {s : Sem Value} {st' : St} {r : AV} (h : ∃ v w' M', s.run P w = .ok v w' ∧ Ext w0 M w M' w' ∧ RelSt w0 M' st' w' ∧ R w0 M' w' v r) :
  Yields' P w0 M st' r w (do pure (.value (← s))) := by
 obtain ⟨v, w', M', hs, h1, h2, h3⟩ := h
 exact ⟨v, w', M', .inl (by simp [hs]), h1, h2, h3⟩
theorem Yields'.here (hst : RelSt w0 M st w) {s : Sem Value} {v : Value} {r : AV} (hs : s.run P w = .ok v w) (hr : R w0 M w v r) :
  Yields' P w0 M st r w (do pure (.value (← s))) := .value ⟨v, w, M, hs, Ext.refl _ _ _, hst, hr⟩
theorem Zni {t : TypeId} (h : Zir P t = true) : P.underlying t = some .bool := by
 unfold Zir at h
 split at h
 ·
  assumption
 ·
  cases h
theorem ZpF {op : BinOp} {a b : Bool} {t : TypeId} {X Y : Operand} (ht : Zir P t = true) (h : (evBB op a b).1) : (do eqGuard op t X Y (.bool a) (.bool b); binOp op t (.bool a) (.bool b) : Sem Value).run P w = .ok (.bool (evBB op a b).2) w := by
 have hu := Zni ht
 cases op <;> try exact h.elim
 ·
  simp [eqGuard, binOp, run_equal_bool w t a b hu, evBB]
 ·
  simp [eqGuard, binOp, run_equal_bool w t a b hu, evBB]; cases a <;> cases b <;> rfl
theorem Zpy (h : Rel w0 n M e st a w) (op : BinOp) (t : TypeId) (x y : Operand) (u : TypeId) (hob : (Zbp P e true st (.binOp op t x y u)).1) :
  Yields' P w0 M (Zbp P e true st (.binOp op t x y u)).2.2 (Zbp P e true st (.binOp op t x y u)).2.1 w (do pure (.value (← (do eqGuard op t x y (a.eval x) (a.eval y); binOp op t (a.eval x) (a.eval y))))) := by
 simp only [Zbp] at hob ⊢
 by_cases hc : (isB (Zan e x) && isB (Zan e y)) = true
 ·
  rw [if_pos hc] at hob ⊢
  simp only [Bool.and_eq_true] at hc
  obtain ⟨hx, hy, ht, hb⟩ := hob
  obtain ⟨ex, _⟩ := (ZaY h hx).bool hc.1
  obtain ⟨ey, _⟩ := (ZaY h hy).bool hc.2
  rw [ex, ey]
  exact .here h.st (ZpF ht hb) (.flat rfl)
 ·
  rw [if_neg hc] at hob ⊢
  by_cases hg : (ZdH (Zan e x) && ZdH (Zan e y)) = true
  ·
   rw [if_pos hg] at hob ⊢
   simp only [Bool.and_eq_true] at hg
   obtain ⟨hx, hy, hb⟩ := hob
   obtain ⟨cs, ex, hcs⟩ := (ZaY h hx).aggC hg.1
   obtain ⟨ds, ey, hds⟩ := (ZaY h hy).aggC hg.2
   rw [ex, ey]
   exact .here h.st (Zon hb hcs hds) (.flat rfl)
  rw [if_neg hg] at hob ⊢
  obtain ⟨hx, hy, px, py, hb⟩ := hob
  obtain ⟨ex, _, _⟩ := (ZaY h hx).plain px
  obtain ⟨ey, _, _⟩ := (ZaY h hy).plain py
  rw [ex, ey]
  exact .here h.st (ZmG hb) (.flat (ZnQ hb))
theorem ZrQ (h : Rel w0 n M e st a w) (op : UnOp) (t : TypeId) (x : Operand) (hob : (Zbp P e true st (.unOp op t x)).1) :
  Yields' P w0 M st (.val (evUn op (ZeS (Zan e x))).2) w (do pure (.value (← Op.unary op (a.eval x)))) := by
 obtain ⟨hx, px, hb⟩ := hob
 obtain ⟨ex, _, _⟩ := (ZaY h hx).plain px
 rw [ex]
 exact .here h.st (ZnH hb) (.flat (ZoW hb))
theorem Zwc {t : Bool} {u v : Value} {x y : AV} (hx : t = true → R w0 M w u x) (hy : t = false → R w0 M w v y) : R w0 M w (if t then u else v) (AV.sel t x y) := by
 have hf : AV.sel false x y = y := by unfold AV.sel; split <;> rfl
 have ht : AV.sel true x y = x := by unfold AV.sel; split <;> rfl
 cases t
 ·
  rw [hf]; exact hy rfl
 ·
  rw [ht]; exact hx rfl
theorem Zst (h : Rel w0 n M e st a w) (b x y : Operand) (hob : (Zbp P e true st (.pick b x y)).1) :
  Yields' P w0 M st (AV.sel (Zf7 (Zan e b)) (Zan e x) (Zan e y)) w (do pure (.value (if ← asBool (a.eval b) then a.eval x else a.eval y))) := by
 obtain ⟨hb, isb, hx, hy⟩ := hob
 obtain ⟨eb, _⟩ := (ZaY h hb).bool isb
 refine ZfU h.st (v := if Zf7 (Zan e b) then a.eval x else a.eval y) ?_ (Zwc (fun q => ZaY h (hx rfl q)) (fun q => ZaY h (hy rfl q)))
 rw [eb]
 simp [asBool]
theorem ZiB {t : TypeId} {sz : Nat} {ag : Bool} (ht : tyT P t = some (sz, ag)) {b o : Nat} {f : Nat → Value} (hc : ∀ j, j < sz → w.cell? ⟨b, o + j, none⟩ = some (f j)) (h1 : ag = true ∨ sz = 1) :
  (loadVar t ⟨b, o, none⟩).run P w = .ok (if ag then .agg ((List.range sz).map f).toArray else f 0) w := by
 unfold loadVar
 rw [Sem.run_bind, ZjZ ht]
 cases ag with
 | true =>
  simp only [Result.andThen_ok, if_true, Sem.run_bind, ZaT ht, run_loadCells w ⟨b, o, none⟩ sz f (fun j hj => by rw [ZcD]; exact hc j hj)]
  rfl
 | false =>
  have : sz = 1 := by simpa using h1
  subst this
  have := hc 0 (by omega)
  simp only [Nat.add_zero] at this
  simp [this]
theorem Zja {cs : List AV} {f : Nat → Value} {o sz : Nat} {ag : Bool} (h1 : ∀ c ∈ cs, c.one = true) (ho : o + sz ≤ cs.length) (hs : ag = true ∨ sz = 1)
  (hR : ∀ j (hj : o + j < cs.length), R w0 M w (f j) cs[o + j]) : R w0 M w (if ag then .agg ((List.range sz).map f).toArray else f 0) (ZjR ag cs o sz) := by
 unfold ZjR
 cases ag with
 | true =>
  simp only [if_true]
  refine .agg (by simp; omega) (fun x hx => h1 x (List.mem_of_mem_drop (List.mem_of_mem_take hx))) (fun i a1 a2 => ?_)
  simp only [List.getElem_take, List.getElem_drop, List.getElem_toArray, List.getElem_map, List.getElem_range]
  exact hR i (by simp at a1; omega)
 | false =>
  have : sz = 1 := by simpa using hs
  subst this
  have := hR 0 (by omega)
  simp only [Nat.add_zero] at this
  simpa [nth, List.getD, List.getElem?_eq_getElem (show o < cs.length by omega)] using this
theorem ZrV (h : Rel w0 n M e st a w) (t : TypeId) (x : Operand) (hob : (Zbp P e true st (.load t x)).1) :
  Yields' P w0 M st (Zbp P e true st (.load t x)).2.1 w (do pure (.value (← Instr.loadAt t (a.eval x)))) := by
 unfold Zbp at hob ⊢
 cases ht : tyT P t with
 | none => simp [ht] at hob
 | some p =>
  obtain ⟨sz, ag⟩ := p
  simp only [ht] at hob ⊢
  obtain ⟨hx, hr, hle, h1⟩ := hob
  obtain ⟨b, o, ev, hone, hc⟩ := ZmV h.st (ZaY h hx) hr
  rw [ev]
  have key : ∀ j, j < sz → ∃ u, w.cell? ⟨b, o + Zdq (Zan e x) + j, none⟩ = some u ∧ ∀ hj, R w0 M w u ((ZaM st (Zan e x))[Zdq (Zan e x) + j]'hj) := by
   intro j hj
   obtain ⟨u, h2, h3⟩ := hc (Zdq (Zan e x) + j) (by omega)
   exact ⟨u, by rw [← h2, Nat.add_assoc], fun _ => h3⟩
  let f : Nat → Value := fun j => ((w.cell? ⟨b, o + Zdq (Zan e x) + j, none⟩).getD undef)
  have hf : ∀ j, j < sz → w.cell? ⟨b, o + Zdq (Zan e x) + j, none⟩ = some (f j) := fun j hj => by
   obtain ⟨u, hu, _⟩ := key j hj
   simp [f, hu]
  refine .here h.st (v := if ag then .agg ((List.range sz).map f).toArray else f 0) ?_ (Zja hone hle h1 (fun j hj => ?_))
  ·
   simp only [Instr.loadAt, Instr.sureAddr, Sem.run_bind, Sem.run_pure, Result.andThen_ok]
   exact ZiB ht hf h1
  ·
   by_cases hjs : j < sz
   ·
    obtain ⟨u, hu, hR⟩ := key j hjs
    have : f j = u := by simp [f, hu]
    rw [this]
    exact hR hj
   ·
    obtain ⟨u, hu, hR⟩ := hc (Zdq (Zan e x) + j) hj
    have : f j = u := by simp [f, Nat.add_assoc, hu]
    rw [this]
    exact hR
theorem ZiX (hst : RelSt w0 M st w) {v : Value} {x : AV} (h : R w0 M w v x) (hr : Zcg st x = true) : ∃ b o, v = .pointer (some ⟨b, o, none⟩) ∧ ∀ k, R w0 M w (.pointer (some ⟨b, o + k, none⟩)) (Zj0 x k) := by
 cases x with
 | box l off => cases h with | box hl => exact ⟨_, _, rfl, fun k => .box hl⟩
 | elem y k =>
  cases h with
  | @elem b off x u k hcell hu => exact ⟨_, _, rfl, fun k' => by rw [Nat.add_assoc]; exact .elem u (k + k') hcell hu⟩
 | vel id ver off =>
  cases h with
  | @vel _ _ _ a hi hv hh =>
   obtain ⟨sz, cs, hcs⟩ := Zjb (show (Ze4 st.rows id ver).isSome = true from hr)
   have f1 := (hst.row id _ (ZdD hcs)).1
   have ha := hh f1.symm
   exact ⟨M.blk id, off, by rw [ha], fun k => .vel hi hv fun _ => rfl⟩
 | _ => cases hr
theorem Zmu (h : Rel w0 n M e st a w) (o : Oper) (x : Operand) (ho : o.op = .nilCheck x) (hob : (Zbp P e true st (.nilCheck x)).1) :
  Yields' P w0 M st (Zan e x) w (execOp a.eval o) := by
 obtain ⟨hx, hr⟩ := hob
 obtain ⟨b, o', ev, _⟩ := ZiX h.st (ZaY h hx) hr
 refine ZfU h.st (v := a.eval x) ?_ (ZaY h hx)
 simp only [execOp, ho, ev]
 rfl
theorem Zmy (h : Rel w0 n M e st a w) (f : FuncId) (fi cap : Array Operand) (hob : (Zbp P e true st (.makeFunc (.func f) fi cap)).1) :
  Yields' P w0 M st (.clo f (cap.toList.map (Zan e))) w (do pure (.value (← Instr.makeFunc (.func f) (fi.map a.eval) (cap.map a.eval)))) := by
 obtain ⟨h0, hc⟩ := hob
 refine .here h.st (v := .func (.func f) (fi.map a.eval) (cap.map a.eval)) rfl ?_
 have : fi.map a.eval = #[] := by simp [Array.size_eq_zero_iff.1 h0]
 rw [this]
 refine .clo (by simp) (fun i h1 h2 => ?_)
 simp only [Array.getElem_map, List.getElem_map, Array.getElem_toList]
 exact ZaY h (hc _ (by simp))
theorem Zmc (h : Rel w0 n M e st a w) (t : TypeId) (x : Operand) (f : Nat) (hob : (Zbp P e true st (.fieldAddr t x f)).1) :
  Yields' P w0 M (Zbp P e true st (.fieldAddr t x f)).2.2 (Zbp P e true st (.fieldAddr t x f)).2.1 w (do pure (.value (← Instr.fieldAt t (a.eval x) f))) := by
 unfold Zbp at hob ⊢
 cases hf : Zfm P t f with
 | none => simp [hf] at hob
 | some p =>
  obtain ⟨o, sz, ag⟩ := p
  simp only [hf] at hob ⊢
  obtain ⟨hx, hr, hz⟩ := hob
  obtain ⟨fs, y, h1, h2, h3, h4⟩ := Zlu hf
  obtain ⟨b, o', ev, hk⟩ := ZiX h.st (ZaY h hx) hr
  refine .here h.st (v := .pointer (some ⟨b, o' + o, none⟩)) ?_ (hk o)
  rw [ev]
  have hz' : ¬ sz = 0 := by omega
  simp [Instr.fieldAt, run_underlying h1, h2, Instr.sureAddr, fieldPlace, h3, ZcD, ZaT h4, hz']
theorem ZlH {t : TypeId} {sz : Nat} {ag : Bool} (ht : tyT P t = some (sz, ag)) {cs : Array Value} {o : Nat} (ho : o + sz ≤ cs.size) (h1 : ag = true ∨ sz = 1) :
  (part t cs o).run P w = .ok (if ag then .agg ((List.range sz).map fun j => cs.getD (o + j) undef).toArray else cs.getD o undef) w := by
 unfold part
 rw [Sem.run_bind, ZjZ ht]
 cases ag with
 | true =>
  simp only [Result.andThen_ok, if_true, Sem.run_bind, ZaT ht, Sem.run_pure]
  congr 2
  apply Array.ext
  ·
   simp; omega
  ·
   intro i h1 h2
   simp at h1 h2
   simp [show o + i < cs.size by omega]
 | false =>
  have : sz = 1 := by simpa using h1
  subst this
  have hlt : o < cs.size := by omega
  simp [hlt]
theorem R.agg_inv {v : Value} {x : AV} (h : R w0 M w v x) (ha : ZdH x = true) : ∃ cs, v = .agg cs ∧ cs.size = x.cells.length ∧ (∀ y ∈ x.cells, y.one = true) ∧ ∀ j (hj : j < x.cells.length), R w0 M w (cs.getD j undef) x.cells[j] := by
 cases x with
 | agg xs =>
  cases h with
  | agg hl h1 hR =>
   rename_i cs
   refine ⟨cs, rfl, hl, h1, fun j hj => ?_⟩
   have hj' : j < cs.size := by rw [hl]; exact hj
   have e : cs.getD j undef = cs[j] := by simp [hj']
   rw [e]
   exact hR j hj' hj
 | _ => cases ha
theorem Zqo (h : Rel w0 n M e st a w) (t : TypeId) (x : Operand) (f : Nat) (hob : (Zbp P e true st (.field t x f)).1) :
  Yields' P w0 M (Zbp P e true st (.field t x f)).2.2 (Zbp P e true st (.field t x f)).2.1 w (do pure (.value (← Instr.field t (a.eval x) f))) := by
 unfold Zbp at hob ⊢
 cases hf : Zfm P t f with
 | none => simp [hf] at hob
 | some p =>
  obtain ⟨o, sz, ag⟩ := p
  simp only [hf] at hob ⊢
  obtain ⟨hx, hr, hle, hs⟩ := hob
  obtain ⟨fs, y, h1, h2, h3, h4⟩ := Zlu hf
  obtain ⟨cs, ev, hl, hone, hR⟩ := (ZaY h hx).agg_inv hr
  rw [ev]
  refine .here h.st (v := if ag then .agg ((List.range sz).map fun j => cs.getD (o + j) undef).toArray else cs.getD o undef) ?_ (Zja (f := fun j => cs.getD (o + j) undef) hone hle hs (fun j hj => hR _ hj))
  subst h3
  simp [Instr.field, run_underlying h1, h2, asAgg, ZlH (w := w) h4 (cs := cs) (o := y.offset) (by omega) hs]
theorem R.list_inv {v : Value} {x : AV} (h : R w0 M w v x) (hl : Zbi x = true) :
  (∃ a cap, v = .slice a (ZaA x).length cap ∧ (a = none → ZaA x = [] ∧ cap = 0) ∧ (ZaA x).length ≤ cap ∧ cap ≤ maxLen) := by
 cases x with
 | list xs o =>
  cases h with
  | nil ho => exact ⟨none, 0, rfl, fun _ => ⟨rfl, rfl⟩, Nat.zero_le _, by simp [maxLen]⟩
  | emp ho => exact ⟨_, 0, rfl, fun e => (by cases e), Nat.zero_le _, by simp [maxLen]⟩
  | list sz us hc hm hcell hu ho => exact ⟨_, _, rfl, fun e => (by cases e), hc, hm⟩
 | _ => cases hl
theorem R.list_elem {v : Value} {xs : List AV} {o : Own} (h : R w0 M w v (.list xs o)) {i : Nat} (hi : i < xs.length) {sz : Nat} (hsz : xs[i].cells.length = sz) :
  ∃ b off cap, v = .slice (some ⟨b, off, none⟩) xs.length cap ∧ R w0 M w (.pointer (some ⟨b, off + i * sz, none⟩)) (.elem xs[i] 0) := by
 cases h with
 | nil ho => exact absurd hi (by simp)
 | emp ho => exact absurd hi (by simp)
 | @list b off cap _ _ sz' us hc hm hcell hu ho =>
  obtain ⟨h1, h2⟩ := hcell i hi
  have e : sz' = sz := by rw [← h1, (hu i hi).cells.1, hsz]
  subst e
  exact ⟨b, off, cap, rfl, .elem (us i) 0 (fun j hj => h2 j (by omega)) (hu i hi)⟩
theorem Zd1 {x : AV} (h : Zbi x = true) : ∃ xs o, x = .list xs o := by
 cases x with
 | list xs o => exact ⟨xs, o, rfl⟩
 | _ => cases h
theorem ZrK {l : List AV} {i : Nat} (h : i < l.length) : nth l i = l[i] := by simp [nth, List.getD, List.getElem?_eq_getElem h]
theorem ZlI (h : Rel w0 n M e st a w) (t : TypeId) (x i : Operand) (hob : (Zbp P e true st (.indexAddr t x i)).1) :
  Yields' P w0 M (Zbp P e true st (.indexAddr t x i)).2.2 (Zbp P e true st (.indexAddr t x i)).2.1 w (do pure (.value (← Instr.indexAt t (a.eval x) (a.eval i)))) := by
 unfold Zbp ZmC at hob ⊢
 cases he : elT P t with
 | some p =>
  obtain ⟨el, sz, ag, by8⟩ := p
  simp only [he] at hob ⊢
  split at hob
  ·
   rename_i id ver o n' hx0
   cases hvr : Ze4 st.rows id ver with
   | none => simp [hvr] at hob
   | some p =>
    obtain ⟨sz', cs⟩ := p
    simp only [hvr] at hob ⊢
    obtain ⟨hx, hi, hii, h0, h1, rfl⟩ := hob
    obtain ⟨info, hu, _, _, hty⟩ := Zdy he
    obtain ⟨ei, _⟩ := (ZaY h hi).int hii
    have hR := ZaY h hx
    rw [hx0] at hR
    generalize Zau (Zan e i) = m at *
    obtain ⟨k, rfl⟩ := Int.eq_ofNat_of_zero_le h0
    have hk : k < n' := by omega
    generalize hev : a.eval x = v at hR
    cases hR with
    | @vec _ _ _ _ p cap hid hv hh =>
     obtain ⟨f1, f2, _⟩ := h.st.row id _ (ZdD hvr)
     obtain ⟨rfl, hcap, hnc⟩ := hh f1.symm
     refine .here h.st (v := .pointer (some ⟨M.blk id, o * M.rsz id + k * sz', none⟩)) ?_ ?_
     ·
      rw [ei]
      simp [Instr.indexAt, asIntOf, run_underlying hu, ZaT hty, ZcD]
      omega
     ·
      refine .vel hid hv fun _ => ?_
      rw [f2, Int.toNat_natCast, Nat.add_mul]
  rename_i hx0
  obtain ⟨hx, hi, hl, hii, h0, h1, hsz⟩ := hob
  obtain ⟨info, hu, _, _, hty⟩ := Zdy he
  obtain ⟨ei, _⟩ := (ZaY h hi).int hii
  have hR := ZaY h hx
  obtain ⟨xs, o, hxs⟩ := Zd1 hl
  rw [hxs] at hR h1 hsz ⊢
  simp only [ZaA] at h1 hsz ⊢
  generalize Zau (Zan e i) = m at *
  obtain ⟨k, rfl⟩ := Int.eq_ofNat_of_zero_le h0
  have hk : k < xs.length := by omega
  simp only [Int.toNat_natCast] at hsz ⊢
  rw [ZrK hk] at hsz ⊢
  obtain ⟨b, off, cap, ev, hE⟩ := hR.list_elem hk hsz
  refine .here h.st (v := .pointer (some ⟨b, off + k * sz, none⟩)) ?_ hE
  rw [ev, ei]
  simp [Instr.indexAt, asIntOf, run_underlying hu, ZaT hty, ZcD]
  omega
 | none =>
  simp only [he] at hob ⊢
  cases ha : Zf5 P t with
  | none => simp [ha] at hob
  | some p =>
   obtain ⟨m, sz, ag⟩ := p
   simp only [ha] at hob ⊢
   obtain ⟨hx, hi, hr, hii, h0, h1⟩ := hob
   obtain ⟨el, hu, hty⟩ := Zje ha
   obtain ⟨ei, _⟩ := (ZaY h hi).int hii
   obtain ⟨b, o', ev, hk⟩ := ZiX h.st (ZaY h hx) hr
   generalize Zau (Zan e i) = q at *
   obtain ⟨k, rfl⟩ := Int.eq_ofNat_of_zero_le h0
   have hk' : k < m := by omega
   refine .here h.st (v := .pointer (some ⟨b, o' + k * sz, none⟩)) ?_ (by simpa using hk (k * sz))
   rw [ev, ei]
   simp [Instr.indexAt, asIntOf, run_underlying hu, ZaT hty, Instr.sureAddr, ZcD]
   omega
theorem getElem?_get! (s : ByteArray) (k : Nat) (hk : k < s.size) : s[k]? = some (s.get! k) := by
 rw [getElem?_pos s k hk]
 congr 1
 simp only [ByteArray.get!]
 have : k < s.data.size := hk
 rw [getElem!_pos s.data k this]
 rfl
theorem Zqh (h : Rel w0 n M e st a w) (t : TypeId) (x i : Operand) (hob : (Zbp P e true st (.index t x i)).1) :
  Yields' P w0 M (Zbp P e true st (.index t x i)).2.2 (Zbp P e true st (.index t x i)).2.1 w (do pure (.value (← Instr.index t (a.eval x) (a.eval i)))) := by
 unfold Zbp ZmC at hob ⊢
 simp only at hob ⊢
 split at hob
 ·
  rename_i s hx0
  obtain ⟨hs, hx, hi, hii, h0, h1⟩ := hob
  obtain ⟨ei, _⟩ := (ZaY h hi).int hii
  have hR := ZaY h hx
  rw [hx0] at hR
  obtain ⟨ev, _⟩ := hR.val_inv
  generalize Zau (Zan e i) = q at *
  obtain ⟨k, rfl⟩ := Int.eq_ofNat_of_zero_le h0
  have hk : k < s.size := by omega
  refine .here h.st (v := .int .u8 (s.get! k).toNat) ?_ (.flat rfl)
  rw [ev, ei]
  have hg : s[k]? = some (s.get! k) := getElem?_get! s k hk
  simp [Instr.index, asIntOf, run_underlying (ZcI hs), hg]
 ·
  rename_i cs hx0
  cases ha : Zf5 P t with
  | none => simp [ha] at hob
  | some p =>
   obtain ⟨m, sz, ag⟩ := p
   simp only [ha] at hob ⊢
   obtain ⟨hx, hi, hii, h0, h1, hl, hs⟩ := hob
   obtain ⟨el, hu, hty⟩ := Zje ha
   obtain ⟨ei, _⟩ := (ZaY h hi).int hii
   have hR := ZaY h hx
   rw [hx0] at hR
   obtain ⟨c, ev, hl', hone, hRR⟩ := hR.agg_inv rfl
   simp only [AV.cells] at hl' hone hRR
   generalize Zau (Zan e i) = q at *
   obtain ⟨k, rfl⟩ := Int.eq_ofNat_of_zero_le h0
   have hk : k < m := by omega
   have hle : k * sz + sz ≤ cs.length := by rw [hl, ← Nat.succ_mul]; exact Nat.mul_le_mul_right _ hk
   refine .here h.st (v := if ag then .agg ((List.range sz).map fun j => c.getD (k * sz + j) undef).toArray else c.getD (k * sz) undef) ?_ ?_
   ·
    rw [ev, ei]
    simp only [Instr.index, asIntOf, Sem.run_bind, Sem.run_pure, Result.andThen_ok, run_underlying hu]
    rw [if_pos ⟨by omega, by omega⟩]
    simp only [Sem.run_bind, ZaT hty, Result.andThen_ok, Int.toNat_natCast]
    exact ZlH hty (by rw [hl']; exact hle) hs
   ·
    simp only [Int.toNat_natCast]
    exact Zja (f := fun j => c.getD (k * sz + j) undef) hone hle hs (fun j hj => hRR _ hj)
 ·
  exact hob.elim
theorem ZnZ (h : Rel w0 n M e st a w) (x : Operand) (i : Nat) (hob : (Zbp P e true st (.extract x i)).1) :
  Yields' P w0 M (Zbp P e true st (.extract x i)).2.2 (Zbp P e true st (.extract x i)).2.1 w (do pure (.value (← Instr.extract (a.eval x) i))) := by
 unfold Zbp ZmC at hob ⊢
 simp only at hob ⊢
 split at hob
 ·
  rename_i vs hx0
  obtain ⟨hx, hi⟩ := hob
  have hR := ZaY h hx
  rw [hx0] at hR
  generalize a.eval x = v at hR ⊢
  cases hR with
  | tup hl hR =>
   rename_i cs
   rw [ZrK hi]
   refine .here h.st (v := cs[i]'(by omega)) ?_ (hR i (by omega) hi)
   simp [Instr.extract, show i < cs.size by omega]
 ·
  exact hob.elim
theorem ZtZ (h : Rel w0 n M e st a w) (x : Operand) (t ty : TypeId) (hx : ZaE e true x) (hob : (Zl6 P t (Zan e x)).1) :
  Yields' P w0 M st (Zl6 P t (Zan e x)).2 w (do pure (.value (← Builtin.len_ #[t] ty #[a.eval x]))) := by
 have hR := ZaY h hx
 unfold Zl6 at hob ⊢
 split at hob
 ·
  rename_i s hx0
  rw [hx0] at hR
  obtain ⟨ev, _⟩ := hR.val_inv
  refine .here h.st (v := .int .i64 s.size) ?_ (.flat rfl)
  rw [ev]
  simp [Builtin.len_, run_underlying (ZcI hob), goInt]
 ·
  rename_i xs o hx0
  rw [hx0] at hR
  obtain ⟨b, cap, ev, _⟩ := hR.list_inv rfl
  simp only [ZaA] at ev
  obtain ⟨p, hp⟩ := Option.isSome_iff_exists.1 hob
  obtain ⟨el, sz, ag, by8⟩ := p
  obtain ⟨i, hu, _⟩ := Zdy hp
  refine .here h.st (v := .int .i64 xs.length) ?_ (.flat rfl)
  rw [ev]
  simp [Builtin.len_, run_underlying hu, goInt]
 ·
  rename_i id ver o n' hx0
  rw [hx0] at hR
  obtain ⟨p, hp⟩ := Option.isSome_iff_exists.1 hob
  obtain ⟨el, sz, ag, by8⟩ := p
  obtain ⟨i, hu, _⟩ := Zdy hp
  generalize hev : a.eval x = v at hR
  cases hR with
  | @vec _ _ _ _ p cap hid hv hh =>
   refine .here h.st (v := .int .i64 n') ?_ (.flat rfl)
   simp [Builtin.len_, run_underlying hu, goInt]
 ·
  exact hob.elim
theorem ZbQ {v : Value} {k : IntKind} {q : Nat} {y : Nat} {code : BoundsCode} (hv : v = .int k q) (h : q ≤ y) (w : World) : (Instr.sliceBound v y code).run P w = .ok q w := by
 subst hv
 simp [Instr.sliceBound, asIntOf]
 omega
theorem Zie (h : Rel w0 n M e st a w) (isl : Bool) (len cap : Nat) (hlc : len ≤ cap) {lo hi : Option Operand} (hlo : ZiL e true lo) (hhi : ZiL e true hi)
  {l u : Nat} (el : Zb7 e 0 lo = l) (eu : Zb7 e len hi = u) (h1 : l ≤ u) (h2 : u ≤ len) :
  (Instr.sliceBounds isl len cap (lo.map a.eval) (hi.map a.eval) none).run P w = .ok (l, u, cap) w := by
 have H : ∀ (y : Operand), (ZaE e true y ∧ Zdn (Zan e y) = true) → ∃ k, a.eval y = .int k (Zau (Zan e y)) := fun y hy => ⟨_, ((ZaY h hy.1).int hy.2).1⟩
 cases hi with
 | none =>
  simp only [Zb7] at eu
  have eu' : u = len := by omega
  subst eu'
  cases lo with
  | none =>
   simp only [Zb7] at el
   have el' : l = 0 := by omega
   subst el'
   simp [Instr.sliceBounds]
  | some y =>
   obtain ⟨k, ky⟩ := H y hlo
   simp only [Zb7] at el
   rw [el] at ky
   simp [Instr.sliceBounds, ZbQ ky h1]
 | some z =>
  obtain ⟨k2, kz⟩ := H z hhi
  simp only [Zb7] at eu
  rw [eu] at kz
  have hz : u ≤ cap := by omega
  cases lo with
  | none =>
   simp only [Zb7] at el
   have el' : l = 0 := by omega
   subst el'
   simp [Instr.sliceBounds, ZbQ kz hz]
  | some y =>
   obtain ⟨k, ky⟩ := H y hlo
   simp only [Zb7] at el
   rw [el] at ky
   simp [Instr.sliceBounds, ZbQ kz hz, ZbQ ky h1]
theorem R.empty (b off cap : Nat) (hm : cap ≤ maxLen) : R w0 M w (.slice (some ⟨b, off, none⟩) 0 cap) (.list [] .none) :=
 R.list (xs := []) 0 (fun _ => undef) (Nat.zero_le _) hm (fun i hi => absurd hi (by simp)) (fun i hi => absurd hi (by simp)) trivial
theorem R.sub {b off cap : Nat} {xs : List AV} {o : Own} (h : R w0 M w (.slice (some ⟨b, off, none⟩) xs.length cap) (.list xs o)) {l u sz : Nat} (hl : l ≤ u) (hu : u ≤ xs.length) (hsz : l = 0 ∨ ∀ y ∈ xs, y.cells.length = sz) (hne : cap ≠ l) :
    R w0 M w (.slice (some ⟨b, off + l * sz, none⟩) (u - l) (cap - l)) (.list ((xs.take u).drop l) .none) := by
  generalize hv : Value.slice (some ⟨b, off, none⟩) xs.length cap = v at h
  cases h with
  | nil ho => cases hv
  | emp ho => cases hv; simp at hu; subst hu; have : l = 0 := by omega
              subst this; exact absurd rfl hne
  | @list b' off' cap' _ _ sz' us hc hm hcell hus ho =>
    cases hv
    have hlen : ((xs.take u).drop l).length = u - l := by simp; omega
    rw [← hlen]
    have eo : ∀ i, i < u - l → off + l * sz + i * sz' = off + (l + i) * sz' := by
      intro i hi
      rcases hsz with rfl | hsz
      · simp
      · have e : sz' = sz := by
          have h1 : (us i).cells.size = sz' := (hcell i (by omega)).1
          rw [← h1, (hus i (by omega)).cells.1, hsz _ (List.getElem_mem _)]
        rw [e, Nat.add_mul]; omega
    refine .list sz' (fun i => us (l + i)) (by rw [hlen]; omega) (by omega) (fun i hi => ?_) (fun i hi => ?_) trivial
    · rw [hlen] at hi
      obtain ⟨h1, h2⟩ := hcell (l + i) (by omega)
      refine ⟨h1, fun j hj => ?_⟩
      rw [eo i hi]
      exact h2 j hj
    · rw [hlen] at hi
      simp only [List.getElem_drop, List.getElem_take]
      exact hus (l + i) (by omega)
theorem Zp2 (h : Rel w0 n M e st a w) (t : TypeId) (x : Operand) (lo hi mx : Option Operand) (hob : (Zbp P e true st (.slice t x lo hi mx)).1) :
  Yields' P w0 M (Zbp P e true st (.slice t x lo hi mx)).2.2 (Zbp P e true st (.slice t x lo hi mx)).2.1 w (do pure (.value (← Instr.sliceAt t (a.eval x) (lo.map a.eval) (hi.map a.eval) (mx.map a.eval)))) := by
 unfold Zbp at hob ⊢
 simp only at hob ⊢
 split at hob
 ·
  rename_i id ver o n' hx0
  cases hp : elT P t with
  | none => simp [hp] at hob
  | some p =>
  obtain ⟨el, sz, ag, by8⟩ := p
  cases hvr : Ze4 st.rows id ver with
  | none => simp [hp, hvr] at hob
  | some q =>
  obtain ⟨sz', cs⟩ := q
  simp only [hp, hvr] at hob ⊢
  obtain ⟨hx, hlo, hhi, hm, h0, h1, h2, h3, rfl⟩ := hob
  have hR := ZaY h hx
  rw [hx0] at hR
  obtain ⟨i, hu, _, _, hty⟩ := Zdy hp
  cases mx with
  | some _ => cases hm
  | none =>
   obtain ⟨l', el'⟩ := Int.eq_ofNat_of_zero_le h0
   obtain ⟨u', eu'⟩ := Int.eq_ofNat_of_zero_le (Int.le_trans h0 h1)
   rw [el', eu'] at h1
   rw [eu'] at h2
   rw [el'] at h3
   rw [el', eu']
   simp only [Int.toNat_natCast]
   generalize hev : a.eval x = v at hR
   cases hR with
   | @vec _ _ _ _ p cap hid hv hh =>
    obtain ⟨f1, f2, _⟩ := h.st.row id _ (ZdD hvr)
    obtain ⟨rfl, hcap, hnc⟩ := hh f1.symm
    have hb := Zie (P := P) h true n' cap hnc hlo hhi el' eu' (by omega) (by omega)
    refine .here h.st (v := .slice (if cap = l' then some ⟨M.blk id, o * M.rsz id, none⟩ else (some (⟨M.blk id, o * M.rsz id, none⟩ : Addr)).map (·.add (l' * sz'))) (u' - l') (cap - l')) ?_ ?_
    ·
     simp only [Instr.sliceAt, Instr.slice, Sem.run_bind, run_underlying hu, Result.andThen_ok, Option.map_none, hb, ZaT hty, Sem.run_pure]
    ·
     refine .vec hid hv fun _ => ⟨?_, by omega, by omega⟩
     by_cases hcl : cap = l'
     ·
      have : l' = 0 := by omega
      rw [if_pos hcl, this]; simp
     ·
      rw [if_neg hcl]
      simp only [Option.map_some, ZcD]
      rw [f2, Nat.add_mul]
 ·
  rename_i s hx0
  obtain ⟨hs, hx, hlo, hhi, hm, h0, h1, h2⟩ := hob
  have hR := ZaY h hx
  rw [hx0] at hR
  obtain ⟨ev, hf⟩ := hR.val_inv
  cases mx with
  | some _ => cases hm
  | none =>
   have hb := Zie (P := P) h false s.size s.size (Nat.le_refl _) hlo hhi (Int.toNat_of_nonneg h0).symm (Int.toNat_of_nonneg (Int.le_trans h0 h1)).symm (by omega) (by omega)
   refine .here h.st (v := .string (s.extract (Zb7 e 0 lo).toNat (Zb7 e s.size hi).toNat)) ?_ (.flat ?_)
   ·
    rw [ev]
    simp only [Instr.sliceAt, Instr.slice, Sem.run_bind, run_underlying (ZcI hs), Result.andThen_ok, Option.map_none, Option.isSome_none, Bool.false_eq_true, if_false, hb, Sem.run_pure]
   ·
    simp only [Zgb, decide_eq_true_eq] at hf ⊢
    simp only [ByteArray.size_extract]
    omega
 ·
  rename_i xs o hx0
  cases hp : elT P t with
  | none => simp [hp] at hob
  | some p =>
   obtain ⟨el, sz, ag, by8⟩ := p
   simp only [hp] at hob ⊢
   cases mx with
   | some m =>
    simp only at hob ⊢
    obtain ⟨hx, hlo, hhi, hm, h0, h1, h2⟩ := hob
    have hR := ZaY h hx
    rw [hx0] at hR
    obtain ⟨i, hu, _, _, hty⟩ := Zdy hp
    have H : ∀ (y : Operand), (ZaE e true y ∧ Zdn (Zan e y) = true) → ∃ k, a.eval y = .int k (Zau (Zan e y)) := fun y hy => ⟨_, ((ZaY h hy.1).int hy.2).1⟩
    cases hi with
    | none => simp [Zb7] at h1
    | some z =>
     obtain ⟨k2, kz⟩ := H z hhi
     obtain ⟨k3, km⟩ := H m hm
     simp only [Zb7] at h1 h2
     rw [h1] at kz
     rw [h2] at km
     have hb : ∀ (ln cap : Nat), ln ≤ cap → (Instr.sliceBounds true ln cap (lo.map a.eval) ((some z).map a.eval) ((some m).map a.eval)).run P w = .ok (0, 0, 0) w := by
      intro ln cap hlc
      have e1 := ZbQ (P := P) (k := k3) (q := 0) (y := cap) (code := .slice3Acap) km (Nat.zero_le _) w
      have e2 := ZbQ (P := P) (k := k2) (q := 0) (y := 0) (code := .slice3B) kz (Nat.zero_le _) w
      cases lo with
      | none => simp [Instr.sliceBounds, e1, e2]
      | some y =>
       obtain ⟨k, ky⟩ := H y hlo
       simp only [Zb7] at h0
       rw [h0] at ky
       have e3 := ZbQ (P := P) (k := k) (q := 0) (y := 0) (code := .slice3C) ky (Nat.zero_le _) w
       simp [Instr.sliceBounds, e1, e2, e3]
     obtain ⟨v, hv⟩ : ∃ v, a.eval x = v := ⟨_, rfl⟩
     rw [hv] at hR
     have fin : ∀ (ad : Option Addr) (ln cap : Nat), ln ≤ cap → v = .slice ad ln cap → R w0 M w (.slice ad 0 0) (.list [] .full) →
       Yields' P w0 M st (.list [] .full) w (do pure (.value (← Instr.sliceAt t (a.eval x) (lo.map a.eval) (Option.map a.eval (some z)) (Option.map a.eval (some m))))) := by
      intro ad ln cap hlc e1 hr
      refine .here h.st ?_ hr
      rw [hv, e1]
      simp only [Instr.sliceAt, Instr.slice, Sem.run_bind, run_underlying hu, Result.andThen_ok, hb ln cap hlc, ZaT hty, Sem.run_pure]
      simp
     cases hR with
     | nil ho => exact fin none 0 0 (Nat.le_refl _) rfl (by simpa using R.nil (fun id => by simp))
     | @emp ad _ ho => exact fin (some ad) 0 0 (Nat.le_refl _) rfl (.emp (fun id => by simp))
     | @list b off cap _ _ sz' us hc hm' hcell hu' ho =>
      exact fin _ _ cap hc rfl (R.list (xs := []) 0 (fun _ => undef) (Nat.zero_le _) (Nat.zero_le _) (fun i hi => absurd hi (by simp)) (fun i hi => absurd hi (by simp)) rfl)
   | none =>
   obtain ⟨hx, hlo, hhi, h0, h1, h2, h3⟩ := hob
   have hR := ZaY h hx
   rw [hx0] at hR
   obtain ⟨i, hu, _, _, hty⟩ := Zdy hp
   ·
    obtain ⟨l', el'⟩ := Int.eq_ofNat_of_zero_le h0
    obtain ⟨u', eu'⟩ := Int.eq_ofNat_of_zero_le (Int.le_trans h0 h1)
    rw [el', eu'] at h1
    rw [eu'] at h2
    rw [el'] at h3
    rw [el', eu']
    have hlu : l' ≤ u' := by omega
    have hux : u' ≤ xs.length := by omega
    simp only [Int.toNat_natCast]
    have h3' : l' = 0 ∨ ∀ y ∈ xs, y.cells.length = sz := h3.imp (fun q => by omega) id
    have go : ∀ (ad : Option Addr) (cap : Nat), xs.length ≤ cap → a.eval x = .slice ad xs.length cap →
      R w0 M w (.slice (if cap = l' then ad else ad.map (·.add (l' * sz))) (u' - l') (cap - l')) (.list ((xs.take u').drop l') .none) →
      Yields' P w0 M st (.list ((xs.take u').drop l') .none) w (do pure (.value (← Instr.sliceAt t (a.eval x) (lo.map a.eval) (hi.map a.eval) (Option.map a.eval none)))) := by
     intro ad cap hle ev hr
     have hb := Zie (P := P) h true xs.length cap hle hlo hhi el' eu' hlu hux
     refine .here h.st ?_ hr
     rw [ev]
     simp only [Instr.sliceAt, Instr.slice, Sem.run_bind, run_underlying hu, Result.andThen_ok, Option.map_none, hb, ZaT hty, Sem.run_pure]
    generalize hv : a.eval x = v at hR go
    have hR' := hR
    cases hR with
    | nil ho =>
     have e1 : u' = 0 := by simpa using hux
     have e2 : l' = 0 := by omega
     subst e1; subst e2
     refine go none 0 (Nat.le_refl _) rfl ?_
     simpa using (R.nil (w0 := w0) (M := M) (w := w) (o := .none) (fun id => by simp))
    | @emp ad _ ho =>
     have e1 : u' = 0 := by simpa using hux
     have e2 : l' = 0 := by omega
     subst e1; subst e2
     refine go (some ad) 0 (Nat.le_refl _) rfl ?_
     simpa using (R.emp (w0 := w0) (M := M) (w := w) (a := ad) (o := .none) (fun id => by simp))
    | @list b off cap _ _ sz' us hc hm' hcell hu' ho =>
     refine go (some ⟨b, off, none⟩) cap hc rfl ?_
     by_cases hcl : cap = l'
     ·
      have e1 : u' = l' := by omega
      have : (xs.take u').drop l' = [] := by rw [e1]; simp
      rw [this, if_pos hcl, e1, Nat.sub_self]
      exact R.empty _ _ _ (by omega)
     ·
      rw [if_neg hcl]
      simp only [Option.map_some, ZcD]
      exact hR'.sub hlu hux h3' hcl
 ·
  exact hob.elim
theorem ZtN (h : Rel w0 n M e st a w) (x y : Operand) (ts : Array TypeId) (t : TypeId) (hx : ZaE e true x) (hy : ZaE e true y) (ix : Zdn (Zan e x) = true) (iy : Zdn (Zan e y) = true) :
  Yields' P w0 M st (.val (.int (ZfY (Zan e x)) (if Zau (Zan e y) < Zau (Zan e x) then Zau (Zan e y) else Zau (Zan e x)))) w (do pure (.value (← Builtin.min_ ts t #[a.eval x, a.eval y]))) := by
 rw [((ZaY h hx).int ix).1, ((ZaY h hy).int iy).1]
 exact .here h.st (by simp [Builtin.min_, Builtin.min2]) (.flat rfl)
theorem ZuE (h : Rel w0 n M e st a w) (x y : Operand) (ts : Array TypeId) (t : TypeId) (hx : ZaE e true x) (hy : ZaE e true y) (ix : Zdn (Zan e x) = true) (iy : Zdn (Zan e y) = true) :
  Yields' P w0 M st (.val (.int (ZfY (Zan e x)) (if Zau (Zan e x) < Zau (Zan e y) then Zau (Zan e y) else Zau (Zan e x)))) w (do pure (.value (← Builtin.max_ ts t #[a.eval x, a.eval y]))) := by
 rw [((ZaY h hx).int ix).1, ((ZaY h hy).int iy).1]
 exact .here h.st (by simp [Builtin.max_, Builtin.max2]) (.flat rfl)
end
section
variable {P : Program} {w0 : World} {n : Nat} {M : Mem} {e : Env} {st : St} {a : Act} {w : World}
theorem RelSt.box_lt (h : RelSt w0 M st w) {l : Nat} (hl : l < M.N) : M.bx l < w.heap.size := by
 have hl' : l < st.boxes.length := by rw [← h.N]; exact hl
 obtain ⟨_, _, c, ty, hb, _⟩ := h.box l _ (List.getElem?_eq_getElem hl')
 exact (Array.getElem?_eq_some_iff.1 hb).1
theorem RelSt.row_lt (h : RelSt w0 M st w) {i : Nat} (hi : i < M.NR) : M.blk i < w.heap.size := by
 have hi' : i < st.rows.length := by rw [← h.NR]; exact hi
 exact (h.row i _ (List.getElem?_eq_getElem hi')).lt
theorem RelSt.base_le (h : RelSt w0 M st w) : w0.heap.size ≤ w.heap.size := h.below.size
theorem RelSt.drew (h : RelSt w0 M st w) : RelSt w0 M st w.drew ∧ Ext w0 M w M w.drew :=
 have hx : Ext w0 M w M w.drew := ⟨Nat.le_refl _, fun _ _ => rfl, Nat.le_refl _, fun _ _ => ⟨Nat.le_refl _, fun _ => ⟨rfl, rfl, rfl⟩⟩, fun _ _ _ hi hc => ⟨hc, hi⟩, Nat.le_refl _, Nat.le_refl _, fun _ _ => rfl, fun _ _ _ => by omega, fun _ _ h _ _ => h⟩
 ⟨⟨h.below.drew, h.N, h.NR, h.top, h.inj, fun l cs hl => by
   obtain ⟨a1, a2, c, ty, a3, a4, a5, a6⟩ := h.box l cs hl
   exact ⟨a1, a2, c, ty, a3, a4, a5, fun i h1 h2 => (a6 i h1 h2).mono hx⟩, fun id x hid => (h.row id x hid).keep hx rfl rfl rfl rfl rfl (h.row id x hid).ne rfl, h.rowinj, h.loop.mono hx rfl fun _ _ h _ => h⟩, hx⟩
def Mem.newTop (M : Mem) (b k : Nat) : Mem := { M with top := fun x => if x = b then k else M.top x }
theorem Zik (M' : Mem) (o : Obj) (hN : M'.N = M.N ∨ M'.N = M.N + 1) (hb : ∀ l, l < M.N → M'.bx l = M.bx l) (hNR : M.NR ≤ M'.NR)
  (hr : ∀ id, id < M.NR → M.fr id ≤ M'.fr id ∧ (M'.fr id = M.fr id → M'.blk id = M.blk id ∧ M'.cap id = M.cap id ∧ M'.rsz id = M.rsz id)) (ht : ∀ b, b < w.heap.size → M.top b ≤ M'.top b) (hNL : M'.NL = M.NL := by rfl) (hlb : M'.lb = M.lb := by rfl) :
  Ext w0 M w M' (w.alloc o) :=
 ⟨by omega, hb, hNR, hr, fun b off v hi hc => by
  have hlt := World.block_lt_of_cell? w _ hc
  refine ⟨by rw [World.cell?_alloc_lt _ _ _ hlt]; exact hc, ?_⟩
  rcases hi with hi | hi
  ·
   exact .inl hi
  ·
   exact .inr (Nat.lt_of_lt_of_le hi (ht b hlt)), by simp, by omega, fun _ _ => by rw [hlb], fun _ _ _ => by omega, fun b o' h1 h2 _ => KeepsObj.alloc w o b o' h1 h2⟩
theorem ZaK (w : World) (o : Obj) {k : Nat} (h : k < w.heap.size) : (w.alloc o).heap[k]? = w.heap[k]? := Below.heap_alloc w o k h
theorem RelSt.newTop (h : RelSt w0 M st w) (cs : Array Value) (ty : TypeId) (k : Nat) :
  RelSt w0 (M.newTop w.heap.size k) st (w.alloc (.cells cs ty)) ∧ Ext w0 M w (M.newTop w.heap.size k) (w.alloc (.cells cs ty)) := by
 have tp : ∀ b, b < w.heap.size → (M.newTop w.heap.size k).top b = M.top b := fun b hb => by simp [Mem.newTop]; omega
 have hx : Ext w0 M w (M.newTop w.heap.size k) (w.alloc (.cells cs ty)) :=
  Zik _ _ (.inl rfl) (fun _ _ => rfl) (Nat.le_refl _) (fun _ _ => ⟨Nat.le_refl _, fun _ => ⟨rfl, rfl, rfl⟩⟩) (fun b hb => by rw [tp b hb]; exact Nat.le_refl _)
 refine ⟨⟨h.below.alloc h.base_le _, h.N, h.NR, fun b hb => ?_, h.inj, fun l c hl => ?_, fun id x hid => (h.row id x hid).keep hx rfl rfl rfl rfl (tp _ (h.row id x hid).lt) (h.row id x hid).ne (ZaK _ _ (h.row id x hid).lt), h.rowinj, h.loop.mono hx rfl (KeepsObj.alloc _ _)⟩, hx⟩
 ·
  simp at hb
  have : (M.newTop w.heap.size k).top b = M.top b := by simp [Mem.newTop]; omega
  rw [this]
  exact h.top b (by omega)
 ·
  obtain ⟨a1, a2, c', ty', a3, a4, a5, a6⟩ := h.box l c hl
  have hlt := (Array.getElem?_eq_some_iff.1 a3).1
  exact ⟨a1, by rw [show (M.newTop w.heap.size k).bx l = M.bx l from rfl, tp _ hlt]; exact a2, c', ty', by rw [show (M.newTop w.heap.size k).bx l = M.bx l from rfl, ZaK _ _ hlt]; exact a3, a4, a5, fun i h1 h2 => (a6 i h1 h2).mono hx⟩
theorem RelSt.later (h : RelSt w0 M st w) {w' : World} (hb : Below w.heap.size w w') (b k : Nat) (hw : w.heap.size ≤ b) (hk : b < w'.heap.size ∨ k = 0) :
  RelSt w0 (M.newTop b k) st w' ∧ Ext w0 M w (M.newTop b k) w' := by
 have tp : ∀ x, x < w.heap.size → (M.newTop b k).top x = M.top x := fun x hx => by simp [Mem.newTop]; omega
 have hh : ∀ x, x < w.heap.size → w'.heap[x]? = w.heap[x]? := hb.block
 have hko : KeepsObj w w' := fun x o h1 _ => (hh x (Array.getElem?_eq_some_iff.1 h1).1).trans h1
 have hx : Ext w0 M w (M.newTop b k) w' :=
  ⟨Nat.le_refl _, fun _ _ => rfl, Nat.le_refl _, fun _ _ => ⟨Nat.le_refl _, fun _ => ⟨rfl, rfl, rfl⟩⟩, fun x off v hi hc => by
   have hlt := World.block_lt_of_cell? w _ hc
   refine ⟨?_, hi.imp id fun q => by rw [tp x hlt]; exact q⟩
   unfold World.cell? at hc ⊢
   simp only [hh x hlt] at hc ⊢
   exact hc, hb.size, Nat.le_refl _, fun _ _ => rfl, fun _ h1 h2 => absurd h2 (Nat.not_lt.2 h1), fun x o h1 h2 _ => hko x o h1 h2⟩
 refine ⟨⟨h.below.trans (hb.mono h.base_le), h.N, h.NR, fun x hx' => ?_, h.inj, fun l c hl => ?_, fun id x hid => (h.row id x hid).keep hx rfl rfl rfl rfl (tp _ (h.row id x hid).lt) (h.row id x hid).ne (hh _ (h.row id x hid).lt), h.rowinj, h.loop.mono hx rfl hko⟩, hx⟩
 ·
  have := hb.size
  by_cases c : x = b
  ·
   have e : (M.newTop b k).top x = k := by simp [Mem.newTop, c]
   rw [e]
   rcases hk with hk | hk
   ·
    omega
   ·
    exact hk
  ·
   have e : (M.newTop b k).top x = M.top x := by simp [Mem.newTop, c]
   rw [e]
   exact h.top x (by omega)
 ·
  obtain ⟨a1, a2, c', ty', a3, a4, a5, a6⟩ := h.box l c hl
  have hlt := (Array.getElem?_eq_some_iff.1 a3).1
  exact ⟨a1, by rw [show (M.newTop b k).bx l = M.bx l from rfl, tp _ hlt]; exact a2, c', ty', by rw [show (M.newTop b k).bx l = M.bx l from rfl, hh _ hlt]; exact a3, a4, a5, fun i h1 h2 => (a6 i h1 h2).mono hx⟩
def Mem.newBox (M : Mem) (b : Nat) : Mem := { M with N := M.N + 1, bx := fun l => if l = M.N then b else M.bx l }
theorem RelSt.newBox (h : RelSt w0 M st w) (v : Value) (x : AV) (ty : TypeId) (hR : R w0 M w v x) (hn : ZaH x = true) :
  RelSt w0 (M.newBox w.heap.size) { st with boxes := st.boxes ++ [x.cells] } (w.alloc (.cells v.cells ty)) ∧ Ext w0 M w (M.newBox w.heap.size) (w.alloc (.cells v.cells ty)) ∧
   R w0 (M.newBox w.heap.size) (w.alloc (.cells v.cells ty)) (.pointer (some ⟨w.heap.size, 0, none⟩)) (.box st.boxes.length 0) := by
 have hbx : ∀ l, l < M.N → (M.newBox w.heap.size).bx l = M.bx l := fun l hl => by simp [Mem.newBox]; omega
 have hnew : (M.newBox w.heap.size).bx M.N = w.heap.size := by simp [Mem.newBox]
 have hx : Ext w0 M w (M.newBox w.heap.size) (w.alloc (.cells v.cells ty)) :=
  Zik _ _ (.inr rfl) hbx (Nat.le_refl _) (fun _ _ => ⟨Nat.le_refl _, fun _ => ⟨rfl, rfl, rfl⟩⟩) (fun b hb => Nat.le_refl _)
 have hR' := hR.mono hx
 refine ⟨⟨h.below.alloc h.base_le _, by simp [Mem.newBox, h.N], h.NR, fun b hb => h.top b (by simp at hb; omega), fun l l' hl hl' e => ?_, fun l c hl => ?_, fun id x hid => ?_, h.rowinj, h.loop.mono hx rfl (KeepsObj.alloc _ _)⟩, hx, ?_⟩
 ·
  have hN : (M.newBox w.heap.size).N = M.N + 1 := rfl
  rw [hN] at hl hl'
  by_cases e1 : l = M.N
  ·
   by_cases e2 : l' = M.N
   ·
    omega
   ·
    subst e1
    rw [hnew, hbx l' (by omega)] at e
    have := h.box_lt (l := l') (by omega)
    omega
  ·
   by_cases e2 : l' = M.N
   ·
    subst e2
    rw [hnew, hbx l (by omega)] at e
    have := h.box_lt (l := l) (by omega)
    omega
   ·
    rw [hbx l (by omega), hbx l' (by omega)] at e
    exact h.inj l l' (by omega) (by omega) e
 ·
  by_cases e1 : l = M.N
  ·
   subst e1
   simp only [h.N, List.getElem?_concat_length, Option.some.injEq] at hl
   subst hl
   rw [hnew]
   obtain ⟨hs, hc⟩ := hR'.cells
   refine ⟨h.base_le, h.top _ (Nat.le_refl _), v.cells, ty, heap_alloc_new w _, hs, hR.cellsOne (fun vs e => by subst e; cases hn), hc⟩
  ·
   have hl' : l < M.N := by
    have : l < (st.boxes ++ [x.cells]).length := (List.getElem?_eq_some_iff.1 hl).1
    have hN := h.N
    simp at this
    omega
   rw [List.getElem?_append_left (by rw [← h.N]; exact hl')] at hl
   obtain ⟨a1, a2, c', ty', a3, a4, a5, a6⟩ := h.box l c hl
   have hlt := (Array.getElem?_eq_some_iff.1 a3).1
   rw [hbx l hl']
   exact ⟨a1, a2, c', ty', by rw [ZaK _ _ hlt]; exact a3, a4, a5, fun i h1 h2 => (a6 i h1 h2).mono hx⟩
 ·
  have hlt := (h.row id x hid).lt
  refine (h.row id x hid).keep hx rfl rfl rfl rfl rfl (fun l hl => ?_) (ZaK _ _ hlt)
  by_cases e1 : l = M.N
  ·
   subst e1
   rw [hnew]
   show w.heap.size ≠ M.blk id
   omega
  ·
   have hN : (M.newBox w.heap.size).N = M.N + 1 := rfl
   rw [hbx l (by omega)]
   exact (h.row id x hid).ne l (by omega)
 ·
  have := R.box (w0 := w0) (M := M.newBox w.heap.size) (w := w.alloc (.cells v.cells ty)) (l := st.boxes.length) (off := 0) (by rw [← h.N]; exact Nat.lt_succ_self _)
  rwa [← h.N, hnew, h.N] at this
theorem ZcZ {t : TypeId} {z : List AV} (h : ZbW P t = some z) : ∃ i v, P.info? t = some i ∧ i.zero = some v ∧ Zh4 v = true ∧ v.cells.size = i.size ∧ z = (Zge v).cells := by
 unfold ZbW at h
 split at h
 ·
  rename_i i hi
  split at h
  ·
   rename_i v hv
   split at h
   ·
    rename_i hc
    simp only [Bool.and_eq_true, beq_iff_eq] at hc
    exact ⟨i, v, hi, hv, hc.1, hc.2, (Option.some.inj h).symm⟩
   ·
    cases h
  ·
   cases h
 ·
  cases h
theorem Zgm {v : Value} (h : Zh4 v = true) : ZaH (Zge v) = true := by
 have hc : ∀ u, ZaH (Zhu u) = true := fun u => by unfold Zhu; split <;> rfl
 cases v <;> first | rfl | exact hc _
theorem Zqq (h : Rel w0 n M e st a w) (t : TypeId) (hob : (Zbp P e true st (.alloc t)).1) :
  Yields' P w0 M (Zbp P e true st (.alloc t)).2.2 (Zbp P e true st (.alloc t)).2.1 w (do pure (.value (← Instr.alloc t true (.tuple #[])))) := by
 unfold Zbp at hob ⊢
 cases hz : ZbW P t with
 | none => simp [hz] at hob
 | some z =>
  simp only [hz]
  obtain ⟨i, v, hi, hv, hc, hs, rfl⟩ := ZcZ hz
  obtain ⟨h1, h2, h3⟩ := h.st.newBox v (Zge v) t (ZiV hc) (Zgm hc)
  refine .value ⟨_, _, _, ?_, h2, h1, h3⟩
  simp [Instr.alloc, zeroValue, typeInfo, hi, hv, newVar, newRow]
theorem ZuR (h : Rel w0 n M e st a w) (t : TypeId) (x : Operand) (hob : (Zbp P e true st (.box t x)).1) :
  Yields' P w0 M (Zbp P e true st (.box t x)).2.2 (Zbp P e true st (.box t x)).2.1 w (do pure (.value (← Instr.box t (a.eval x)))) := by
 obtain ⟨_, hx, hn⟩ := hob
 obtain ⟨h1, h2, h3⟩ := h.st.newBox (a.eval x) (Zan e x) t (ZaY h hx) hn
 refine .value ⟨_, _, _, ?_, h2, h1, h3⟩
 simp [Instr.box, newVar, newRow]
theorem Zmd (vs : List Value) : ∀ (k : Nat) (cs : Array Value) (off : Nat), off + k + vs.length ≤ cs.size →
  ((vs.zipIdx k).foldl (fun cs (x : Value × Nat) => cs.setIfInBounds (off + x.2) x.1) cs).size = cs.size ∧
  ∀ j, ((vs.zipIdx k).foldl (fun cs (x : Value × Nat) => cs.setIfInBounds (off + x.2) x.1) cs)[j]? = if off + k ≤ j ∧ j < off + k + vs.length then vs[j - (off + k)]? else cs[j]? := by
 induction vs with
 | nil => intro k cs off h; exact ⟨rfl, fun j => by simp; omega⟩
 | cons v vs ih =>
  intro k cs off h
  simp only [List.length_cons] at h
  simp only [List.zipIdx_cons, List.foldl_cons, List.length_cons]
  obtain ⟨i1, i2⟩ := ih (k + 1) (cs.setIfInBounds (off + k) v) off (by simp; omega)
  refine ⟨by rw [i1]; simp, fun j => ?_⟩
  rw [i2 j]
  by_cases c1 : off + (k + 1) ≤ j ∧ j < off + (k + 1) + vs.length
  ·
   rw [if_pos c1, if_pos (by omega), show j - (off + k) = (j - (off + (k + 1))) + 1 from by omega]
   simp
  ·
   rw [if_neg c1]
   by_cases c2 : j = off + k
   ·
    subst c2
    have hlt : off + k < cs.size := by omega
    rw [if_pos (by omega)]
    simp [hlt]
   ·
    rw [if_neg (by omega), Array.getElem?_setIfInBounds_ne (by omega)]
theorem ZfC {l xs : List AV} {off : Nat} (h : off + xs.length ≤ l.length) : (ZbZ l off xs).length = l.length := by
 simp [ZbZ]; omega
theorem ZnK {l xs : List AV} {off : Nat} (h : off + xs.length ≤ l.length) (j : Nat) : (ZbZ l off xs)[j]? = if off ≤ j ∧ j < off + xs.length then xs[j - off]? else l[j]? := by
 unfold ZbZ
 rw [List.append_assoc, List.getElem?_append]
 simp only [List.length_take]
 have e : min off l.length = off := by omega
 rw [e]
 by_cases c1 : j < off
 ·
  rw [if_pos c1, if_neg (by omega), List.getElem?_take, if_pos c1]
 ·
  rw [if_neg c1, List.getElem?_append]
  by_cases c2 : j - off < xs.length
  ·
   rw [if_pos c2, if_pos (by omega)]
  ·
   rw [if_neg c2, if_neg (by omega), List.getElem?_drop]
   congr 1
   omega
theorem Zig {l xs : List AV} {off : Nat} (h1 : ∀ x ∈ l, x.one = true) (h2 : ∀ x ∈ xs, x.one = true) : ∀ x ∈ ZbZ l off xs, x.one = true := by
 intro x hx
 simp only [ZbZ, List.mem_append] at hx
 rcases hx with (hx | hx) | hx
 ·
  exact h1 x (List.mem_of_mem_take hx)
 ·
  exact h2 x hx
 ·
  exact h1 x (List.mem_of_mem_drop hx)
def RowR (w0 : World) (M : Mem) (w : World) (cs : Array Value) (l : List AV) : Prop := cs.size = l.length ∧ ∀ i (h1 : i < cs.size) (h2 : i < l.length), R w0 M w cs[i] l[i]
theorem RowR.get {cs : Array Value} {l : List AV} (h : RowR w0 M w cs l) {i : Nat} {v : Value} {x : AV} (hv : cs[i]? = some v) (hx : l[i]? = some x) : R w0 M w v x := by
 obtain ⟨a1, rfl⟩ := Array.getElem?_eq_some_iff.1 hv
 obtain ⟨a2, rfl⟩ := List.getElem?_eq_some_iff.1 hx
 exact h.2 i a1 a2
theorem RowR.mk {cs : Array Value} {l : List AV} (hs : cs.size = l.length) (h : ∀ (i : Nat) (v : Value) (x : AV), cs[i]? = some v → l[i]? = some x → R w0 M w v x) : RowR w0 M w cs l :=
 ⟨hs, fun i h1 h2 => h i _ _ (Array.getElem?_eq_getElem h1) (List.getElem?_eq_getElem h2)⟩
theorem RowR.put {cs cs' : Array Value} {l : List AV} (h : RowR w0 M w cs l) {v : Value} {x : AV} (hR : R w0 M w v x) {off : Nat} (hoff : off + x.cells.length ≤ l.length) (hs : cs'.size = cs.size)
  (hg : ∀ j, cs'[j]? = if off ≤ j ∧ j < off + v.cells.toList.length then v.cells.toList[j - off]? else cs[j]?) : RowR w0 M w cs' (ZbZ l off x.cells) := by
 obtain ⟨c1, c2⟩ := hR.cells
 refine .mk (by rw [hs, ZfC hoff]; exact h.1) (fun i u y hu hy => ?_)
 rw [hg i] at hu
 rw [ZnK hoff] at hy
 simp only [Array.length_toList] at hu
 rw [← c1] at hy
 by_cases c : off ≤ i ∧ i < off + v.cells.size
 ·
  rw [if_pos c] at hu hy
  rw [Array.getElem?_toList] at hu
  exact RowR.get ⟨c1, c2⟩ hu hy
 ·
  rw [if_neg c] at hu hy
  exact h.get hu hy
theorem Zmj (t : TypeId) (pl : Nat → Option (Nat × Nat)) (hpl : ∀ i o s, Zar P t i = some (o, s) → pl i = some (o, s)) :
  ∀ (vs : List (Nat × Value)) (xs : List (Nat × AV)) (cs : Array Value) (l : List AV), vs.length = xs.length → (∀ (k : Nat) (p : Nat × Value) (q : Nat × AV), vs[k]? = some p → xs[k]? = some q → p.1 = q.1 ∧ R w0 M w p.2 q.2 ∧ ZaH q.2 = true) →
   RowR w0 M w cs l → (∀ y ∈ l, y.one = true) → Zat P t l.length xs → ∃ cs', Instr.fill pl cs vs = some cs' ∧ RowR w0 M w cs' (ZaW P t l xs) ∧ (∀ y ∈ ZaW P t l xs, y.one = true)
 | [], [], cs, l, _, _, h, h1, _ => ⟨cs, rfl, h, h1⟩
 | [], _ :: _, _, _, hl, _, _, _, _ => by cases hl
 | _ :: _, [], _, _, hl, _, _, _, _ => by cases hl
 | (i, v) :: vs, (i', x) :: xs, cs, l, hl, hp, h, h1, hf => by
  obtain ⟨rfl, hR, hn⟩ := hp 0 _ _ rfl rfl
  simp only at hR hn
  simp only [Zat] at hf
  obtain ⟨hf1, hf2⟩ := hf
  simp only [Instr.fill, ZaW]
  cases hpp : Zar P t i with
  | none => simp [hpp] at hf1
  | some p =>
   obtain ⟨o, s⟩ := p
   simp only [hpp] at hf1 ⊢
   obtain ⟨a1, a2⟩ := hf1
   obtain ⟨c1, c2⟩ := hR.cells
   rw [hpl i o s hpp]
   have e1 : (decide (v.cells.size ≠ s) || decide (o + v.cells.size > cs.size)) = false := by have := h.1; simp; omega
   simp only [e1, Bool.false_eq_true, if_false]
   have hfl := Zmd v.cells.toList 0 cs o (by simp; have := h.1; omega)
   have efold : (v.cells.zipIdx.foldl (fun cs (c, j) => cs.setIfInBounds (o + j) c) cs) = (v.cells.toList.zipIdx 0).foldl (fun cs (x : Value × Nat) => cs.setIfInBounds (o + x.2) x.1) cs := by
    rw [← Array.foldl_toList]
    simp
   rw [efold]
   simp only [Nat.add_zero] at hfl
   have hput := h.put hR (off := o) (by omega) hfl.1 hfl.2
   refine Zmj t pl hpl vs xs _ _ (by simpa using hl) (fun k p q hk hq => hp (k + 1) p q (by simpa using hk) (by simpa using hq)) hput (Zig h1 (hR.cellsOne (fun vs e => by subst e; cases hn))) ?_
   rw [ZfC (by omega)]
   exact hf2
theorem ZmY {α β : Type} (f : α → Sem β) (g : α → β) : ∀ (l : List α), (∀ x ∈ l, ∀ w, (f x).run P w = .ok (g x) w) → ∀ w, (l.mapM f).run P w = .ok (l.map g) w
 | [], _, w => by simp
 | x :: l, h, w => by simp [h x (by simp), ZmY f g l (fun y hy => h y (by simp [hy])) w]
theorem Zou {α β : Type} (f : α → Sem β) (g : α → β) (xs : Array α) (h : ∀ x ∈ xs.toList, ∀ w, (f x).run P w = .ok (g x) w) (w : World) : (xs.mapM f).run P w = .ok (xs.map g) w := by
 rw [Array.mapM_eq_mapM_toList]
 simp only [Sem.run_map, ZmY f g xs.toList h w, Result.andThen_ok]
 congr 1
 apply Array.ext'
 simp
theorem ZhT : ∀ (fs : List Field) (l : List (Nat × Nat)), ZiS P fs = some l →
  l = fs.map (fun f => (f.offset, P.cellsOf f.type)) ∧ ∀ f ∈ fs, ∀ w, (sizeOf f.type).run P w = .ok (P.cellsOf f.type) w
 | [], l, h => by cases h; exact ⟨rfl, fun f hf => by cases hf⟩
 | f :: fs, l, h => by
  simp only [ZiS] at h
  split at h
  ·
   rename_i i r hi hr
   cases h
   obtain ⟨e1, e2⟩ := ZhT fs r hr
   have hc : P.cellsOf f.type = i.size := by simp [Program.cellsOf, hi]
   refine ⟨by simp [hc, ← e1], fun g hg w => ?_⟩
   rcases List.mem_cons.1 hg with rfl | hg
   ·
    simp [sizeOf, typeInfo, hi, hc]
   ·
    exact e2 g hg w
  ·
   cases h
theorem ZpN (h : Rel w0 n M e st a w) (t : TypeId) (ps : Array (Nat × Operand)) (hob : (Zbp P e true st (.build t ps)).1) :
  Yields' P w0 M (Zbp P e true st (.build t ps)).2.2 (Zbp P e true st (.build t ps)).2.1 w (do pure (.value (← Instr.build t (ps.map fun (i, x) => (i, a.eval x))))) := by
 unfold Zbp at hob ⊢
 cases hz : ZbW P t with
 | none => simp [hz] at hob
 | some z =>
  simp only [hz] at hob ⊢
  obtain ⟨hpl, hps, hf⟩ := hob
  obtain ⟨i, v, hi, hv, hc, hs, rfl⟩ := ZcZ hz
  have hR0 : R w0 M w v (Zge v) := ZiV hc
  have hrow : RowR w0 M w v.cells (Zge v).cells := hR0.cells
  have hone := hR0.cellsOne (fun vs e => by have := Zgm hc; rw [e] at this; cases this)
  have harg : ∀ (k : Nat) (p : Nat × Value) (q : Nat × AV), ((ps.map fun (i, x) => (i, a.eval x)).toList)[k]? = some p → (ps.toList.map fun p => (p.1, Zan e p.2))[k]? = some q → p.1 = q.1 ∧ R w0 M w p.2 q.2 ∧ ZaH q.2 = true := by
   intro k p q hp hq
   simp only [Array.toList_map, List.getElem?_map, Option.map_eq_some_iff] at hp hq
   obtain ⟨p0, h1, rfl⟩ := hp
   obtain ⟨q0, h2, rfl⟩ := hq
   rw [h1] at h2
   cases h2
   have hm : p0 ∈ ps.toList := List.mem_of_getElem? h1
   exact ⟨rfl, ZaY h (hps p0 hm).1, (hps p0 hm).2⟩
  have hlen : ((ps.map fun (i, x) => (i, a.eval x)).toList).length = (ps.toList.map fun p => (p.1, Zan e p.2)).length := by simp
  cases hpp : Zb3 P t with
  | some l =>
   unfold Zb3 at hpp
   split at hpp
   ·
    rename_i fs hu
    obtain ⟨e1, e2⟩ := ZhT _ _ hpp
    have hpl' : ∀ i o s, Zar P t i = some (o, s) → ((fs.map fun f => (f.offset, P.cellsOf f.type))[·]?) i = some (o, s) := by
     intro i o s hp
     simp only [Zar, Zb3, hu, hpp] at hp
     rw [e1] at hp
     simpa using hp
    obtain ⟨cs', f1, f2, f3⟩ := Zmj t _ hpl' _ _ v.cells _ hlen harg hrow hone hf
    refine .here h.st (v := .agg cs') ?_ (.agg f2.1 f3 f2.2)
    have hm := Zou (P := P) (fun (f : Field) => (do pure (f.offset, ← sizeOf f.type) : Sem (Nat × Nat))) (fun f => (f.offset, P.cellsOf f.type)) fs (fun f hf w => by simp [e2 f hf]) w
    simp only [Instr.build, zeroValue, typeInfo, Sem.run_bind, run_program, Result.andThen_ok, hi, hv, Sem.run_pure, run_underlying hu, hm, f1]
   ·
    cases hpp
  | none =>
   cases ha : Zf5 P t with
   | none => simp [hpp, ha] at hpl
   | some p =>
    obtain ⟨m, s, ag⟩ := p
    obtain ⟨el, hu, hty⟩ := Zje ha
    have hpl' : ∀ i o s', Zar P t i = some (o, s') → (fun i => some (i * s, s)) i = some (o, s') := by
     intro i o s' hp
     simpa [Zar, hpp, ha] using hp
    obtain ⟨cs', f1, f2, f3⟩ := Zmj t _ hpl' _ _ v.cells _ hlen harg hrow hone hf
    refine .here h.st (v := .agg cs') ?_ (.agg f2.1 f3 f2.2)
    simp only [Instr.build, zeroValue, typeInfo, Sem.run_bind, run_program, Result.andThen_ok, hi, hv, Sem.run_pure, run_underlying hu, ZaT hty, f1]
theorem Zky (sz : Nat) : ∀ (vals : List Value) (k : Nat) (cs : Array Value), (∀ v ∈ vals, v.cells.size = sz) → (k + vals.length) * sz ≤ cs.size →
  ∃ cs', Instr.fill (fun i => some (i * sz, sz)) cs ((vals.zipIdx k).map fun x => (x.2, x.1)) = some cs' ∧ cs'.size = cs.size ∧ (∀ j, j < k * sz → cs'[j]? = cs[j]?) ∧
   ∀ i v, vals[i]? = some v → ∀ j, j < sz → cs'[(k + i) * sz + j]? = v.cells[j]?
 | [], k, cs, _, _ => ⟨cs, rfl, rfl, fun _ _ => rfl, fun i v h => by simp at h⟩
 | v :: vals, k, cs, hv, hl => by
  have h0 := hv v (by simp)
  simp only [List.length_cons] at hl
  have hl' : (k + 1) * sz ≤ cs.size := Nat.le_trans (Nat.mul_le_mul_right _ (by omega)) hl
  rw [Nat.succ_mul] at hl'
  simp only [List.zipIdx_cons, List.map_cons, Instr.fill]
  have e1 : (decide (v.cells.size ≠ sz) || decide (k * sz + v.cells.size > cs.size)) = false := by simp; omega
  simp only [e1, Bool.false_eq_true, if_false]
  have efold : (v.cells.zipIdx.foldl (fun cs (c, j) => cs.setIfInBounds (k * sz + j) c) cs) = (v.cells.toList.zipIdx 0).foldl (fun cs (x : Value × Nat) => cs.setIfInBounds (k * sz + x.2) x.1) cs := by
   rw [← Array.foldl_toList]
   simp
  have hfl := Zmd v.cells.toList 0 cs (k * sz) (by simp; omega)
  rw [efold]
  simp only [Nat.add_zero, Array.length_toList, h0] at hfl
  obtain ⟨cs', a1, a2, a3, a4⟩ := Zky sz vals (k + 1) ((v.cells.toList.zipIdx 0).foldl (fun cs (x : Value × Nat) => cs.setIfInBounds (k * sz + x.2) x.1) cs) (fun u hu => hv u (by simp [hu])) (by rw [hfl.1]; rw [show k + 1 + vals.length = k + (vals.length + 1) from by omega]; exact hl)
  refine ⟨cs', a1, by rw [a2, hfl.1], fun j hj => ?_, fun i u hu j hj => ?_⟩
  ·
   rw [a3 j (by rw [Nat.succ_mul]; omega), hfl.2 j, if_neg (by omega)]
  ·
   cases i with
   | zero =>
    simp only [List.getElem?_cons_zero, Option.some.injEq] at hu
    subst hu
    simp only [Nat.add_zero]
    rw [a3 _ (by rw [Nat.succ_mul]; omega), hfl.2, if_pos (by omega), Array.getElem?_toList]
    congr 1
    omega
   | succ i =>
    have := a4 i u (by simpa using hu) j hj
    rw [← this, show k + (i + 1) = k + 1 + i from by omega]
theorem Zmb {ps : List (Nat × Operand)} {m : Nat} (h : ps.map (·.1) = List.range m) (f : Operand → Value) :
  (ps.map fun p => (p.1, f p.2)) = ((ps.map fun p => f p.2).zipIdx 0).map fun x => (x.2, x.1) := by
 have hl : ps.length = m := by simpa using congrArg List.length h
 apply List.ext_getElem?
 intro i
 simp only [List.getElem?_map, List.getElem?_zipIdx]
 cases hp : ps[i]? with
 | none => simp
 | some p =>
  have hi : i < m := by rw [← hl]; exact (List.getElem?_eq_some_iff.1 hp).1
  have := congrArg (·[i]?) h
  simp [hp, hi] at this
  simp [this]
theorem R.row {cs : Array Value} {ty : TypeId} {xs : List AV} {sz k : Nat} (us : Nat → Value) (hu : ∀ i (hi : i < xs.length), (us i).cells.size = sz ∧ R w0 M w (us i) xs[i])
  (hc : ∀ i, i < xs.length → ∀ j, j < sz → cs[i * sz + j]? = (us i).cells[j]?) {cap : Nat} (hcap : xs.length ≤ cap) (hm : cap ≤ maxLen) {o : Own} (hk : xs.length * sz ≤ k) (M' : Mem) (hM : M'.top w.heap.size = k)
  (hx : Ext w0 M w M' (w.alloc (.cells cs ty))) (ho : Zsd M' w.heap.size 0 cap xs.length sz o) :
  R w0 M' (w.alloc (.cells cs ty)) (.slice (some ⟨w.heap.size, 0, none⟩) xs.length cap) (.list xs o) := by
 refine .list sz us hcap hm (fun i hi => ⟨(hu i hi).1, fun j hj => ⟨.inr ?_, ?_⟩⟩) (fun i hi => ((hu i hi).2).mono hx) ho
 ·
  rw [hM]
  have : (i + 1) * sz ≤ xs.length * sz := Nat.mul_le_mul_right _ hi
  rw [Nat.succ_mul] at this
  omega
 ·
  rw [Nat.zero_add, World.cell?_alloc_new]
  exact hc i hi j hj
theorem ZkG (h : Rel w0 n M e st a w) (t : TypeId) (m : Nat) (ps : Array (Nat × Operand)) (hmk : Zfg e t = false) (hob : (Zbp P e true st (.buildSlice t m ps)).1) :
  Yields' P w0 M (Zbp P e true st (.buildSlice t m ps)).2.2 (Zbp P e true st (.buildSlice t m ps)).2.1 w (do pure (.value (← Instr.buildSlice t m (ps.map fun (i, x) => (i, a.eval x))))) := by
 unfold Zbp at hob ⊢
 cases he : elT P t with
 | none => simp [he] at hob
 | some p =>
  obtain ⟨el, sz, ag, by8⟩ := p
  simp only [he, hmk] at hob ⊢
  obtain ⟨hps, hr, hbig, hpos, hz, hcs⟩ := hob
  obtain ⟨i, hu, hi, _, hty⟩ := Zdy he
  obtain ⟨z, hz'⟩ := Option.isSome_iff_exists.1 hz
  obtain ⟨i', v, hi', hv, hc, hs, rfl⟩ := ZcZ hz'
  have hl : ps.toList.length = m := by simpa using congrArg List.length hr
  have hcell : ∀ p ∈ ps.toList, (a.eval p.2).cells.size = sz := fun p hp => by
   rw [(ZaY h (hps p hp)).cells.1]
   exact hcs _ (List.mem_map.2 ⟨p, hp, rfl⟩)
  obtain ⟨zc, hzc⟩ : ∃ zc : Array Value, if m * sz = 0 then zc = #[] else zc = v.cells := by
   by_cases h0 : m * sz = 0
   ·
    exact ⟨#[], by rw [if_pos h0]⟩
   ·
    exact ⟨v.cells, by rw [if_neg h0]⟩
  obtain ⟨cs', a1, a2, a3, a4⟩ := Zky sz (ps.toList.map fun p => a.eval p.2) 0 ((Array.range (m * sz)).map (zc[· % zc.size]!)) (fun u hu => by obtain ⟨p, hp, rfl⟩ := List.mem_map.1 hu; exact hcell p hp) (by simp [hl])
  obtain ⟨hst', hx⟩ := h.st.newTop cs' el (m * sz)
  have hlen : ((ps.toList.map fun p => Zan e p.2).map AV.pub).length = m := by simp [← hl]
  have hrow := R.row (us := fun i => ((ps.toList.map fun p => a.eval p.2).getD i undef)) (xs := (ps.toList.map fun p => Zan e p.2).map AV.pub) (cs := cs') (ty := el) (sz := sz) (k := m * sz) (cap := m) (o := .full) ?hu ?hc (by rw [hlen]; exact Nat.le_refl _) ?hm (by rw [hlen]; exact Nat.le_refl _) (M.newTop w.heap.size (m * sz)) (by simp [Mem.newTop]) hx hlen
  case hu =>
   intro k hk
   have hk' : k < ps.toList.length := by simpa using hk
   have e1 : (ps.toList.map fun p => a.eval p.2).getD k undef = a.eval (ps.toList[k]).2 := by simp [List.getD, List.getElem?_eq_getElem hk']
   rw [e1]
   refine ⟨hcell _ (List.getElem_mem _), ?_⟩
   simp only [List.getElem_map]
   exact (ZaY h (hps _ (List.getElem_mem _))).pub
  case hc =>
   intro k hk j hj
   have hk' : k < ps.toList.length := by simpa using hk
   have := a4 k (a.eval (ps.toList[k]).2) (by simp [List.getElem?_eq_getElem hk']) j hj
   rw [Nat.zero_add] at this
   rw [this]
   simp [List.getD, List.getElem?_eq_getElem hk']
  case hm =>
   have : m * 1 ≤ m * sz := Nat.mul_le_mul_left _ hpos
   simp [maxLen]
   omega
  rw [hlen] at hrow
  refine .value ⟨_, _, _, ?_, hx, hst', hrow⟩
  have e0 : ¬ (m * sz > 2 ^ 24) := by omega
  have efl : (ps.map fun (i, x) => (i, a.eval x)).toList = ((ps.toList.map fun p => a.eval p.2).zipIdx 0).map fun x => (x.2, x.1) := by
   rw [Array.toList_map]
   exact Zmb hr a.eval
  by_cases h0 : m * sz = 0
  ·
   rw [if_pos h0] at hzc
   subst hzc
   simp only [Instr.buildSlice, Sem.run_bind, run_underlying hu, Result.andThen_ok, ZaT hty, if_neg e0, if_pos h0, Sem.run_pure, efl, a1, newRow, run_newObj]
   rfl
  ·
   rw [if_neg h0] at hzc
   subst hzc
   simp only [Instr.buildSlice, Sem.run_bind, run_underlying hu, Result.andThen_ok, ZaT hty, if_neg e0, if_neg h0, Sem.run_pure, zeroValue, typeInfo, run_program, hi', hv, efl, a1, newRow, run_newObj]
   rfl
theorem Below.setRow {B : Nat} {x y : World} (h : Below B x y) {g : Nat} (hg : B ≤ g) (cs : Array Value) : Below B x (y.setRow g cs) :=
 h.trans ⟨rfl, rfl, rfl, by simp, fun k hk => setRow_other y g k cs (by omega)⟩
theorem KeepsObj.setRow {g : Nat} {c : Array Value} {ty : TypeId} (hg : w.heap[g]? = some (.cells c ty (0, 0))) (c' : Array Value) : KeepsObj w (w.setRow g c') := by
 intro b o h1 h2
 by_cases q : b = g
 ·
  subst q; rw [hg] at h1; cases h1; cases h2
 ·
  rw [setRow_other w g b c' q]; exact h1
theorem Zfq (M' : Mem) (hN : M'.N = M.N) (hb : ∀ l, l < M.N → M'.bx l = M.bx l) (hNR : M'.NR = M.NR)
  (hr : ∀ id, id < M.NR → M.fr id ≤ M'.fr id ∧ (M'.fr id = M.fr id → M'.blk id = M.blk id ∧ M'.cap id = M.cap id ∧ M'.rsz id = M.rsz id)) (ht : ∀ b, M.top b ≤ M'.top b)
  {g : Nat} {c c' : Array Value} {ty : TypeId} (hg : w.heap[g]? = some (.cells c ty (0, 0))) (hg0 : w0.heap.size ≤ g) (hkeep : ∀ j, j < M.top g → c'[j]? = c[j]?) (hNL : M'.NL = M.NL := by rfl) (hlb : M'.lb = M.lb := by rfl) :
  Ext w0 M w M' (w.setRow g c') :=
 ⟨by omega, hb, by omega, hr, fun b off v hi hc => by
  refine ⟨?_, hi.imp id (fun q => Nat.lt_of_lt_of_le q (ht b))⟩
  by_cases hbg : b = g
  ·
   subst hbg
   have h0 : off < M.top b := hi.resolve_left (by omega)
   rw [cell_of_row w b off c ty _ hg] at hc
   rw [cell_of_row _ b off c' ty _ (setRow_heap w b c c' ty _ hg), hkeep off h0]
   exact hc
  ·
   rw [cell_setRow_other w g c' ⟨b, off, none⟩ hbg]
   exact hc, by simp, by omega, fun _ _ => by rw [hlb], fun _ _ _ => by omega, fun b o h1 h2 _ => KeepsObj.setRow hg c' b o h1 h2⟩
theorem Zpv (h : Rel w0 n M e st a w) (t : TypeId) (x v : Operand) (hob : (Zbp P e true st (.store t x v)).1) :
  Yields' P w0 M (Zbp P e true st (.store t x v)).2.2 (Zbp P e true st (.store t x v)).2.1 w (do Instr.storeAt t (a.eval x) (a.eval v); pure .skip) := by
 unfold Zbp at hob ⊢
 cases ht : tyT P t with
 | none => simp [ht] at hob
 | some p =>
  obtain ⟨sz, ag⟩ := p
  simp only [ht] at hob ⊢
  obtain ⟨_, hx, hv, hbx, hr, hn, hl, hle⟩ := hob
  have hRx := ZaY h hx
  have hRv := ZaY h hv
  generalize Zan e x = X at hRx hbx hr hle ⊢
  generalize a.eval x = vx at hRx ⊢
  cases X with
  | box l off =>
   cases hRx with
   | box hlN =>
    have hlt : l < st.boxes.length := by simpa [Zcg] using hr
    obtain ⟨cs, hcs⟩ : ∃ cs, st.boxes[l]? = some cs := ⟨_, List.getElem?_eq_getElem hlt⟩
    have ecs : st.boxes.getD l [] = cs := by simp [List.getD, hcs]
    obtain ⟨b1, b2, c, ty, b3, b4, b5, b6⟩ := h.st.box l cs hcs
    simp only [ZaM, Zdq, ecs] at hle
    simp only [Zk9, ecs]
    obtain ⟨v1, v2⟩ := hRv.cells
    have v3 := hRv.cellsOne (fun vs e => by rw [e] at hn; cases hn)
    have hone : ∀ u ∈ (a.eval v).cells.toList, u.oneCell' = true := by
     intro u hu
     obtain ⟨k, hk, rfl⟩ := List.getElem_of_mem hu
     simp only [Array.length_toList] at hk
     rw [Array.getElem_toList]
     exact (v2 k hk (by omega)).oneCell (v3 _ (List.getElem_mem _))
    have hst := run_storeCells_at P (M.bx l) off ty (a.eval v).cells.toList 0 c w b3 (by simp; omega) hone
    simp only [Nat.add_zero] at hst
    generalize hc' : (c.toList.take off ++ (a.eval v).cells.toList ++ c.toList.drop (off + (a.eval v).cells.toList.length)).toArray = c' at hst
    have hsz' : c'.size = c.size := by rw [← hc']; simp; omega
    have hget : ∀ j, c'[j]? = if off ≤ j ∧ j < off + (a.eval v).cells.toList.length then (a.eval v).cells.toList[j - off]? else c[j]? := by
     intro j
     rw [← hc', List.getElem?_toArray, List.append_assoc, List.getElem?_append]
     simp only [List.length_take, Array.length_toList]
     have e : min off c.size = off := by omega
     rw [e]
     by_cases c1 : j < off
     ·
      rw [if_pos c1, if_neg (by omega), List.getElem?_take, if_pos c1, Array.getElem?_toList]
     ·
      rw [if_neg c1, List.getElem?_append]
      simp only [Array.length_toList]
      by_cases c2 : j - off < (a.eval v).cells.size
      ·
       rw [if_pos c2, if_pos (by omega)]
      ·
       rw [if_neg c2, if_neg (by omega), List.getElem?_drop, Array.getElem?_toList]
       congr 1
       omega
    have hx : Ext w0 M w M (w.setRow (M.bx l) c') := Zfq M rfl (fun _ _ => rfl) rfl (fun _ _ => ⟨Nat.le_refl _, fun _ => ⟨rfl, rfl, rfl⟩⟩) (fun _ => Nat.le_refl _) b3 b1 (fun j hj => by rw [b2] at hj; omega)
    have hrow : RowR w0 M w c' (ZbZ cs off (Zan e v).cells) := RowR.put ⟨b4, b6⟩ hRv (by omega) hsz' hget
    refine ⟨undef, _, M, .inr ⟨?_, rfl⟩, hx, ⟨Below.setRow h.st.below b1 _, by simp [h.st.N], h.st.NR, fun b hb => h.st.top b (by simpa using hb), h.st.inj, fun l' cs' hl' => ?_, fun id x hid => (h.st.row id x hid).keep hx rfl rfl rfl rfl rfl (h.st.row id x hid).ne (setRow_other w _ _ _ (Ne.symm ((h.st.row id x hid).ne l hlN))), h.st.rowinj, h.st.loop.mono hx rfl (KeepsObj.setRow b3 _)⟩, ZoJ⟩
    ·
     have e0 : ¬ ((a.eval v).cells.size ≠ sz) := by omega
     simp only [Instr.storeAt, Instr.sureAddr, Sem.run_bind, Sem.run_pure, Result.andThen_ok, storeVar, ZaT ht, if_neg e0, hst]
    ·
     by_cases ell : l' = l
     ·
      subst ell
      rw [List.getElem?_set_self hlt] at hl'
      cases hl'
      exact ⟨b1, b2, c', ty, setRow_heap w _ c c' ty _ b3, hrow.1, Zig b5 v3, fun i h1 h2 => (hrow.2 i h1 h2).mono hx⟩
     ·
      rw [List.getElem?_set_ne (Ne.symm ell)] at hl'
      obtain ⟨d1, d2, d, ty', d3, d4, d5, d6⟩ := h.st.box l' cs' hl'
      have hl'N : l' < M.N := by rw [h.st.N]; exact (List.getElem?_eq_some_iff.1 hl').1
      have hne : M.bx l' ≠ M.bx l := fun q => ell (h.st.inj l' l hl'N hlN q)
      exact ⟨d1, d2, d, ty', by rw [setRow_other w _ _ _ hne]; exact d3, d4, d5, fun i h1 h2 => (d6 i h1 h2).mono hx⟩
  | vel id ver off =>
   cases hRx with
   | @vel _ _ _ ad hid hver hh =>
    obtain ⟨sz', cs, hvr⟩ := Zjb (show (Ze4 st.rows id ver).isSome = true from hr)
    have hrow := ZdD hvr
    obtain ⟨f1, f2, b1, b2, f5, f6, f7, c, ty, b3, b4, f10, b5, b6⟩ := h.st.row id _ hrow
    have had := hh f1.symm
    subst had
    simp only [ZaM, Zdq, hvr] at hle
    simp only [Zk9, hvr]
    obtain ⟨v1, v2⟩ := hRv.cells
    have v3 := hRv.cellsOne (fun vs e => by rw [e] at hn; cases hn)
    have hone : ∀ u ∈ (a.eval v).cells.toList, u.oneCell' = true := by
     intro u hu
     obtain ⟨k, hk, rfl⟩ := List.getElem_of_mem hu
     simp only [Array.length_toList] at hk
     rw [Array.getElem_toList]
     exact (v2 k hk (by omega)).oneCell (v3 _ (List.getElem_mem _))
    have hst := run_storeCells_at P (M.blk id) off ty (a.eval v).cells.toList 0 c w b3 (by simp; omega) hone
    simp only [Nat.add_zero] at hst
    generalize hc' : (c.toList.take off ++ (a.eval v).cells.toList ++ c.toList.drop (off + (a.eval v).cells.toList.length)).toArray = c' at hst
    have hsz' : c'.size = c.size := by rw [← hc']; simp; omega
    have hget : ∀ j, c'[j]? = if off ≤ j ∧ j < off + (a.eval v).cells.toList.length then (a.eval v).cells.toList[j - off]? else c[j]? := by
     intro j
     rw [← hc', List.getElem?_toArray, List.append_assoc, List.getElem?_append]
     simp only [List.length_take, Array.length_toList]
     have e : min off c.size = off := by omega
     rw [e]
     by_cases c1 : j < off
     ·
      rw [if_pos c1, if_neg (by omega), List.getElem?_take, if_pos c1, Array.getElem?_toList]
     ·
      rw [if_neg c1, List.getElem?_append]
      simp only [Array.length_toList]
      by_cases c2 : j - off < (a.eval v).cells.size
      ·
       rw [if_pos c2, if_pos (by omega)]
      ·
       rw [if_neg c2, if_neg (by omega), List.getElem?_drop, Array.getElem?_toList]
       congr 1
       omega
    have hx : Ext w0 M w M (w.setRow (M.blk id) c') := Zfq M rfl (fun _ _ => rfl) rfl (fun _ _ => ⟨Nat.le_refl _, fun _ => ⟨rfl, rfl, rfl⟩⟩) (fun _ => Nat.le_refl _) b3 b1 (fun j hj => by rw [b2] at hj; omega)
    have hidl : id < st.rows.length := (List.getElem?_eq_some_iff.1 hrow).1
    have hsl := ZfC (l := cs) (xs := (Zan e v).cells) (off := off) (by omega)
    refine ⟨undef, _, M, .inr ⟨?_, rfl⟩, hx, ⟨Below.setRow h.st.below b1 _, h.st.N, by simp [h.st.NR], fun b hb => h.st.top b (by simpa using hb), h.st.inj, fun l' cs' hl' => ?_, fun id' x hid' => ?_, h.st.rowinj, h.st.loop.mono hx rfl (KeepsObj.setRow b3 _)⟩, ZoJ⟩
    ·
     have e0 : ¬ ((a.eval v).cells.size ≠ sz) := by omega
     simp only [Instr.storeAt, Instr.sureAddr, Sem.run_bind, Sem.run_pure, Result.andThen_ok, storeVar, ZaT ht, if_neg e0, hst]
    ·
     obtain ⟨d1, d2, d, ty', d3, d4, d5, d6⟩ := h.st.box l' cs' hl'
     have hl'N : l' < M.N := by rw [h.st.N]; exact (List.getElem?_eq_some_iff.1 hl').1
     exact ⟨d1, d2, d, ty', by rw [setRow_other w _ _ _ (f5 l' hl'N)]; exact d3, d4, d5, fun i h1 h2 => (d6 i h1 h2).mono hx⟩
    ·
     by_cases ell : id' = id
     ·
      subst ell
      rw [List.getElem?_set_self hidl] at hid'
      cases hid'
      refine ⟨f1, f2, b1, b2, f5, f6, f7, c', ty, setRow_heap w _ c c' ty _ b3, hsz'.trans b4, by omega, Zig b5 v3, fun i h1 h2 => ?_⟩
      have hput : RowR w0 M w (c'.extract 0 cs.length) (ZbZ cs off (Zan e v).cells) := by
       have hex : RowR w0 M w (c.extract 0 cs.length) cs := ⟨by simp; omega, fun i h1 h2 => by rw [Array.getElem_extract]; simp only [Nat.zero_add]; exact b6 i (by omega) h2⟩
       refine RowR.put hex hRv (by omega) (by simp; omega) (fun j => ?_)
       simp only [Array.getElem?_extract, Nat.zero_add, hget]
       by_cases q1 : j < min cs.length c'.size
       ·
        rw [if_pos (by omega)]
        by_cases q2 : off ≤ j ∧ j < off + (a.eval v).cells.toList.length
        ·
         rw [if_pos q2, if_pos q2]
        ·
         rw [if_neg q2, if_neg q2, if_pos (by omega)]
       ·
        rw [if_neg (by omega), if_neg (by simp; omega), if_neg (by omega)]
      have h3 : i < (c'.extract 0 cs.length).size := by simp; omega
      have := (hput.2 i h3 h2).mono hx
      rw [Array.getElem_extract] at this
      simpa using this
     ·
      rw [List.getElem?_set_ne (Ne.symm ell)] at hid'
      have hk := h.st.row id' x hid'
      have hid'N : id' < M.NR := by rw [h.st.NR]; exact (List.getElem?_eq_some_iff.1 hid').1
      have hne : M.blk id' ≠ M.blk id := fun q => ell (h.st.rowinj id' id hid'N hid q)
      exact hk.keep hx rfl rfl rfl rfl rfl hk.ne (setRow_other w _ _ _ hne)
  | _ => cases hbx
end
section
variable {P : Program} {w0 : World} {n : Nat} {M : Mem} {e : Env} {st : St} {a : Act} {w : World}
def flat (us : Nat → Value) (m : Nat) : List Value := (List.range m).flatMap fun i => (us i).cells.toList
theorem ZlD (us : Nat → Value) (m : Nat) : flat us (m + 1) = flat us m ++ (us m).cells.toList := by
 simp [flat, List.range_succ]
theorem Zaq {us : Nat → Value} {sz : Nat} : ∀ {m : Nat}, (∀ i, i < m → (us i).cells.size = sz) → (flat us m).length = m * sz
 | 0, _ => by simp [flat]
 | m + 1, h => by
  rw [ZlD, List.length_append, Zaq (fun i hi => h i (by omega)), Array.length_toList, h m (by omega), Nat.succ_mul]
theorem Zfb {us : Nat → Value} {sz : Nat} : ∀ {m : Nat}, (∀ i, i < m → (us i).cells.size = sz) → ∀ i, i < m → ∀ j, j < sz → (flat us m)[i * sz + j]? = (us i).cells[j]?
 | 0, _, i, hi, _, _ => absurd hi (by omega)
 | m + 1, h, i, hi, j, hj => by
  have hl := Zaq (us := us) (m := m) (fun i hi => h i (by omega))
  rw [ZlD, List.getElem?_append, hl]
  by_cases c : i = m
  ·
   subst c
   rw [if_neg (by omega), show i * sz + j - i * sz = j from by omega, Array.getElem?_toList]
  ·
   have h1 : (i + 1) * sz ≤ m * sz := Nat.mul_le_mul_right _ (by omega)
   rw [Nat.succ_mul] at h1
   rw [if_pos (by omega)]
   exact Zfb (fun i hi => h i (by omega)) i (by omega) j hj
theorem Zda {us : Nat → Value} {sz m : Nat} (hs : ∀ i, i < m → (us i).cells.size = sz) {b off : Nat} (hsz : 0 < sz) (hc : ∀ i, i < m → ∀ j, j < sz → w.cell? ⟨b, off + i * sz + j, none⟩ = (us i).cells[j]?) :
  ∀ j u, (flat us m)[j]? = some u → w.cell? ((⟨b, off, none⟩ : Addr).add j) = some u := by
 intro j u hu
 have hl := Zaq hs
 have hj : j < m * sz := by rw [← hl]; exact (List.getElem?_eq_some_iff.1 hu).1
 have e := Nat.div_add_mod j sz
 have hi : j / sz < m := (Nat.div_lt_iff_lt_mul hsz).2 hj
 have hjm := Nat.mod_lt j hsz
 have h1 := Zfb hs (j / sz) hi (j % sz) hjm
 have h2 := hc (j / sz) hi (j % sz) hjm
 have e' : j / sz * sz + j % sz = j := by rw [Nat.mul_comm]; exact e
 rw [e'] at h1
 rw [Nat.add_assoc, e'] at h2
 rw [ZcD, h2, ← h1, hu]
theorem R.list_open {v : Value} {xs : List AV} {o : Own} {sz : Nat} (h : R w0 M w v (.list xs o)) (hs : ∀ y ∈ xs, y.cells.length = sz) :
  ∃ us : Nat → Value, (∀ i (hi : i < xs.length), (us i).cells.size = sz ∧ R w0 M w (us i) xs[i]) ∧
   (((v = .slice none 0 0 ∨ ∃ ad, v = .slice (some ad) 0 0) ∧ xs = [] ∧ ∀ id, o ≠ .row id) ∨ ∃ b off cap sz', v = .slice (some ⟨b, off, none⟩) xs.length cap ∧ xs.length ≤ cap ∧ cap ≤ maxLen ∧ Zsd M b off cap xs.length sz' o ∧
    ∀ i, i < xs.length → ∀ j, j < sz → w.cell? ⟨b, off + i * sz + j, none⟩ = (us i).cells[j]?) := by
 cases h with
 | nil ho => exact ⟨fun _ => undef, fun i hi => absurd hi (by simp), .inl ⟨.inl rfl, rfl, ho⟩⟩
 | emp ho => exact ⟨fun _ => undef, fun i hi => absurd hi (by simp), .inl ⟨.inr ⟨_, rfl⟩, rfl, ho⟩⟩
 | @list b off cap _ _ sz' us hc hm hcell hu ho =>
  have key : ∀ i (hi : i < xs.length), (us i).cells.size = sz := fun i hi => by rw [(hu i hi).cells.1]; exact hs _ (List.getElem_mem _)
  refine ⟨us, fun i hi => ⟨key i hi, hu i hi⟩, .inr ⟨b, off, cap, sz', rfl, hc, hm, ho, fun i hi j hj => ?_⟩⟩
  have e : sz' = sz := by rw [← (hcell i hi).1, key i hi]
  subst e
  exact ((hcell i hi).2 j hj).2
theorem ZkW {us : Nat → Value} {xs : List AV} {sz : Nat} (hu : ∀ i (hi : i < xs.length), (us i).cells.size = sz ∧ R w0 M w (us i) xs[i]) (hn : ∀ y ∈ xs, ZaH y = true) : ∀ u ∈ flat us xs.length, u.oneCell' = true := by
 intro u hm
 obtain ⟨i, hi, hmem⟩ := List.mem_flatMap.1 hm
 have hi' : i < xs.length := List.mem_range.1 hi
 obtain ⟨hs, hR⟩ := hu i hi'
 obtain ⟨k, hk, rfl⟩ := List.getElem_of_mem hmem
 simp only [Array.length_toList] at hk
 rw [Array.getElem_toList]
 have hone := hR.cellsOne (fun vs e => by have := hn _ (List.getElem_mem hi'); rw [e] at this; cases this)
 exact (hR.cells.2 k hk (by rw [← hR.cells.1]; exact hk)).oneCell (hone _ (List.getElem_mem _))
def Mem.addRow (M : Mem) (b cap k sz tp : Nat) : Mem :=
  { M with NR := M.NR + 1, fr := fun i => if i = M.NR then k else M.fr i, blk := fun i => if i = M.NR then b else M.blk i, cap := fun i => if i = M.NR then cap else M.cap i,
           rsz := fun i => if i = M.NR then sz else M.rsz i, top := fun x => if x = b then tp else M.top x }
def Mem.growRow (M : Mem) (id b cap k tp : Nat) : Mem :=
 { M with fr := fun i => if i = id then k else M.fr i, blk := fun i => if i = id then b else M.blk i, cap := fun i => if i = id then cap else M.cap i, top := fun x => if x = b then tp else M.top x }
theorem RelSt.addRow' (h : RelSt w0 M st w) {cs : Array Value} {ty : TypeId} {cap k sz tp : Nat} {x : RowA}
  (hnew : Ext w0 M w (M.addRow w.heap.size cap k sz tp) (w.alloc (.cells cs ty)) → (∀ l, l < M.N → M.bx l ≠ w.heap.size) → RowOk w0 (M.addRow w.heap.size cap k sz tp) (w.alloc (.cells cs ty)) M.NR x) :
  RelSt w0 (M.addRow w.heap.size cap k sz tp) { st with rows := st.rows ++ [x] } (w.alloc (.cells cs ty)) ∧ Ext w0 M w (M.addRow w.heap.size cap k sz tp) (w.alloc (.cells cs ty)) := by
 have tp' : ∀ b, b < w.heap.size → (M.addRow w.heap.size cap k sz tp).top b = M.top b := fun b hb => by simp [Mem.addRow]; omega
 have old : ∀ i, i < M.NR → (M.addRow w.heap.size cap k sz tp).fr i = M.fr i ∧ (M.addRow w.heap.size cap k sz tp).blk i = M.blk i ∧ (M.addRow w.heap.size cap k sz tp).cap i = M.cap i ∧ (M.addRow w.heap.size cap k sz tp).rsz i = M.rsz i := by
  intro i hi
  have : ¬ i = M.NR := by omega
  simp [Mem.addRow, this]
 have hx : Ext w0 M w (M.addRow w.heap.size cap k sz tp) (w.alloc (.cells cs ty)) :=
  Zik _ _ (.inl rfl) (fun _ _ => rfl) (Nat.le_succ _) (fun i hi => by obtain ⟨a1, a2, a3, a4⟩ := old i hi; exact ⟨by omega, fun _ => ⟨a2, a3, a4⟩⟩) (fun b hb => by rw [tp' b hb]; exact Nat.le_refl _)
 have hne : ∀ l, l < M.N → M.bx l ≠ w.heap.size := fun l hl => by have := h.box_lt hl; omega
 refine ⟨⟨h.below.alloc h.base_le _, h.N, by simp [Mem.addRow, h.NR], fun b hb => ?_, h.inj, fun l c hl => ?_, fun id y hid => ?_, fun i j hi hj hij => ?_, h.loop.mono hx rfl (KeepsObj.alloc _ _)⟩, hx⟩
 ·
  simp at hb
  have : (M.addRow w.heap.size cap k sz tp).top b = M.top b := by simp [Mem.addRow]; omega
  rw [this]
  exact h.top b (by omega)
 ·
  obtain ⟨a1, a2, c', ty', a3, a4, a5, a6⟩ := h.box l c hl
  have hlt := (Array.getElem?_eq_some_iff.1 a3).1
  exact ⟨a1, by rw [show (M.addRow w.heap.size cap k sz tp).bx l = M.bx l from rfl, tp' _ hlt]; exact a2, c', ty', by rw [show (M.addRow w.heap.size cap k sz tp).bx l = M.bx l from rfl, ZaK _ _ hlt]; exact a3, a4, a5, fun i h1 h2 => (a6 i h1 h2).mono hx⟩
 ·
  by_cases e1 : id = M.NR
  ·
   subst e1
   simp only [h.NR, List.getElem?_concat_length, Option.some.injEq] at hid
   subst hid
   exact hnew hx hne
  ·
   have hid' : id < M.NR := by
    have : id < (st.rows ++ [x]).length := (List.getElem?_eq_some_iff.1 hid).1
    have hN := h.NR
    simp at this
    omega
   rw [List.getElem?_append_left (by rw [← h.NR]; exact hid')] at hid
   have hk := h.row id y hid
   obtain ⟨o1, o2, o3, o4⟩ := old id hid'
   exact hk.keep hx o1 o4 o2 o3 (tp' _ hk.lt) hk.ne (ZaK _ _ hk.lt)
 ·
  have hN : (M.addRow w.heap.size cap k sz tp).NR = M.NR + 1 := rfl
  rw [hN] at hi hj
  have new : (M.addRow w.heap.size cap k sz tp).blk M.NR = w.heap.size := by simp [Mem.addRow]
  by_cases e1 : i = M.NR
  ·
   by_cases e2 : j = M.NR
   ·
    omega
   ·
    subst e1
    rw [new, (old j (by omega)).2.1] at hij
    have := h.row_lt (i := j) (by omega)
    omega
  ·
   by_cases e2 : j = M.NR
   ·
    subst e2
    rw [new, (old i (by omega)).2.1] at hij
    have := h.row_lt (i := i) (by omega)
    omega
   ·
    rw [(old i (by omega)).2.1, (old j (by omega)).2.1] at hij
    exact h.rowinj i j (by omega) (by omega) hij
theorem RelSt.addRow (h : RelSt w0 M st w) {cs : Array Value} {ty : TypeId} {cap k sz : Nat} (hm : cap ≤ maxLen) (hk : k ≤ cap) (hs : cs.size = cap * sz) :
  RelSt w0 (M.addRow w.heap.size cap k sz (k * sz)) { st with rows := st.rows ++ [.grow k sz] } (w.alloc (.cells cs ty)) ∧ Ext w0 M w (M.addRow w.heap.size cap k sz (k * sz)) (w.alloc (.cells cs ty)) :=
 h.addRow' fun _ hne => by
  have q : (M.addRow w.heap.size cap k sz (k * sz)).fr M.NR = k ∧ (M.addRow w.heap.size cap k sz (k * sz)).blk M.NR = w.heap.size ∧ (M.addRow w.heap.size cap k sz (k * sz)).cap M.NR = cap ∧ (M.addRow w.heap.size cap k sz (k * sz)).rsz M.NR = sz ∧ (M.addRow w.heap.size cap k sz (k * sz)).top w.heap.size = k * sz := by simp [Mem.addRow]
  obtain ⟨q1, q2, q3, q4, q5⟩ := q
  simp only [RowOk, q1, q2, q3, q4, q5]
  exact ⟨trivial, trivial, h.base_le, trivial, hne, hm, hk, cs, ty, heap_alloc_new w _, hs⟩
theorem RelSt.addVec (h : RelSt w0 M st w) {cs : Array Value} {ty : TypeId} {cap sz : Nat} {xs : List AV} (hm : cap ≤ maxLen) (hz : 0 < sz) (hs : cs.size = cap * sz) (hl : xs.length ≤ cs.size) (h1 : ∀ x ∈ xs, x.one = true) (hR : ∀ (i : Nat) (v : Value) (x : AV), cs[i]? = some v → xs[i]? = some x → R w0 M w v x) :
  RelSt w0 (M.addRow w.heap.size cap 0 sz 0) { st with rows := st.rows ++ [.vec 0 sz xs] } (w.alloc (.cells cs ty)) ∧ Ext w0 M w (M.addRow w.heap.size cap 0 sz 0) (w.alloc (.cells cs ty)) :=
 h.addRow' fun hx hne => by
  have q : (M.addRow w.heap.size cap 0 sz 0).fr M.NR = 0 ∧ (M.addRow w.heap.size cap 0 sz 0).blk M.NR = w.heap.size ∧ (M.addRow w.heap.size cap 0 sz 0).cap M.NR = cap ∧ (M.addRow w.heap.size cap 0 sz 0).rsz M.NR = sz ∧ (M.addRow w.heap.size cap 0 sz 0).top w.heap.size = 0 := by simp [Mem.addRow]
  obtain ⟨q1, q2, q3, q4, q5⟩ := q
  simp only [RowOk, q1, q2, q3, q4, q5]
  exact ⟨trivial, trivial, h.base_le, trivial, hne, hm, hz, cs, ty, heap_alloc_new w _, hs, hl, h1, fun i a b => (hR i _ _ (Array.getElem?_eq_getElem a) (List.getElem?_eq_getElem b)).mono hx⟩
theorem RelSt.growRow' (h : RelSt w0 M st w) {id : Nat} {x0 x : RowA} (hid : st.rows[id]? = some x0) {w' : World} {b cap k tp : Nat} (hbelow : Below w0.heap.size w w')
  (hsize : w.heap.size ≤ w'.heap.size) (hbw : b < w'.heap.size) (hbox : ∀ l, l < M.N → M.bx l ≠ b ∧ w'.heap[M.bx l]? = w.heap[M.bx l]?) (hrow : ∀ i, i < M.NR → i ≠ id → M.blk i ≠ b ∧ w'.heap[M.blk i]? = w.heap[M.blk i]?)
  (hnew : RowOk w0 (M.growRow id b cap k tp) w' id x) (hx : Ext w0 M w (M.growRow id b cap k tp) w') (hko : KeepsObj w w') :
  RelSt w0 (M.growRow id b cap k tp) { st with rows := st.rows.set id x } w' := by
 have hidlt : id < st.rows.length := (List.getElem?_eq_some_iff.1 hid).1
 refine ⟨h.below.trans hbelow, h.N, by simp [Mem.growRow, h.NR], fun y hy' => ?_, h.inj, fun l c hl => ?_, fun i y hi => ?_, fun i j hi hj hij => ?_, h.loop.mono hx rfl hko⟩
 ·
  have : (M.growRow id b cap k tp).top y = M.top y := by simp [Mem.growRow]; omega
  rw [this]
  exact h.top y (by omega)
 ·
  obtain ⟨a1, a2, c', ty', a3, a4, a5, a6⟩ := h.box l c hl
  have hlN : l < M.N := by rw [h.N]; exact (List.getElem?_eq_some_iff.1 hl).1
  obtain ⟨h1, h2⟩ := hbox l hlN
  refine ⟨a1, ?_, c', ty', by rw [show (M.growRow id b cap k tp).bx l = M.bx l from rfl, h2]; exact a3, a4, a5, fun i h1 h2 => (a6 i h1 h2).mono hx⟩
  show (M.growRow id b cap k tp).top (M.bx l) = 0
  simp [Mem.growRow, h1, a2]
 ·
  by_cases e1 : i = id
  ·
   subst e1
   rw [List.getElem?_set_self hidlt] at hi
   cases hi
   exact hnew
  ·
   rw [List.getElem?_set_ne (Ne.symm e1)] at hi
   have hiN : i < M.NR := by rw [h.NR]; exact (List.getElem?_eq_some_iff.1 hi).1
   have hk := h.row i y hi
   obtain ⟨h1, h2⟩ := hrow i hiN e1
   have q : (M.growRow id b cap k tp).fr i = M.fr i ∧ (M.growRow id b cap k tp).blk i = M.blk i ∧ (M.growRow id b cap k tp).cap i = M.cap i ∧ (M.growRow id b cap k tp).rsz i = M.rsz i ∧ (M.growRow id b cap k tp).top (M.blk i) = M.top (M.blk i) := by simp [Mem.growRow, e1, h1]
   obtain ⟨q1, q2, q3, q4, q5⟩ := q
   exact hk.keep hx q1 q4 q2 q3 q5 hk.ne h2
 ·
  have blkid : ∀ j, (M.growRow id b cap k tp).blk j = if j = id then b else M.blk j := fun j => rfl
  rw [blkid, blkid] at hij
  have hN : (M.growRow id b cap k tp).NR = M.NR := rfl
  rw [hN] at hi hj
  by_cases e1 : i = id
  ·
   by_cases e2 : j = id
   ·
    omega
   ·
    rw [if_pos e1, if_neg e2] at hij
    exact absurd hij.symm (hrow j hj e2).1
  ·
   by_cases e2 : j = id
   ·
    rw [if_neg e1, if_pos e2] at hij
    exact absurd hij (hrow i hi e1).1
   ·
    rw [if_neg e1, if_neg e2] at hij
    exact h.rowinj i j hi hj hij
theorem RelSt.growRow (h : RelSt w0 M st w) {id : Nat} {k0 sz : Nat} (hid : st.rows[id]? = some (.grow k0 sz)) {w' : World} {b cap k : Nat} (hb0 : w0.heap.size ≤ b) (hbelow : Below w0.heap.size w w')
  (hsize : w.heap.size ≤ w'.heap.size) (hbw : b < w'.heap.size) (hm : cap ≤ maxLen) (hk : k ≤ cap) (hbox : ∀ l, l < M.N → M.bx l ≠ b ∧ w'.heap[M.bx l]? = w.heap[M.bx l]?) (hrow : ∀ i, i < M.NR → i ≠ id → M.blk i ≠ b ∧ w'.heap[M.blk i]? = w.heap[M.blk i]?)
  {cs : Array Value} {ty : TypeId} (hcs : w'.heap[b]? = some (.cells cs ty (0, 0))) (hs : cs.size = cap * sz) (hx : Ext w0 M w (M.growRow id b cap k (k * sz)) w') (hko : KeepsObj w w') :
  RelSt w0 (M.growRow id b cap k (k * sz)) { st with rows := st.rows.set id (.grow k sz) } w' := by
 refine h.growRow' hid hbelow hsize hbw hbox hrow ?_ hx hko
 have q : (M.growRow id b cap k (k * sz)).fr id = k ∧ (M.growRow id b cap k (k * sz)).blk id = b ∧ (M.growRow id b cap k (k * sz)).cap id = cap ∧ (M.growRow id b cap k (k * sz)).rsz id = M.rsz id ∧ (M.growRow id b cap k (k * sz)).top b = k * sz := by simp [Mem.growRow]
 obtain ⟨q1, q2, q3, q4, q5⟩ := q
 simp only [RowOk, q1, q2, q3, q4, q5]
 exact ⟨trivial, (h.row id _ hid).2.1, hb0, trivial, fun l hl => (hbox l hl).1, hm, hk, cs, ty, hcs, hs⟩
def ZpB (us ux : Nat → Value) (k : Nat) : Nat → Value := fun i => if i < k then us i else ux (i - k)
theorem ZoC {us ux : Nat → Value} {xs ys : List AV} {sz : Nat} {M' : Mem} {w' : World} (hx : Ext w0 M w M' w') (h1 : ∀ i (hi : i < xs.length), (us i).cells.size = sz ∧ R w0 M w (us i) xs[i]) (h2 : ∀ i (hi : i < ys.length), (ux i).cells.size = sz ∧ R w0 M w (ux i) ys[i]) :
  ∀ i (hi : i < (xs ++ ys.map AV.pub).length), (ZpB us ux xs.length i).cells.size = sz ∧ R w0 M' w' (ZpB us ux xs.length i) (xs ++ ys.map AV.pub)[i] := by
 intro i hi
 unfold ZpB
 by_cases c : i < xs.length
 ·
  rw [if_pos c, List.getElem_append_left c]
  exact ⟨(h1 i c).1, ((h1 i c).2).mono hx⟩
 ·
  simp at hi
  rw [if_neg c, List.getElem_append_right (by omega), List.getElem_map]
  exact ⟨(h2 _ (by omega)).1, ((h2 _ (by omega)).2).pub.mono hx⟩
theorem Zm4 {us ux : Nat → Value} {k m sz : Nat} (hs : ∀ i, i < k → (us i).cells.size = sz) (hx : ∀ i, i < m → (ux i).cells.size = sz) (zs : List Value) :
  ∀ i, i < k + m → ∀ j, j < sz → (flat us k ++ flat ux m ++ zs)[i * sz + j]? = (ZpB us ux k i).cells[j]? := by
 intro i hi j hj
 have l1 := Zaq hs
 have l2 := Zaq hx
 rw [List.append_assoc, List.getElem?_append, l1]
 unfold ZpB
 by_cases c : i < k
 ·
  have q : (i + 1) * sz ≤ k * sz := Nat.mul_le_mul_right _ c
  rw [Nat.succ_mul] at q
  rw [if_pos (by omega), if_pos c]
  exact Zfb hs i c j hj
 ·
  have q : k * sz ≤ i * sz := Nat.mul_le_mul_right _ (by omega)
  have q2 : (i - k + 1) * sz ≤ m * sz := Nat.mul_le_mul_right _ (by omega)
  rw [Nat.succ_mul] at q2
  have e : i * sz = k * sz + (i - k) * sz := by rw [← Nat.add_mul]; congr 1; omega
  rw [if_neg (by omega), if_neg c, List.getElem?_append, l2, if_pos (by omega), show i * sz + j - k * sz = (i - k) * sz + j from by omega]
  exact Zfb hx (i - k) (by omega) j hj
theorem Zne (t ty el : TypeId) {sz : Nat} {ag : Bool} (ht : P.underlying t = some (.slice el)) (hty : tyT P el = some (sz, ag)) (g k cap : Nat) (cur : Array Value) (te : TypeId) (hg : w.heap[g]? = some (.cells cur te (0, 0)))
  {x : Value} {m : Nat} (hlen : (Builtin.lenOf x).run P w = .ok m w) (news : List Value) (hf : (Builtin.firstCells sz m x).run P w = .ok news.toArray w) (h1 : ∀ u ∈ news, u.oneCell' = true)
  (hroom : k + m ≤ cap) (hfit : k * sz + news.length ≤ cur.size) :
  (Builtin.append_ #[t, t] ty #[.slice (some ⟨g, 0, none⟩) k cap, x]).run P w =
   .ok (.slice (some ⟨g, 0, none⟩) (k + m) cap) (w.setRow g (cur.toList.take (k * sz) ++ news ++ cur.toList.drop (k * sz + news.length)).toArray) := by
 have hst := run_storeCells_at P g (k * sz) te news 0 cur w hg (by simpa using hfit) h1
 simp only [Nat.add_zero] at hst
 obtain ⟨i, d, hi, hsz, _, _⟩ := ZgQ hty
 subst hsz
 have hadd : (⟨g, 0, none⟩ : Addr).add (k * i.size) = ⟨g, k * i.size, none⟩ := by rw [ZcD, Nat.zero_add]
 simp [Builtin.append_, run_underlying ht, sizeOf, typeInfo, hi, hlen, hroom, hf, hadd, hst]
theorem Zgw {ys : List AV} {sz : Nat} (hs : ∀ y ∈ ys, y.cells.length = sz) : (ys.flatMap fun y => y.pub.cells).length = ys.length * sz := by
 induction ys with
 | nil => simp
 | cons y ys ih =>
  rw [List.flatMap_cons, List.length_append, ih (fun z hz => hs z (by simp [hz])), AV.pub_cells_length, hs y (by simp), List.length_cons, Nat.succ_mul]
  omega
theorem ZrL {sz : Nat} : ∀ (ys : List AV), (∀ y ∈ ys, y.cells.length = sz) → ∀ i y, ys[i]? = some y → ∀ k, k < sz → (ys.flatMap fun y => y.pub.cells)[i * sz + k]? = y.pub.cells[k]?
 | [], _, i, y, h, _, _ => by simp at h
 | x :: ys, hs, 0, y, h, k, hk => by
  simp only [List.getElem?_cons_zero, Option.some.injEq] at h
  subst h
  rw [List.flatMap_cons, Nat.zero_mul, Nat.zero_add, List.getElem?_append_left (by rw [AV.pub_cells_length, hs x (by simp)]; exact hk)]
 | x :: ys, hs, i + 1, y, h, k, hk => by
  have hx : x.pub.cells.length = sz := by rw [AV.pub_cells_length]; exact hs x (by simp)
  rw [List.flatMap_cons, List.getElem?_append_right (by rw [hx, Nat.succ_mul]; omega), hx, show (i + 1) * sz + k - sz = i * sz + k from by rw [Nat.succ_mul]; omega]
  exact ZrL ys (fun z hz => hs z (by simp [hz])) i y (by simpa using h) k hk
theorem ZmM {ux : Nat → Value} {ys : List AV} (hu : ∀ i (hi : i < ys.length), R w0 M w (ux i) ys[i]) (hn : ∀ y ∈ ys, ZaH y = true) : ∀ x ∈ ys.flatMap (fun y => y.pub.cells), x.one = true := by
 intro x hx
 obtain ⟨y, hy, hxy⟩ := List.mem_flatMap.1 hx
 obtain ⟨i, hi, rfl⟩ := List.mem_iff_getElem.1 hy
 refine ((hu i hi).pub).cellsOne (fun vs e => ?_) x hxy
 have := hn _ hy
 cases h : ys[i] <;> rw [h] at e this <;> first | (cases this; done) | (cases e; done)
theorem Zvk {ux : Nat → Value} {ys : List AV} {sz : Nat} (hz : 0 < sz) (hu : ∀ i (hi : i < ys.length), (ux i).cells.size = sz ∧ R w0 M w (ux i) ys[i]) (hs : ∀ y ∈ ys, y.cells.length = sz) {j : Nat} {v : Value} {x : AV} (hv : (flat ux ys.length)[j]? = some v) (hx : (ys.flatMap fun y => y.pub.cells)[j]? = some x) : R w0 M w v x := by
 have hj : j < ys.length * sz := by rw [← Zgw hs]; exact (List.getElem?_eq_some_iff.1 hx).1
 have hi : j / sz < ys.length := (Nat.div_lt_iff_lt_mul hz).2 hj
 have hk := Nat.mod_lt j hz
 have e : j / sz * sz + j % sz = j := by rw [Nat.mul_comm]; exact Nat.div_add_mod j sz
 have h1 := Zfb (us := ux) (sz := sz) (fun i hi => (hu i hi).1) (j / sz) hi (j % sz) hk
 have h2 := ZrL ys hs (j / sz) _ (List.getElem?_eq_getElem hi) (j % sz) hk
 rw [e] at h1 h2
 rw [hv] at h1
 rw [hx] at h2
 obtain ⟨_, hc⟩ := ((hu _ hi).2).pub.cells
 obtain ⟨q1, q2⟩ := Array.getElem?_eq_some_iff.1 h1.symm
 obtain ⟨q3, q4⟩ := List.getElem?_eq_some_iff.1 h2.symm
 rw [← q2, ← q4]
 exact hc _ q1 q3
theorem Zla (h : Rel w0 n M e st a w) (s x : Operand) (t ty : TypeId) (hs : ZaE e true s) (hx : ZaE e true x) (hob : (ZaS P st t (Zan e s) (Zan e x)).1) :
  Yields' P w0 M (ZaS P st t (Zan e s) (Zan e x)).2.2 (ZaS P st t (Zan e s) (Zan e x)).2.1 w (do pure (.value (← Builtin.append_ #[t, t] ty #[a.eval s, a.eval x]))) := by
 have hRs := ZaY h hs
 have hRx := ZaY h hx
 generalize Zan e s = S at hRs hob ⊢
 generalize Zan e x = X at hRx hob ⊢
 generalize a.eval s = vs at hRs ⊢
 generalize a.eval x = vx at hRx ⊢
 unfold ZaS at hob ⊢
 cases he : elT P t with
 | none => simp [he] at hob
 | some p =>
  obtain ⟨el, sz, ag, by8⟩ := p
  simp only [he] at hob ⊢
  obtain ⟨info, hu, hi, hby, hty⟩ := Zdy he
  have hisz : info.size = sz := by
   obtain ⟨i', d, h1, h2, _⟩ := ZgQ hty
   rw [hi] at h1; cases h1; exact h2
  cases S with
  | list xs o =>
   cases o with
   | none => exact hob.elim
   | full =>
   simp only at hob ⊢
   by_cases hl0 : (ZaA X).length = 0
   ·
    rw [if_pos hl0] at hob ⊢
    obtain ⟨lx, hsz⟩ := hob
    obtain ⟨ys, o', rfl⟩ := Zd1 lx
    simp only [ZaA] at hl0
    have : ys = [] := List.length_eq_zero_iff.1 hl0
    subst this
    refine .here h.st (v := vs) ?_ hRs
    have hx0 : (Builtin.lenOf vx).run P w = .ok 0 w ∧ (Builtin.firstCells sz 0 vx).run P w = .ok #[] w := by
     cases hRx with
     | nil _ => exact ⟨rfl, rfl⟩
     | emp _ => exact ⟨rfl, by simp [Builtin.firstCells, loadCells, loadCellsFrom]⟩
     | list => exact ⟨rfl, by simp [Builtin.firstCells, loadCells, loadCellsFrom]⟩
    obtain ⟨hx1, hx2⟩ := hx0
    have hgo : ∀ (ad : Option Addr) (ln cap : Nat), ln ≤ cap → (Builtin.append_ #[t, t] ty #[.slice ad ln cap, vx]).run P w = .ok (.slice ad ln cap) w := fun ad ln cap hle => by
     cases ad with
     | none => simp [Builtin.append_, run_underlying hu, sizeOf, typeInfo, hi, hisz, hx1, hx2, hle]
     | some ad => simp [Builtin.append_, run_underlying hu, sizeOf, typeInfo, hi, hisz, hx1, hx2, hle, storeCells]
    cases hRs with
    | nil _ => exact hgo none 0 0 (Nat.le_refl _)
    | emp _ => exact hgo _ 0 0 (Nat.le_refl _)
    | list sz us hc => exact hgo _ _ _ hc
   rw [if_neg hl0] at hob ⊢
   obtain ⟨lx, ⟨hsz, hz, hbytes, hbig, cx⟩, cs⟩ := hob
   obtain ⟨ys, o', rfl⟩ := Zd1 lx
   simp only [ZaA] at *
   have hpos : 0 < ys.length := by omega
   obtain ⟨z, hz'⟩ := Option.isSome_iff_exists.1 hz
   obtain ⟨i', v, hi', hv, hc, hzs, rfl⟩ := ZcZ hz'
   rw [hi] at hi'; cases hi'
   obtain ⟨us, u1, u2⟩ := hRs.list_open cs
   obtain ⟨ux, x1, x2⟩ := hRx.list_open (fun y hy => (cx y hy).1)
   have u1' : ∀ i, i < xs.length → (us i).cells.size = sz := fun i hi => (u1 i hi).1
   have x1' : ∀ i, i < ys.length → (ux i).cells.size = sz := fun i hi => (x1 i hi).1
   rcases x2 with ⟨_, q, _⟩ | ⟨bx, ox, cx', _, rfl, _, _, _, hcx⟩
   ·
    subst q; exact absurd hpos (by simp)
   have hnew := Zda (w := w) x1' hsz hcx
   have hneed : xs.length + ys.length ≤ maxLen := by simp [maxLen]; omega
   have finish : ∀ (old : Nat) (zs : List Value) (cells : Array Value), cells.toList = flat us xs.length ++ flat ux ys.length ++ zs → zs.length = (grownCap w (xs.length + ys.length) old el - (xs.length + ys.length)) * sz →
     (Builtin.append_ #[t, t] ty #[vs, .slice (some ⟨bx, ox, none⟩) ys.length cx']).run P w = .ok (.slice (some ⟨w.heap.size, 0, none⟩) (xs.length + ys.length) (grownCap w (xs.length + ys.length) old el)) (w.drew.alloc (.cells cells el)) →
     Yields' P w0 M { st with rows := st.rows ++ [.grow (xs.length + ys.length) sz] } (.list (xs ++ ys.map AV.pub) (.row st.rows.length)) w (do pure (.value (← Builtin.append_ #[t, t] ty #[vs, .slice (some ⟨bx, ox, none⟩) ys.length cx']))) := by
    intro old zs cells hcells hzl hrun
    obtain ⟨d1, d2⟩ := h.st.drew
    have hge := grownCap_ge w (xs.length + ys.length) old el
    have hle := grownCap_le_maxLen w (xs.length + ys.length) old el hneed
    have hsize : cells.size = grownCap w (xs.length + ys.length) old el * sz := by
     have : cells.size = cells.toList.length := by simp
     rw [this, hcells]
     simp only [List.length_append, Zaq u1', Zaq x1', hzl]
     rw [← Nat.add_mul, ← Nat.add_mul]
     congr 1
     omega
    obtain ⟨r1, r2⟩ := d1.addRow (cs := cells) (ty := el) (sz := sz) hle hge hsize
    have hall := ZoC (w0 := w0) d2 u1 x1
    have hlen : (xs ++ ys.map AV.pub).length = xs.length + ys.length := by simp
    have hrow := R.row (w0 := w0) (M := M) (w := w.drew) (us := ZpB us ux xs.length) (xs := xs ++ ys.map AV.pub) (cs := cells) (ty := el) (sz := sz) (k := (xs.length + ys.length) * sz) (cap := grownCap w (xs.length + ys.length) old el) (o := .row st.rows.length) hall
     (fun i hi j hj => by
      rw [hlen] at hi
      rw [← Array.getElem?_toList, hcells]
      exact Zm4 u1' x1' zs i hi j hj) (by rw [hlen]; exact hge) hle (by rw [hlen]; exact Nat.le_refl _) (M.addRow w.drew.heap.size (grownCap w (xs.length + ys.length) old el) (xs.length + ys.length) sz ((xs.length + ys.length) * sz)) (by simp [Mem.addRow]) r2
     (by
      have hN := h.st.NR
      refine ⟨by simp [Mem.addRow, hN], by rw [hlen]; simp [Mem.addRow, hN], fun _ => by simp [Mem.addRow, hN]⟩)
    rw [hlen] at hrow
    exact .value ⟨_, _, _, hrun, d2.trans r2, r1, hrow⟩
   have hl2 : (flat ux ys.length).length = ys.length * info.size := by rw [Zaq x1', hisz]
   have hb2 : (xs.length + ys.length) * info.bytes ≤ 140737488355328 := by rw [hby]; exact hbytes
   rcases u2 with ⟨rfl | ⟨ad, rfl⟩, q, _⟩ | ⟨bs, os, cps, sz', rfl, _, _, ho, hcs'⟩
   ·
    subst q
    simp only [List.length_nil, Nat.zero_add] at *
    have hrun := run_append_nil (P := P) w t ty el info v hu hi hv ⟨bx, ox, none⟩ ys.length cx' (flat ux ys.length) hl2 hnew hpos (by omega) (by omega)
    refine finish 0 (Builtin.zeroCells v.cells (grownCap w ys.length 0 el - ys.length)).toList _ ?_ ?_ hrun
    ·
     simp [flat]
    ·
     simp only [Array.length_toList, size_zeroCells, hzs, hisz]
   ·
    subst q
    simp only [List.length_nil, Nat.zero_add] at *
    have hrun := run_append_grow (P := P) w t ty el info v hu hi hv ad 0 0 [] (by simp) (fun j u hu => by simp at hu) ⟨bx, ox, none⟩ ys.length cx' (flat ux ys.length) hl2 hnew (by omega) (by rw [Nat.zero_add]; omega) (growslice_fits (by omega) (by rw [Nat.zero_add]; exact hb2))
    simp only [Nat.zero_add] at hrun
    refine finish 0 (Builtin.zeroCells v.cells (grownCap w ys.length 0 el - ys.length)).toList _ ?_ ?_ hrun
    ·
     simp [flat]
    ·
     simp only [Array.length_toList, size_zeroCells, hzs, hisz]
   ·
    have hcap : xs.length = cps := ho
    have hold := Zda (w := w) u1' hsz hcs'
    have hl1 : (flat us xs.length).length = xs.length * info.size := by rw [Zaq u1', hisz]
    have hrun := run_append_grow (P := P) w t ty el info v hu hi hv ⟨bs, os, none⟩ xs.length cps (flat us xs.length) hl1 hold ⟨bx, ox, none⟩ ys.length cx' (flat ux ys.length) hl2 hnew (by omega) (by omega) (growslice_fits (by omega) hb2)
    refine finish cps (Builtin.zeroCells v.cells (grownCap w (xs.length + ys.length) cps el - (xs.length + ys.length))).toList _ ?_ ?_ hrun
    ·
     simp
    ·
     simp only [Array.length_toList, size_zeroCells, hzs, hisz]
   | seed =>
   simp only at hob ⊢
   obtain ⟨lx, ⟨hsz, hz, hbytes, hbig, cx⟩, hxs, hpos⟩ := hob
   obtain ⟨ys, o', rfl⟩ := Zd1 lx
   have : xs = [] := List.length_eq_zero_iff.1 hxs
   subst this
   simp only [ZaA, Nat.zero_add] at *
   obtain ⟨z, hz'⟩ := Option.isSome_iff_exists.1 hz
   obtain ⟨i', v, hi', hv, hc, hzs, rfl⟩ := ZcZ hz'
   rw [hi] at hi'; cases hi'
   obtain ⟨ux, x1, x2⟩ := hRx.list_open (fun y hy => (cx y hy).1)
   have x1' : ∀ i, i < ys.length → (ux i).cells.size = sz := fun i hi => (x1 i hi).1
   rcases x2 with ⟨_, q, _⟩ | ⟨bx, ox, cx', _, rfl, _, _, _, hcx⟩
   ·
    subst q; exact absurd hpos (by simp)
   have hnew := Zda (w := w) x1' hsz hcx
   have hneed : ys.length ≤ maxLen := by simp [maxLen]; omega
   have hl2 : (flat ux ys.length).length = ys.length * info.size := by rw [Zaq x1', hisz]
   have hb2 : ys.length * info.bytes ≤ 140737488355328 := by rw [hby]; exact hbytes
   have finish : ∀ (old : Nat) (zs : List Value) (cells : Array Value), cells.toList = flat ux ys.length ++ zs → zs.length = (grownCap w ys.length old el - ys.length) * sz →
     (Builtin.append_ #[t, t] ty #[vs, .slice (some ⟨bx, ox, none⟩) ys.length cx']).run P w = .ok (.slice (some ⟨w.heap.size, 0, none⟩) ys.length (grownCap w ys.length old el)) (w.drew.alloc (.cells cells el)) →
     Yields' P w0 M { st with rows := st.rows ++ [.vec 0 sz (ys.flatMap fun y => y.pub.cells)] } (.vec st.rows.length 0 0 ys.length) w (do pure (.value (← Builtin.append_ #[t, t] ty #[vs, .slice (some ⟨bx, ox, none⟩) ys.length cx']))) := by
    intro old zs cells hcells hzl hrun
    obtain ⟨d1, d2⟩ := h.st.drew
    have hge := grownCap_ge w ys.length old el
    have hle := grownCap_le_maxLen w ys.length old el hneed
    have hsize : cells.size = grownCap w ys.length old el * sz := by
     have : cells.size = cells.toList.length := by simp
     rw [this, hcells]
     simp only [List.length_append, Zaq x1', hzl]
     rw [← Nat.add_mul]
     congr 1
     omega
    have hfl := Zgw (fun y hy => (cx y hy).1)
    obtain ⟨r1, r2⟩ := d1.addVec (cs := cells) (ty := el) (sz := sz) (xs := ys.flatMap fun y => y.pub.cells) hle hsz hsize (by rw [hsize, hfl]; exact Nat.mul_le_mul_right _ hge) (ZmM (fun i hi => ((x1 i hi).2).mono d2) (fun y hy => (cx y hy).2))
     (fun i v x hv' hx' => by
      have hil : i < ys.length * sz := by rw [← hfl]; exact (List.getElem?_eq_some_iff.1 hx').1
      rw [← Array.getElem?_toList, hcells, List.getElem?_append_left (by rw [Zaq x1']; exact hil)] at hv'
      exact (Zvk hsz x1 (fun y hy => (cx y hy).1) hv' hx').mono d2)
    refine .value ⟨_, _, _, hrun, d2.trans r2, r1, ?_⟩
    have hN := h.st.NR
    refine .vec (by simp [Mem.addRow, hN]) (Nat.zero_le _) fun _ => ⟨by simp [Mem.addRow, hN], by simp [Mem.addRow, hN], hge⟩
   (cases hRs with
   | nil ho =>
    have hrun := run_append_nil (P := P) w t ty el info v hu hi hv ⟨bx, ox, none⟩ ys.length cx' (flat ux ys.length) hl2 hnew hpos (by omega) (by omega)
    refine finish 0 (Builtin.zeroCells v.cells (grownCap w ys.length 0 el - ys.length)).toList _ ?_ ?_ hrun
    ·
     simp
    ·
     simp only [Array.length_toList, size_zeroCells, hzs, hisz]
   | @emp ad _ ho =>
    have hrun := run_append_grow (P := P) w t ty el info v hu hi hv ad 0 0 [] (by simp) (fun j u hu => by simp at hu) ⟨bx, ox, none⟩ ys.length cx' (flat ux ys.length) hl2 hnew (by omega) (by rw [Nat.zero_add]; omega) (growslice_fits (by omega) (by rw [Nat.zero_add]; exact hb2))
    simp only [Nat.zero_add] at hrun
    refine finish 0 (Builtin.zeroCells v.cells (grownCap w ys.length 0 el - ys.length)).toList _ ?_ ?_ hrun
    ·
     simp
    ·
     simp only [Array.length_toList, size_zeroCells, hzs, hisz]
   | @list b off cap _ _ sz' us hc' hm' hcell hu' ho =>
    have hcap : (0 : Nat) = cap := ho
    subst hcap
    have hrun := run_append_grow (P := P) w t ty el info v hu hi hv ⟨b, off, none⟩ 0 0 [] (by simp) (fun j u hu => by simp at hu) ⟨bx, ox, none⟩ ys.length cx' (flat ux ys.length) hl2 hnew (by omega) (by rw [Nat.zero_add]; omega) (growslice_fits (by omega) (by rw [Nat.zero_add]; exact hb2))
    simp only [Nat.zero_add] at hrun
    refine finish 0 (Builtin.zeroCells v.cells (grownCap w ys.length 0 el - ys.length)).toList _ ?_ ?_ hrun
    ·
     simp
    ·
     simp only [Array.length_toList, size_zeroCells, hzs, hisz])
   | row id =>
   simp only at hob ⊢
   obtain ⟨lx, ⟨hsz, hz, hbytes, hbig, cx⟩, cs, hid⟩ := hob
   obtain ⟨ys, o', rfl⟩ := Zd1 lx
   simp only [ZaA] at *
   obtain ⟨z, hz'⟩ := Option.isSome_iff_exists.1 hz
   obtain ⟨i', v, hi', hv, hc, hzs, rfl⟩ := ZcZ hz'
   rw [hi] at hi'; cases hi'
   obtain ⟨us, u1, u2⟩ := hRs.list_open cs
   obtain ⟨ux, x1, x2⟩ := hRx.list_open (fun y hy => (cx y hy).1)
   have u1' : ∀ i, i < xs.length → (us i).cells.size = sz := fun i hi => (u1 i hi).1
   have x1' : ∀ i, i < ys.length → (ux i).cells.size = sz := fun i hi => (x1 i hi).1
   have hidN : id < M.NR := by rw [h.st.NR]; exact (List.getElem?_eq_some_iff.1 hid).1
   obtain ⟨f1, f2, f3, f4, f5, f6, f7, cur, te, f8, f9⟩ := h.st.row id _ hid
   rcases u2 with ⟨_, _, q⟩ | ⟨bs, os, cps, sz', rfl, _, _, ho, hcs'⟩
   ·
    exact absurd rfl (q id)
   obtain ⟨_, _, ho3⟩ := ho
   obtain ⟨e1, e2, e3, _⟩ := ho3 f1.symm
   subst e1; subst e2; subst e3
   have hlen : (xs ++ ys.map AV.pub).length = xs.length + ys.length := by simp
   have hlx : (Builtin.lenOf vx).run P w = .ok ys.length w := by
    rcases x2 with ⟨rfl | ⟨_, rfl⟩, q, _⟩ | ⟨bx, ox, cx', _, rfl, _⟩
    ·
     subst q; rfl
    ·
     subst q; rfl
    ·
     rfl
   have hl2 : (flat ux ys.length).length = ys.length * info.size := by rw [Zaq x1', hisz]
   have hnew1 : (Builtin.firstCells sz ys.length vx).run P w = .ok (flat ux ys.length).toArray w := by
    rcases x2 with ⟨rfl | ⟨_, rfl⟩, q, _⟩ | ⟨bx, ox, cx', _, rfl, _, _, _, hcx⟩
    ·
     subst q; rfl
    ·
     subst q; simp [Builtin.firstCells, loadCells, loadCellsFrom, flat]
    ·
     exact run_firstCells_some w sz ys.length ⟨bx, ox, none⟩ ys.length cx' (flat ux ys.length) (Zaq x1') (Zda (w := w) x1' hsz hcx)
   by_cases hroom : xs.length + ys.length ≤ M.cap id
   ·
    -- there is room
    have hfit : xs.length * sz + (flat ux ys.length).length ≤ cur.size := by rw [Zaq x1', f9, ← Nat.add_mul]; exact Nat.mul_le_mul_right _ hroom
    have hrun := Zne (P := P) (w := w) t ty el hu hty (M.blk id) xs.length (M.cap id) cur te f8 hlx (flat ux ys.length) hnew1 (ZkW x1 (fun y hy => (cx y hy).2)) hroom hfit
    generalize hc' : (cur.toList.take (xs.length * sz) ++ flat ux ys.length ++ cur.toList.drop (xs.length * sz + (flat ux ys.length).length)).toArray = cur' at hrun
    have hsz' : cur'.size = cur.size := by rw [← hc']; simp; omega
    have hkeep : ∀ j, j < xs.length * sz → cur'[j]? = cur[j]? := by
     intro j hj
     rw [← hc', List.getElem?_toArray, List.append_assoc, List.getElem?_append_left (by simp; omega), List.getElem?_take, if_pos hj, Array.getElem?_toList]
    have hnewc : ∀ j, j < ys.length * sz → cur'[xs.length * sz + j]? = (flat ux ys.length)[j]? := by
     intro j hj
     have l2 := Zaq x1'
     rw [← hc', List.getElem?_toArray, List.append_assoc, List.getElem?_append_right (by simp; omega)]
     simp only [List.length_take, Array.length_toList]
     have e : min (xs.length * sz) cur.size = xs.length * sz := by omega
     rw [e, show xs.length * sz + j - xs.length * sz = j from by omega, List.getElem?_append_left (by rw [l2]; exact hj)]
    have hext : Ext w0 M w (M.growRow id (M.blk id) (M.cap id) (xs.length + ys.length) ((xs.length + ys.length) * sz)) (w.setRow (M.blk id) cur') := by
     refine Zfq (M := M) (M.growRow id (M.blk id) (M.cap id) (xs.length + ys.length) ((xs.length + ys.length) * sz)) rfl (fun _ _ => rfl) rfl (fun i hi => ?_) (fun b => ?_) f8 f3 (fun j hj => hkeep j (by rw [f4] at hj; exact hj))
     ·
      by_cases c : i = id
      ·
       subst c
       simp only [Mem.growRow, if_true, f1]
       exact ⟨by omega, fun _ => ⟨trivial, trivial, trivial⟩⟩
      ·
       simp only [Mem.growRow, if_neg c]
       exact ⟨Nat.le_refl _, fun _ => ⟨trivial, trivial, trivial⟩⟩
     ·
      simp only [Mem.growRow]
      split
      ·
       rename_i c
       rw [c, f4]
       exact Nat.mul_le_mul_right _ (by omega)
      ·
       exact Nat.le_refl _
    have hblt := h.st.row_lt hidN
    have hst' := h.st.growRow hid (w' := w.setRow (M.blk id) cur') (b := M.blk id) (cap := M.cap id) (k := xs.length + ys.length) f3 (Below.setRow (Below.refl _ _) f3 _) (by simp) (by simpa using hblt) f6 hroom
     (fun l hl => ⟨f5 l hl, setRow_other w _ _ _ (f5 l hl)⟩) (fun i hi hne => by
      have : M.blk i ≠ M.blk id := fun q => hne (h.st.rowinj i id hi hidN q)
      exact ⟨this, setRow_other w _ _ _ this⟩) (setRow_heap w _ cur cur' te _ f8) (by rw [hsz']; exact f9) hext (KeepsObj.setRow f8 _)
    have hall := ZoC (w0 := w0) hext u1 x1
    have hrow := R.list (w0 := w0) (M := M.growRow id (M.blk id) (M.cap id) (xs.length + ys.length) ((xs.length + ys.length) * sz)) (w := w.setRow (M.blk id) cur') (b := M.blk id) (off := 0) (cap := M.cap id) (xs := xs ++ ys.map AV.pub) (o := .row id) sz (ZpB us ux xs.length) (by rw [hlen]; exact hroom) f6
     (fun i hi => ⟨(hall i hi).1, fun j hj => by
      rw [hlen] at hi
      have q1 : (i + 1) * sz ≤ (xs.length + ys.length) * sz := Nat.mul_le_mul_right _ hi
      rw [Nat.succ_mul] at q1
      refine ⟨.inr ?_, ?_⟩
      ·
       simp only [Mem.growRow, if_true]
       omega
      ·
       rw [Nat.zero_add, cell_of_row _ _ _ cur' te _ (setRow_heap w _ cur cur' te _ f8)]
       unfold ZpB
       by_cases c : i < xs.length
       ·
        have q : (i + 1) * sz ≤ xs.length * sz := Nat.mul_le_mul_right _ c
        rw [Nat.succ_mul] at q
        have := hcs' i c j hj
        rw [Nat.zero_add, cell_of_row _ _ _ cur te _ f8] at this
        rw [if_pos c, hkeep _ (by omega), this]
       ·
        have q : (i - xs.length + 1) * sz ≤ ys.length * sz := Nat.mul_le_mul_right _ (by omega)
        rw [Nat.succ_mul] at q
        have e : i * sz = xs.length * sz + (i - xs.length) * sz := by rw [← Nat.add_mul]; congr 1; omega
        rw [if_neg c, show i * sz + j = xs.length * sz + ((i - xs.length) * sz + j) from by omega, hnewc _ (by omega)]
        exact Zfb x1' _ (by omega) j hj⟩) (fun i hi => (hall i hi).2)
     (by
      rw [hlen]
      refine ⟨hidN, by simp [Mem.growRow], fun _ => ⟨by simp [Mem.growRow], rfl, by simp [Mem.growRow], ?_⟩⟩
      simp [Mem.growRow, f2])
    rw [hlen] at hrow
    exact .value ⟨_, _, _, hrun, hext, hst', hrow⟩
   ·
    -- a new row
    have hypos : 0 < ys.length := by omega
    rcases x2 with ⟨_, q, _⟩ | ⟨bx, ox, cx', _, rfl, _, _, _, hcx⟩
    ·
     subst q; simp at hypos
    have hnew := Zda (w := w) x1' hsz hcx
    have hold := Zda (w := w) u1' hsz hcs'
    have hl1 : (flat us xs.length).length = xs.length * info.size := by rw [Zaq u1', hisz]
    have hb2 : (xs.length + ys.length) * info.bytes ≤ 140737488355328 := by rw [hby]; exact hbytes
    have hrun := run_append_grow (P := P) w t ty el info v hu hi hv ⟨M.blk id, 0, none⟩ xs.length (M.cap id) (flat us xs.length) hl1 hold ⟨bx, ox, none⟩ ys.length cx' (flat ux ys.length) hl2 hnew (by omega) (by omega) (growslice_fits (by omega) hb2)
    have hneed : xs.length + ys.length ≤ maxLen := by simp [maxLen]; omega
    have hge := grownCap_ge w (xs.length + ys.length) (M.cap id) el
    have hle := grownCap_le_maxLen w (xs.length + ys.length) (M.cap id) el hneed
    generalize hcl : ((flat us xs.length).toArray ++ (flat ux ys.length).toArray ++ Builtin.zeroCells v.cells (grownCap w (xs.length + ys.length) (M.cap id) el - (xs.length + ys.length))) = cells at hrun
    have hclist : cells.toList = flat us xs.length ++ flat ux ys.length ++ (Builtin.zeroCells v.cells (grownCap w (xs.length + ys.length) (M.cap id) el - (xs.length + ys.length))).toList := by rw [← hcl]; simp
    generalize grownCap w (xs.length + ys.length) (M.cap id) el = gc at *
    have hsize : cells.size = gc * sz := by
     have : cells.size = cells.toList.length := by simp
     rw [this, hclist]
     simp only [List.length_append, Zaq u1', Zaq x1', Array.length_toList, size_zeroCells, hzs, hisz]
     rw [← Nat.add_mul, ← Nat.add_mul]
     congr 1
     omega
    obtain ⟨d1, d2⟩ := h.st.drew
    have hext : Ext w0 M w.drew (M.growRow id w.drew.heap.size gc (xs.length + ys.length) ((xs.length + ys.length) * sz)) (w.drew.alloc (.cells cells el)) := by
     refine Zik _ _ (.inl rfl) (fun _ _ => rfl) (Nat.le_refl _) (fun i hi => ?_) (fun b hb => ?_)
     ·
      by_cases c : i = id
      ·
       subst c
       simp only [Mem.growRow, if_true, f1]
       exact ⟨by omega, fun q => absurd q (by omega)⟩
      ·
       simp only [Mem.growRow, if_neg c]
       exact ⟨Nat.le_refl _, fun _ => ⟨trivial, trivial, trivial⟩⟩
     ·
      simp only [Mem.growRow]
      rw [if_neg (by omega)]
      exact Nat.le_refl _
    have hst' := d1.growRow hid (w' := w.drew.alloc (.cells cells el)) (b := w.drew.heap.size) (cap := gc) (k := xs.length + ys.length) h.st.base_le ((Below.refl _ w.drew).alloc h.st.base_le _) (by simp) (by simp) hle hge
     (fun l hl => by have := h.st.box_lt hl; exact ⟨fun q => by simp at q; omega, ZaK _ _ this⟩) (fun i hi hne => by have := h.st.row_lt hi; exact ⟨fun q => by simp at q; omega, ZaK _ _ this⟩) (heap_alloc_new w.drew _) hsize hext (KeepsObj.alloc _ _)
    have hall := ZoC (w0 := w0) d2 u1 x1
    have hrow := R.row (w0 := w0) (M := M) (w := w.drew) (us := ZpB us ux xs.length) (xs := xs ++ ys.map AV.pub) (cs := cells) (ty := el) (sz := sz) (k := (xs.length + ys.length) * sz) (cap := gc) (o := .row id) hall
     (fun i hi j hj => by
      rw [hlen] at hi
      rw [← Array.getElem?_toList, hclist]
      exact Zm4 u1' x1' _ i hi j hj) (by rw [hlen]; exact hge) hle (by rw [hlen]; exact Nat.le_refl _) (M.growRow id w.drew.heap.size gc (xs.length + ys.length) ((xs.length + ys.length) * sz)) (by simp [Mem.growRow]) hext
     (by
      refine ⟨hidN, by rw [hlen]; simp [Mem.growRow], fun _ => ⟨by simp [Mem.growRow], rfl, by simp [Mem.growRow], ?_⟩⟩
      simp [Mem.growRow, f2])
    rw [hlen] at hrow
    exact .value ⟨_, _, _, hrun, d2.trans hext, hst', hrow⟩
  | vec id ver o n' =>
   simp only at hob ⊢
   cases hvr : Ze4 st.rows id ver with
   | none => simp [hvr] at hob
   | some q =>
   obtain ⟨sz', cs⟩ := q
   simp only [hvr] at hob ⊢
   obtain ⟨lx, ⟨hsz, hz, hbytes, hbig, cx⟩, rfl, rfl, hncs⟩ := hob
   obtain ⟨ys, o', rfl⟩ := Zd1 lx
   simp only [ZaA] at *
   obtain ⟨z, hz'⟩ := Option.isSome_iff_exists.1 hz
   obtain ⟨i', v, hi', hv, hc, hzs, rfl⟩ := ZcZ hz'
   rw [hi] at hi'; cases hi'
   have hid := ZdD hvr
   have hidN : id < M.NR := by rw [h.st.NR]; exact (List.getElem?_eq_some_iff.1 hid).1
   obtain ⟨f1, f2, f3, f4, f5, f6, f7, cur, te, f8, f9, f10, f11, f12⟩ := h.st.row id _ hid
   cases hRs with
   | @vec _ _ _ _ p cap hid' hver hh =>
   obtain ⟨rfl, hcap, hnc⟩ := hh f1.symm
   simp only [Nat.add_zero, Nat.zero_mul] at hcap ⊢
   subst hcap
   obtain ⟨ux, x1, x2⟩ := hRx.list_open (fun y hy => (cx y hy).1)
   have x1' : ∀ i, i < ys.length → (ux i).cells.size = sz' := fun i hi => (x1 i hi).1
   have hlx : (Builtin.lenOf vx).run P w = .ok ys.length w := by
    rcases x2 with ⟨rfl | ⟨_, rfl⟩, q, _⟩ | ⟨bx, ox, cx', _, rfl, _⟩
    ·
     subst q; rfl
    ·
     subst q; rfl
    ·
     rfl
   have hl2 : (flat ux ys.length).length = ys.length * info.size := by rw [Zaq x1', hisz]
   have hnew1 : (Builtin.firstCells sz' ys.length vx).run P w = .ok (flat ux ys.length).toArray w := by
    rcases x2 with ⟨rfl | ⟨_, rfl⟩, q, _⟩ | ⟨bx, ox, cx', _, rfl, _, _, _, hcx⟩
    ·
     subst q; rfl
    ·
     subst q; simp [Builtin.firstCells, loadCells, loadCellsFrom, flat]
    ·
     exact run_firstCells_some w sz' ys.length ⟨bx, ox, none⟩ ys.length cx' (flat ux ys.length) (Zaq x1') (Zda (w := w) x1' hsz hcx)
   have hfl := Zgw (fun y hy => (cx y hy).1)
   have hfone := ZmM (fun i hi => (x1 i hi).2) (fun y hy => (cx y hy).2)
   have hcl : (cs.take (n' * sz') ++ ys.flatMap fun y => y.pub.cells).length = (n' + ys.length) * sz' := by
    rw [List.length_append, hfl, List.length_take, Nat.add_mul]; omega
   have hone : ∀ x ∈ cs.take (n' * sz') ++ ys.flatMap (fun y => y.pub.cells), x.one = true := by
    intro x hx
    rcases List.mem_append.1 hx with hx | hx
    ·
     exact f11 x (List.mem_of_mem_take hx)
    ·
     exact hfone x hx
   -- what the new cells stand for, in whatever block they lie
   have hcells : ∀ (cells : Array Value) (zs : List Value), cells.toList = cur.toList.take (n' * sz') ++ flat ux ys.length ++ zs → ∀ (i : Nat) (v : Value) (x : AV), cells[i]? = some v → (cs.take (n' * sz') ++ ys.flatMap fun y => y.pub.cells)[i]? = some x → R w0 M w v x := by
    intro cells zs hcl' i v x hv' hx'
    have hil : i < (n' + ys.length) * sz' := by rw [← hcl]; exact (List.getElem?_eq_some_iff.1 hx').1
    rw [Nat.add_mul] at hil
    have hn1 : (cur.toList.take (n' * sz')).length = n' * sz' := by simp; omega
    rw [← Array.getElem?_toList, hcl', List.append_assoc] at hv'
    by_cases q : i < n' * sz'
    ·
     rw [List.getElem?_append_left (by omega), List.getElem?_take, if_pos q, Array.getElem?_toList] at hv'
     rw [List.getElem?_append_left (by simp; omega), List.getElem?_take, if_pos q] at hx'
     obtain ⟨q1, rfl⟩ := Array.getElem?_eq_some_iff.1 hv'
     obtain ⟨q2, rfl⟩ := List.getElem?_eq_some_iff.1 hx'
     exact f12 i q1 q2
    ·
     rw [List.getElem?_append_right (by omega), hn1, List.getElem?_append_left (by rw [Zaq x1']; omega)] at hv'
     rw [List.getElem?_append_right (by simp; omega)] at hx'
     have e : (cs.take (n' * sz')).length = n' * sz' := by simp; omega
     rw [e] at hx'
     exact Zvk hsz x1 (fun y hy => (cx y hy).1) hv' hx'
   by_cases hroom : n' + ys.length ≤ M.cap id
   ·
    -- there is room
    have hfit : n' * sz' + (flat ux ys.length).length ≤ cur.size := by rw [Zaq x1', f9, ← Nat.add_mul]; exact Nat.mul_le_mul_right _ hroom
    have hrun := Zne (P := P) (w := w) t ty el hu hty (M.blk id) n' (M.cap id) cur te f8 hlx (flat ux ys.length) hnew1 (ZkW x1 (fun y hy => (cx y hy).2)) hroom hfit
    generalize hc' : (cur.toList.take (n' * sz') ++ flat ux ys.length ++ cur.toList.drop (n' * sz' + (flat ux ys.length).length)).toArray = cur' at hrun
    have hsz' : cur'.size = cur.size := by rw [← hc']; simp; omega
    have hext : Ext w0 M w (M.growRow id (M.blk id) (M.cap id) (ver + 1) 0) (w.setRow (M.blk id) cur') := by
     refine Zfq (M := M) (M.growRow id (M.blk id) (M.cap id) (ver + 1) 0) rfl (fun _ _ => rfl) rfl (fun i hi => ?_) (fun b => ?_) f8 f3 (fun j hj => by rw [f4] at hj; omega)
     ·
      by_cases c : i = id
      ·
       subst c
       simp only [Mem.growRow, if_true, f1]
       exact ⟨by omega, fun q => absurd q (by omega)⟩
      ·
       simp only [Mem.growRow, if_neg c]
       exact ⟨Nat.le_refl _, fun _ => ⟨trivial, trivial, trivial⟩⟩
     ·
      simp only [Mem.growRow]
      split
      ·
       rename_i c
       rw [c, f4]
       exact Nat.le_refl _
      ·
       exact Nat.le_refl _
    have hblt := h.st.row_lt hidN
    have q : (M.growRow id (M.blk id) (M.cap id) (ver + 1) 0).fr id = ver + 1 ∧ (M.growRow id (M.blk id) (M.cap id) (ver + 1) 0).blk id = M.blk id ∧ (M.growRow id (M.blk id) (M.cap id) (ver + 1) 0).cap id = M.cap id ∧ (M.growRow id (M.blk id) (M.cap id) (ver + 1) 0).rsz id = M.rsz id ∧ (M.growRow id (M.blk id) (M.cap id) (ver + 1) 0).top (M.blk id) = 0 := by simp [Mem.growRow]
    obtain ⟨q1, q2, q3, q4, q5⟩ := q
    have hst' := h.st.growRow' hid (x := .vec (ver + 1) sz' (cs.take (n' * sz') ++ ys.flatMap fun y => y.pub.cells)) (w' := w.setRow (M.blk id) cur') (b := M.blk id) (cap := M.cap id) (k := ver + 1) (tp := 0) (Below.setRow (Below.refl _ _) f3 _) (by simp) (by simpa using hblt)
     (fun l hl => ⟨f5 l hl, setRow_other w _ _ _ (f5 l hl)⟩) (fun i hi hne => by
      have : M.blk i ≠ M.blk id := fun q => hne (h.st.rowinj i id hi hidN q)
      exact ⟨this, setRow_other w _ _ _ this⟩) (by
      simp only [RowOk, q1, q2, q3, q4, q5]
      exact ⟨trivial, f2, f3, trivial, f5, f6, hsz, cur', te, setRow_heap w _ cur cur' te _ f8, hsz'.trans f9, by rw [hcl, hsz', f9]; exact Nat.mul_le_mul_right _ hroom, hone,
       fun i a b => (hcells cur' _ (by rw [← hc']) i _ _ (Array.getElem?_eq_getElem a) (List.getElem?_eq_getElem b)).mono hext⟩) hext (KeepsObj.setRow f8 _)
    exact .value ⟨_, _, _, hrun, hext, hst', .vec hidN (by rw [q1]; exact Nat.le_refl _) fun _ => ⟨by rw [q2]; simp, by rw [q3]; rfl, hroom⟩⟩
   ·
    -- a new block
    have hypos : 0 < ys.length := by omega
    rcases x2 with ⟨_, q, _⟩ | ⟨bx, ox, cx', _, rfl, _, _, _, hcx⟩
    ·
     subst q; simp at hypos
    have hnew := Zda (w := w) x1' hsz hcx
    have hb2 : (n' + ys.length) * info.bytes ≤ 140737488355328 := by rw [hby]; exact hbytes
    have hold : ∀ (j : Nat) (u : Value), (cur.toList.take (n' * sz'))[j]? = some u → w.cell? ((⟨M.blk id, 0, none⟩ : Addr).add j) = some u := by
     intro j u hj
     rw [List.getElem?_take] at hj
     split at hj
     ·
      rw [ZcD, Nat.zero_add, cell_of_row w _ j cur te _ f8, ← Array.getElem?_toList]; exact hj
     ·
      cases hj
    have hl1 : (cur.toList.take (n' * sz')).length = n' * info.size := by simp; rw [hisz]; omega
    have hrun := run_append_grow (P := P) w t ty el info v hu hi hv ⟨M.blk id, 0, none⟩ n' (M.cap id) (cur.toList.take (n' * sz')) hl1 hold ⟨bx, ox, none⟩ ys.length cx' (flat ux ys.length) hl2 hnew (by omega) (by omega) (growslice_fits (by omega) hb2)
    have hneed : n' + ys.length ≤ maxLen := by simp [maxLen]; omega
    have hge := grownCap_ge w (n' + ys.length) (M.cap id) el
    have hle := grownCap_le_maxLen w (n' + ys.length) (M.cap id) el hneed
    generalize hcl' : ((cur.toList.take (n' * sz')).toArray ++ (flat ux ys.length).toArray ++ Builtin.zeroCells v.cells (grownCap w (n' + ys.length) (M.cap id) el - (n' + ys.length))) = cells at hrun
    have hclist : cells.toList = cur.toList.take (n' * sz') ++ flat ux ys.length ++ (Builtin.zeroCells v.cells (grownCap w (n' + ys.length) (M.cap id) el - (n' + ys.length))).toList := by rw [← hcl']; simp
    generalize grownCap w (n' + ys.length) (M.cap id) el = gc at *
    have hsize : cells.size = gc * sz' := by
     have : cells.size = cells.toList.length := by simp
     rw [this, hclist]
     simp only [List.length_append, hl1, Zaq x1', Array.length_toList, size_zeroCells, hzs, hisz]
     rw [← Nat.add_mul, ← Nat.add_mul]
     congr 1
     omega
    obtain ⟨d1, d2⟩ := h.st.drew
    have hext : Ext w0 M w.drew (M.growRow id w.drew.heap.size gc (ver + 1) 0) (w.drew.alloc (.cells cells el)) := by
     refine Zik _ _ (.inl rfl) (fun _ _ => rfl) (Nat.le_refl _) (fun i hi => ?_) (fun b hb => ?_)
     ·
      by_cases c : i = id
      ·
       subst c
       simp only [Mem.growRow, if_true, f1]
       exact ⟨by omega, fun q => absurd q (by omega)⟩
      ·
       simp only [Mem.growRow, if_neg c]
       exact ⟨Nat.le_refl _, fun _ => ⟨trivial, trivial, trivial⟩⟩
     ·
      simp only [Mem.growRow]
      rw [if_neg (by omega)]
      exact Nat.le_refl _
    have q : (M.growRow id w.drew.heap.size gc (ver + 1) 0).fr id = ver + 1 ∧ (M.growRow id w.drew.heap.size gc (ver + 1) 0).blk id = w.drew.heap.size ∧ (M.growRow id w.drew.heap.size gc (ver + 1) 0).cap id = gc ∧ (M.growRow id w.drew.heap.size gc (ver + 1) 0).rsz id = M.rsz id ∧ (M.growRow id w.drew.heap.size gc (ver + 1) 0).top w.drew.heap.size = 0 := by simp [Mem.growRow]
    obtain ⟨q1, q2, q3, q4, q5⟩ := q
    have hbne : ∀ l, l < M.N → M.bx l ≠ w.drew.heap.size := fun l hl => by have := h.st.box_lt hl; intro q; simp at q; omega
    have hst' := d1.growRow' hid (x := .vec (ver + 1) sz' (cs.take (n' * sz') ++ ys.flatMap fun y => y.pub.cells)) (w' := w.drew.alloc (.cells cells el)) (b := w.drew.heap.size) (cap := gc) (k := ver + 1) (tp := 0) ((Below.refl _ w.drew).alloc h.st.base_le _) (by simp) (by simp)
     (fun l hl => by have := h.st.box_lt hl; exact ⟨hbne l hl, ZaK _ _ this⟩) (fun i hi hne => by have := h.st.row_lt hi; exact ⟨fun q => by simp at q; omega, ZaK _ _ this⟩) (by
      simp only [RowOk, q1, q2, q3, q4, q5]
      exact ⟨trivial, f2, h.st.base_le, trivial, hbne, hle, hsz, cells, el, heap_alloc_new w.drew _, hsize, by rw [hcl, hsize]; exact Nat.mul_le_mul_right _ hge, hone,
       fun i a b => ((hcells cells _ hclist i _ _ (Array.getElem?_eq_getElem a) (List.getElem?_eq_getElem b)).mono d2).mono hext⟩) hext (KeepsObj.alloc _ _)
    exact .value ⟨_, _, _, hrun, d2.trans hext, hst', .vec hidN (by rw [q1]; exact Nat.le_refl _) fun _ => ⟨by rw [q2]; simp, by rw [q3]; rfl, hge⟩⟩
  | _ => exact hob.elim
theorem Yields'.congr {s s' : Sem Next} {st' : St} {r : AV} (h : Yields' P w0 M st' r w s) (e : s'.run P w = s.run P w) : Yields' P w0 M st' r w s' := by
 obtain ⟨v, w', M', h1, h2⟩ := h
 exact ⟨v, w', M', by rw [e]; exact h1, h2⟩
theorem Zf4 (b : Builtin) (args : Array Operand) (ts : Array TypeId) (dst : Option Tmp) (type : TypeId) (pos : String) (after : Array Edge) (guard : Option (Nat × Bool)) (s : Sem Value)
  (hb : ∀ cs, builtin b ts type cs (args.map a.eval) = (do pure (.value (← s)) : Sem Next)) :
  (execOp a.eval ⟨dst, .call ⟨.builtin b, args, ts⟩, type, pos, after, guard⟩).run P w = ((do pure (.value (← s)) : Sem Next)).run P w := by
 simp only [execOp, resolve, invoke, Sem.run_bind, Sem.run_pure, Result.andThen_ok]
 rw [hb]
 simp
theorem Zjq {t : TypeId} (h : Zfy P t = true) : ∃ el, P.underlying t = some (.slice el) ∧ P.underlying el = some (.int .u8) ∧ tyT P el = some (1, false) := by
 unfold Zfy at h
 split at h
 ·
  rename_i el h1
  simp only [Bool.and_eq_true] at h
  obtain ⟨h2, h3⟩ := h
  refine ⟨el, h1, ?_, ?_⟩
  ·
   split at h2
   ·
    assumption
   ·
    cases h2
  ·
   split at h3
   ·
    assumption
   ·
    cases h3
 ·
  cases h
theorem Zmz (r : Int) : (Utf8.encode r).size ≤ 4 := by
 unfold Utf8.encode
 dsimp only
 (repeat' split) <;> simp [ByteArray.size]
theorem ZnI (h : Rel w0 n M e st a w) (s d : TypeId) (x : Operand) (hob : (Zbp P e true st (.convert s d x)).1) :
  Yields' P w0 M (Zbp P e true st (.convert s d x)).2.2 (Zbp P e true st (.convert s d x)).2.1 w (do pure (.value (← convert s d (a.eval x)))) := by
 unfold Zbp at hob ⊢
 cases hs : Zkt P s with
 | some k1 =>
  cases hd : Zkt P d with
  | some k =>
   simp only [hs, hd] at hob ⊢
   obtain ⟨hx, hi, hk⟩ := hob
   obtain ⟨ex, _⟩ := (ZaY h hx).int hi
   rw [ex]
   refine .here h.st (v := .int k (Zau (Zan e x))) ?_ (.flat rfl)
   simp [convert, run_underlying (ZiT hs), run_underlying (ZiT hd), Conv.intToInt, ZgN hk]
  | none =>
   simp only [hs, hd] at hob ⊢
   obtain ⟨hx, hi, hstr⟩ := hob
   obtain ⟨ex, _⟩ := (ZaY h hx).int hi
   rw [ex]
   exact .here h.st (run_convert_int_string w s d _ _ (by rw [ZiT hs]; rfl) (ZcI hstr)) (.flat (decide_eq_true (Nat.le_trans (Zmz _) (by decide))))
 | none =>
  simp only [hs] at hob ⊢
  by_cases hc : (ZeY P s && ZeY P d) = true
  ·
   simp only [hc, if_true] at hob ⊢
   simp only [Bool.and_eq_true] at hc
   obtain ⟨hx, hi⟩ := hob
   have hR := ZaY h hx
   refine .here h.st (v := a.eval x) ?_ hR
   obtain ⟨q, hq⟩ : ∃ q, Zan e x = .val (.string q) := by
    cases hv : Zan e x <;> rw [hv] at hi <;> try cases hi
    rename_i v
    cases v <;> first | exact ⟨_, rfl⟩ | cases hi
   rw [hq] at hR
   obtain ⟨ev, _⟩ := hR.val_inv
   rw [ev]
   simp [convert, run_underlying (ZcI hc.1), run_underlying (ZcI hc.2)]
  ·
   simp only [hc, if_false, Bool.false_eq_true] at hob ⊢
   by_cases hc2 : (Zfy P s && ZeY P d) = true
   ·
    simp only [hc2, if_true] at hob ⊢
    simp only [Bool.and_eq_true] at hc2
    obtain ⟨el, hu, he, hty⟩ := Zjq hc2.1
    split at hob
    ·
     rename_i id ver o n' hx0
     cases hvr : Ze4 st.rows id ver with
     | none => simp [hvr] at hob
     | some q =>
     obtain ⟨sz', cs⟩ := q
     simp only [hvr] at hob ⊢
     obtain ⟨hx, rfl, hle, hlen, hby⟩ := hob
     have hR := ZaY h hx
     rw [hx0] at hR
     obtain ⟨f1, f2, f3, f4, f5, f6, f7, cur, te, f8, f9, f10, f11, f12⟩ := h.st.row id _ (ZdD hvr)
     obtain ⟨v, hev⟩ : ∃ v, a.eval x = v := ⟨_, rfl⟩
     rw [hev] at hR ⊢
     cases hR with
     | @vec _ _ _ _ p cap hid hver hh =>
     obtain ⟨rfl, hcap, hnc⟩ := hh f1.symm
     have hl : ((cs.drop o).take n').length = n' := by simp; omega
     have hsize : (Zd6 ((cs.drop o).take n')).size = n' := by simp [Zd6, ByteArray.size]; omega
     have hfl : Zgb (.string (Zd6 ((cs.drop o).take n'))) = true := by simp [Zgb, maxLen, hsize]; exact hlen
     have := run_convert_bytes_back (P := P) w s d el ⟨M.blk id, o * M.rsz id, none⟩ cap (((cs.drop o).take n').map fun x => UInt8.ofNat (Zau x).toNat) hu he (ZcI hc2.2) (fun j hj => by
      have hj' : j < n' := by rw [List.length_map, hl] at hj; exact hj
      have e1 : ((cs.drop o).take n')[j]'(by omega) = cs[o + j]'(by omega) := by simp
      have hq := hby _ (List.getElem_mem (l := (cs.drop o).take n') (n := j) (by omega))
      rw [e1] at hq
      have hr := f12 (o + j) (by omega) (by omega)
      rw [ZcD, f2, Nat.mul_one, cell_of_row w _ (o + j) cur te _ f8, Array.getElem?_eq_getElem (show o + j < cur.size by omega)]
      simp only [List.getElem_map, e1]
      generalize cs[o + j]'(by omega) = y at hq hr
      cases y with
      | val u =>
       cases u <;> try exact hq.elim
       rename_i k n
       cases k <;> try exact hq.elim
       obtain ⟨n0, n1⟩ : 0 ≤ n ∧ n ≤ 255 := hq
       rw [hr.val_inv.1]
       simp only [Zau]
       have : (UInt8.ofNat n.toNat).toNat = n.toNat := by simp; omega
       rw [this]
       simp
       omega
      | _ => exact hq.elim)
     rw [List.length_map, hl] at this
     exact .here h.st (v := .string (Zd6 ((cs.drop o).take n'))) this (.flat hfl)
    rename_i hx0
    obtain ⟨hx, hi, hlen, hby⟩ := hob
    have hR := ZaY h hx
    obtain ⟨xs, o, hxs⟩ := Zd1 hi
    rw [hxs] at hR hlen hby ⊢
    simp only [ZaA] at hlen hby ⊢
    have hcs : ∀ y ∈ xs, y.cells.length = 1 := fun y hy => by
     have := hby y hy
     cases y <;> first | rfl | exact this.elim
    obtain ⟨us, h1, h2⟩ := hR.list_open hcs
    have hsize : (Zd6 xs).size = xs.length := by simp [Zd6, ByteArray.size]
    have hfl : Zgb (.string (Zd6 xs)) = true := by simp [Zgb, maxLen, hsize]; exact hlen
    rcases h2 with ⟨ev | ⟨ad, ev⟩, rfl, _⟩ | ⟨b, off, cap, sz', ev, _, _, _, hcell⟩
    ·
     rw [ev]
     have := run_convert_bytes_nil (P := P) w s el hu he 0 0 d (ZcI hc2.2)
     exact .here h.st (v := .string ByteArray.empty) this (.flat rfl)
    ·
     rw [ev]
     have := run_convert_bytes_back (P := P) w s d el ad 0 [] hu he (ZcI hc2.2) (fun j hj => absurd hj (by simp))
     exact .here h.st (v := .string ByteArray.empty) this (.flat rfl)
    ·
     rw [ev]
     have hb : ∀ i (hi : i < xs.length), ∃ n : Int, 0 ≤ n ∧ n ≤ 255 ∧ xs[i] = .val (.int .u8 n) ∧ us i = .int .u8 n := fun i hi => by
      have hq := hby _ (List.getElem_mem hi)
      have hr := (h1 i hi).2
      cases hv : xs[i] with
      | val u =>
       rw [hv] at hq hr
       cases u <;> try exact hq.elim
       rename_i k n
       cases k <;> try exact hq.elim
       exact ⟨n, hq.1, hq.2, rfl, hr.val_inv.1⟩
      | _ => rw [hv] at hq; exact hq.elim
     have := run_convert_bytes_back (P := P) w s d el ⟨b, off, none⟩ cap (xs.map fun x => UInt8.ofNat (Zau x).toNat) hu he (ZcI hc2.2) (fun j hj => by
      have hj' : j < xs.length := by simpa using hj
      obtain ⟨n, n0, n1, e1, e2⟩ := hb j hj'
      have hc := hcell j hj' 0 (by omega)
      rw [e2] at hc
      simp only [Nat.mul_one, Nat.add_zero] at hc
      rw [ZcD, hc]
      simp only [List.getElem_map, e1, Zau, Value.cells]
      have : (UInt8.ofNat n.toNat).toNat = n.toNat := by simp; omega
      rw [this]
      simp
      omega)
     simp only [List.length_map] at this
     exact .here h.st (v := .string (Zd6 xs)) this (.flat hfl)
   ·
    simp only [hc2, if_false, Bool.false_eq_true] at hob ⊢
    by_cases hc3 : (ZeY P s && Zfy P d) = true
    ·
     simp only [hc3, if_true] at hob ⊢
     simp only [Bool.and_eq_true] at hc3
     obtain ⟨el, hu, he, hty⟩ := Zjq hc3.2
     obtain ⟨_, hx, hi⟩ := hob
     have hR := ZaY h hx
     obtain ⟨q, hq⟩ : ∃ q, Zan e x = .val (.string q) := by
      cases hv : Zan e x <;> rw [hv] at hi <;> try cases hi
      rename_i v
      cases v <;> first | exact ⟨_, rfl⟩ | cases hi
     rw [hq] at hR ⊢
     obtain ⟨ev, hfl⟩ := hR.val_inv
     rw [ev]
     simp only [Zsj]
     have hql : q.size ≤ maxLen := by simpa [Zgb] using hfl
     have hrun := Lib.run_convert_string_bytes (P := P) w s d el q (ZcI hc3.1) hu he
     have hbel : Below w.heap.size w (Lib.bytesWorld w el q) := ⟨rfl, rfl, rfl, by rw [Lib.bytesWorld_size]; omega, fun k hk => Lib.bytesWorld_at_old w el q k hk⟩
     obtain ⟨r1, r2⟩ := h.st.later hbel w.heap.size q.size (Nat.le_refl _) (.inl (by rw [Lib.bytesWorld_size]; omega))
     have hcap := grownCap_ge w q.size 0 el
     have hcapm := grownCap_le_maxLen w q.size 0 el hql
     have hlen : (Zdv q.data.toList).length = q.size := by simp [Zdv]
     refine .value ⟨_, _, _, hrun, r2, r1, ?_⟩
     have := R.list (w0 := w0) (M := M.newTop w.heap.size q.size) (w := Lib.bytesWorld w el q) (b := w.heap.size) (off := 0) (cap := grownCap w q.size 0 el) (xs := Zdv q.data.toList) (o := .none) 1 (fun i => .int .u8 (q.data.toList.getD i 0).toNat)
      (by rw [hlen]; exact hcap) hcapm (fun i hi => ⟨rfl, fun j hj => ⟨.inr (by rw [hlen] at hi; simp [Mem.newTop]; omega), by
       rw [hlen] at hi
       have hj0 : j = 0 := by omega
       subst hj0
       simp only [Nat.mul_one, Nat.zero_add, Nat.add_zero]
       rw [Lib.bytesWorld_cell w el q i hi]
       rfl⟩⟩) (fun i hi => by
       have hi' : i < q.data.toList.length := by rw [hlen] at hi; exact hi
       simp only [Zdv, List.getElem_map]
       rw [show q.data.toList.getD i 0 = q.data.toList[i] from by simp [List.getD, List.getElem?_eq_getElem hi']]
       exact .flat rfl) trivial
     rw [hlen] at this
     exact this
    ·
     simp only [hc3] at hob
     exact hob.elim
theorem Zef {z : List AV} {sz : Nat} (hz : z.length = sz) : ∀ (m j : Nat) (x : AV), ((List.replicate m z).flatten)[j]? = some x → 0 < sz ∧ z[j % sz]? = some x
 | 0, j, x, h => by simp at h
 | m + 1, j, x, h => by
  rw [List.replicate_succ, List.flatten_cons] at h
  by_cases c : j < z.length
  ·
   rw [List.getElem?_append_left c] at h
   exact ⟨by omega, by rw [Nat.mod_eq_of_lt (by omega)]; exact h⟩
  ·
   rw [List.getElem?_append_right (by omega)] at h
   obtain ⟨h1, h2⟩ := Zef hz m _ x h
   refine ⟨h1, ?_⟩
   rw [hz] at h2
   rw [← h2]
   congr 1
   rw [← Nat.mod_eq_sub_mod (by omega)]
theorem ZlV (h : Rel w0 n M e st a w) (t : TypeId) (len cap : Operand) (hob : (Zbp P e true st (.makeSlice t len cap)).1) :
  Yields' P w0 M (Zbp P e true st (.makeSlice t len cap)).2.2 (Zbp P e true st (.makeSlice t len cap)).2.1 w (do pure (.value (← Instr.makeSlice t (a.eval len) (a.eval cap)))) := by
 unfold Zbp at hob ⊢
 cases he : elT P t with
 | none => simp [he] at hob
 | some p =>
 obtain ⟨el, sz, ag, by8⟩ := p
 cases hz : ZbW P el with
 | none => simp [he, hz] at hob
 | some z =>
 simp only [he, hz] at hob ⊢
 obtain ⟨_, hl, hc, il, ic, h0, h1, hbytes, hbig, hsz, hzl, hmk⟩ := hob
 obtain ⟨info, hu, hi, hby, hty⟩ := Zdy he
 have hisz : info.size = sz := by
  obtain ⟨i', d, h1, h2, _⟩ := ZgQ hty
  rw [hi] at h1; cases h1; exact h2
 obtain ⟨i', v, hi', hv, hcon, hzs, rfl⟩ := ZcZ hz
 rw [hi] at hi'; cases hi'
 obtain ⟨el', _⟩ := (ZaY h hl).int il
 obtain ⟨ec', _⟩ := (ZaY h hc).int ic
 generalize Zau (Zan e len) = l at *
 generalize Zau (Zan e cap) = c at *
 obtain ⟨l', rfl⟩ := Int.eq_ofNat_of_zero_le h0
 obtain ⟨c', rfl⟩ := Int.eq_ofNat_of_zero_le (Int.le_trans h0 h1)
 have hrun := run_make (P := P) w t el info v hu hi hv (ZfY (Zan e len)) (ZfY (Zan e cap)) l' c' h0 h1 (by rw [hby, Int.mul_comm]; omega) (by omega)
 rw [← el', ← ec'] at hrun
 simp only [Int.toNat_natCast, hisz] at hrun
 have hcm : c' ≤ maxLen := by unfold maxLen; omega
 have hms := size_madeCells v.cells (c' * sz)
 have hrow : RowR w0 M w v.cells (Zge v).cells := (ZiV hcon).cells
 have hone := (ZiV (w0 := w0) (M := M) (w := w) hcon).cellsOne (fun vs e => by have := Zgm hcon; rw [e] at this; cases this)
 by_cases hl0 : (l' : Int) = 0
 ·
  rw [if_pos hl0, if_pos hl0]
  have : l' = 0 := by omega
  subst this
  obtain ⟨r1, r2⟩ := h.st.addRow (cs := madeCells v.cells (c' * sz)) (ty := el) (k := 0) (sz := sz) hcm (Nat.zero_le _) hms
  refine .value ⟨_, _, _, hrun, r2, r1, ?_⟩
  have hN := h.st.NR
  exact R.list (xs := []) sz (fun _ => undef) (Nat.zero_le _) hcm (fun i hi => absurd hi (by simp)) (fun i hi => absurd hi (by simp)) ⟨by simp [Mem.addRow, hN], by simp [Mem.addRow, hN], fun _ => by simp [Mem.addRow, hN]⟩
 ·
  rw [if_neg hl0, if_neg hl0]
  by_cases hmk0 : Zfg e t = true
  case neg =>
   rw [if_neg hmk0, if_neg hmk0]
   obtain rfl : sz = 1 := by
    rcases hmk with q | q | q
    ·
     exact absurd q hl0
    ·
     exact absurd q hmk0
    ·
     exact q
   have hvs : v.cells.size = 1 := by rw [hrow.1, hzl]
   obtain ⟨u, hu0⟩ : ∃ u, v.cells[0]? = some u := ⟨_, Array.getElem?_eq_getElem (by omega)⟩
   have hz0 : (Zge v).cells[0]? = some (nth (Zge v).cells 0) := by
    rw [List.getElem?_eq_getElem (by omega)]
    simp [nth, List.getD, List.getElem?_eq_getElem (show 0 < (Zge v).cells.length by omega)]
   have hru : R w0 M w u (nth (Zge v).cells 0) := hrow.get hu0 hz0
   have hone0 : (nth (Zge v).cells 0).one = true := hone _ (List.mem_of_getElem? hz0)
   have hucs : u.cells = #[u] := (hru.cells_one hone0).1
   obtain ⟨hst', hx⟩ := h.st.newTop (madeCells v.cells (c' * 1)) el (c' * 1)
   have hlen : (List.replicate l' (nth (Zge v).cells 0)).length = l' := List.length_replicate
   have hR := R.row (us := fun _ => u) (xs := List.replicate l' (nth (Zge v).cells 0)) (cs := madeCells v.cells (c' * 1)) (ty := el) (sz := 1) (k := c' * 1) (cap := c') (o := .none)
    (fun i hi => ⟨by rw [hucs]; rfl, by rw [List.getElem_replicate]; exact hru⟩)
    (fun i hi j hj => by
     have hi' : i < l' := by rw [hlen] at hi; exact hi
     have : i * 1 + j < c' * 1 := by omega
     have h3 : (madeCells v.cells (c' * 1))[i * 1 + j]? = some v.cells[(i * 1 + j) % v.cells.size]! := by
      simp only [madeCells, Array.getElem?_map, Array.getElem?_range, if_pos this, Option.map_some]
     obtain rfl : j = 0 := by omega
     rw [h3, hvs, Nat.mod_one, hucs, getElem!_pos v.cells 0 (by omega)]
     rw [Array.getElem?_eq_getElem (by omega)] at hu0
     simpa using hu0)
    (by rw [hlen]; omega) hcm (by rw [hlen]; omega) (M.newTop w.heap.size (c' * 1)) (by simp [Mem.newTop]) hx trivial
   rw [hlen] at hR
   exact .value ⟨_, _, _, hrun, hx, hst', hR⟩
  rw [if_pos hmk0, if_pos hmk0]
  obtain ⟨r1, r2⟩ := h.st.addVec (cs := madeCells v.cells (c' * sz)) (ty := el) (cap := c') (sz := sz) (xs := (List.replicate l' (Zge v).cells).flatten) hcm hsz hms
   (by rw [hms]; simp only [List.length_flatten, List.map_replicate, List.sum_replicate_nat, hzl]; exact Nat.mul_le_mul_right _ (by omega))
   (fun x hx => by
    obtain ⟨q, hq, hx⟩ := List.mem_flatten.1 hx
    rw [List.eq_of_mem_replicate hq] at hx
    exact hone x hx)
   (fun i u x hu' hx => by
    obtain ⟨_, h2⟩ := Zef hzl l' i x hx
    have h3 : u = v.cells[i % v.cells.size]! := by
     obtain ⟨q1, q2⟩ := Array.getElem?_eq_some_iff.1 hu'
     rw [← q2]; simp [madeCells]
    have hvs : v.cells.size = sz := by rw [hrow.1, hzl]
    have h4 : v.cells[i % sz]? = some u := by
     have hlt : i % sz < v.cells.size := by rw [hvs]; exact Nat.mod_lt _ hsz
     rw [h3, hvs, getElem!_pos v.cells (i % sz) hlt, Array.getElem?_eq_getElem hlt]
    exact hrow.get h4 h2)
  refine .value ⟨_, _, _, hrun, r2, r1, ?_⟩
  have hN := h.st.NR
  exact .vec (by simp [Mem.addRow, hN]) (Nat.zero_le _) fun _ => ⟨by simp [Mem.addRow, hN], by simp [Mem.addRow, hN], by omega⟩
theorem Zms (h : Rel w0 n M e st a w) (t : TypeId) (m : Nat) (ps : Array (Nat × Operand)) (hmk : Zfg e t = true) (hob : (Zbp P e true st (.buildSlice t m ps)).1) :
  Yields' P w0 M (Zbp P e true st (.buildSlice t m ps)).2.2 (Zbp P e true st (.buildSlice t m ps)).2.1 w (do pure (.value (← Instr.buildSlice t m (ps.map fun (i, x) => (i, a.eval x))))) := by
 unfold Zbp at hob ⊢
 cases he : elT P t with
 | none => simp [he] at hob
 | some p =>
  obtain ⟨el, sz, ag, by8⟩ := p
  simp only [he, hmk] at hob ⊢
  obtain ⟨_, hps, hr, hbig, hpos, hz, hcs, hnt⟩ := hob
  obtain ⟨i, hu, hi, _, hty⟩ := Zdy he
  obtain ⟨z, hz'⟩ := Option.isSome_iff_exists.1 hz
  obtain ⟨i', v, hi', hv, hc, hs, rfl⟩ := ZcZ hz'
  have hl : ps.toList.length = m := by simpa using congrArg List.length hr
  have hcell : ∀ p ∈ ps.toList, (a.eval p.2).cells.size = sz := fun p hp => by
   rw [(ZaY h (hps p hp)).cells.1]
   exact hcs _ (List.mem_map.2 ⟨p, hp, rfl⟩)
  obtain ⟨zc, hzc⟩ : ∃ zc : Array Value, if m * sz = 0 then zc = #[] else zc = v.cells := by
   by_cases h0 : m * sz = 0
   ·
    exact ⟨#[], by rw [if_pos h0]⟩
   ·
    exact ⟨v.cells, by rw [if_neg h0]⟩
  obtain ⟨cs', a1, a2, a3, a4⟩ := Zky sz (ps.toList.map fun p => a.eval p.2) 0 ((Array.range (m * sz)).map (zc[· % zc.size]!)) (fun u hu => by obtain ⟨p, hp, rfl⟩ := List.mem_map.1 hu; exact hcell p hp) (by simp [hl])
  have hm : m ≤ maxLen := by
   have : m * 1 ≤ m * sz := Nat.mul_le_mul_left _ hpos
   simp [maxLen]; omega
  let us : Nat → Value := fun i => (ps.toList.map fun p => a.eval p.2).getD i undef
  have hus : ∀ i (hi : i < (ps.toList.map fun p => Zan e p.2).length), (us i).cells.size = sz ∧ R w0 M w (us i) (ps.toList.map fun p => Zan e p.2)[i] := fun i hi => by
   have hi' : i < ps.toList.length := by simpa using hi
   have hi2 : i < ps.size := by simpa using hi'
   have e1 : us i = a.eval (ps.toList[i]).2 := by simp [us, List.getD, Array.getElem?_eq_getElem hi2]
   rw [e1]
   refine ⟨hcell _ (List.getElem_mem _), ?_⟩
   simp only [List.getElem_map]
   exact ZaY h (hps _ (List.getElem_mem _))
  have hlv : (ps.toList.map fun p => Zan e p.2).length = m := by simp [← hl]
  have hfl := Zgw (ys := ps.toList.map fun p => Zan e p.2) (sz := sz) hcs
  rw [hlv] at hfl
  have hsz' : cs'.size = m * sz := by rw [a2]; simp
  have hflat : ∀ j, j < m * sz → (flat us m)[j]? = cs'[j]? := fun j hj => by
   have hk : j / sz < m := (Nat.div_lt_iff_lt_mul hpos).2 hj
   have hr' := Nat.mod_lt j hpos
   have ej : j / sz * sz + j % sz = j := by rw [Nat.mul_comm]; exact Nat.div_add_mod j sz
   have f := Zfb (us := us) (m := m) (sz := sz) (fun i hi => (hus i (by rw [hlv]; exact hi)).1) (j / sz) hk (j % sz) hr'
   rw [ej] at f
   have hk' : j / sz < ps.toList.length := by omega
   have hk2 : j / sz < ps.size := by simpa using hk'
   have f2 := a4 (j / sz) (us (j / sz)) (by simp [us, List.getD, Array.getElem?_eq_getElem hk2]) (j % sz) hr'
   rw [Nat.zero_add, ej] at f2
   rw [f, f2]
  obtain ⟨hst', hx⟩ := h.st.addVec (cs := cs') (ty := el) (cap := m) (sz := sz) (xs := (ps.toList.map fun p => Zan e p.2).flatMap fun y => y.pub.cells) hm hpos hsz' (by rw [hfl, hsz']; exact Nat.le_refl _) (ZmM (fun i hi => (hus i hi).2) hnt)
   (fun i v x hv' hx' => by
    have hi : i < m * sz := by rw [← hsz']; exact (Array.getElem?_eq_some_iff.1 hv').1
    rw [← hflat i hi] at hv'
    rw [← hlv] at hv'
    exact Zvk hpos hus hcs hv' hx')
  have hN := h.st.NR
  refine .value ⟨.slice (some ⟨w.heap.size, 0, none⟩) m m, _, _, ?_, hx, hst', .vec (by simp [Mem.addRow, hN]) (Nat.zero_le _) fun _ => ⟨by simp [Mem.addRow, hN], by simp [Mem.addRow, hN], Nat.le_refl _⟩⟩
  have e0 : ¬ (m * sz > 2 ^ 24) := by omega
  have efl : (ps.map fun (i, x) => (i, a.eval x)).toList = ((ps.toList.map fun p => a.eval p.2).zipIdx 0).map fun x => (x.2, x.1) := by
   rw [Array.toList_map]
   exact Zmb hr a.eval
  by_cases h0 : m * sz = 0
  ·
   rw [if_pos h0] at hzc
   subst hzc
   simp only [Instr.buildSlice, Sem.run_bind, run_underlying hu, Result.andThen_ok, ZaT hty, if_neg e0, if_pos h0, Sem.run_pure, efl, a1, newRow, run_newObj]
   rfl
  ·
   rw [if_neg h0] at hzc
   subst hzc
   simp only [Instr.buildSlice, Sem.run_bind, run_underlying hu, Result.andThen_ok, ZaT hty, if_neg e0, if_neg h0, Sem.run_pure, zeroValue, typeInfo, run_program, hi', hv, efl, a1, newRow, run_newObj]
   rfl
theorem ZpJ (h : Rel w0 n M e st a w) (o : Oper) (hob : (Zbp P e true st o.op).1) :
  Yields' P w0 M (Zbp P e true st o.op).2.2 (Zbp P e true st o.op).2.1 w (execOp a.eval o) := by
 obtain ⟨dst, op, type, pos, after, guard⟩ := o
 cases op with
 | move x => exact ZfU h.st rfl (ZaY h hob)
 | assign x => exact ZfU h.st rfl (ZaY h hob)
 | pick c x y => exact Zst h c x y hob
 | alloc t => exact Zqq h t hob
 | box t x => exact ZuR h t x hob
 | build t ps => exact ZpN h t ps hob
 | buildSlice t m ps =>
  cases hmk : Zfg e t with
  | false => exact ZkG h t m ps hmk hob
  | true => exact Zms h t m ps hmk hob
 | load t x =>
  have := ZrV h t x hob
  have e : (Zbp P e true st (.load t x)).2.2 = st := by simp only [Zbp]; split <;> rfl
  simp only [e]
  exact this
 | store t x v => exact Zpv h t x v hob
 | nilCheck x => exact Zmu h ⟨dst, .nilCheck x, type, pos, after, guard⟩ x rfl hob
 | binOp op t x y u => exact Zpy h op t x y u hob
 | unOp op t x => exact ZrQ h op t x hob
 | convert s d x => exact ZnI h s d x hob
 | makeFunc f fi cap =>
  cases f with
  | func f => exact Zmy h f fi cap hob
  | _ => exact hob.elim
 | slice t x lo hi mx => exact Zp2 h t x lo hi mx hob
 | makeSlice t len cap => exact ZlV h t len cap hob
 | fieldAddr t x f => exact Zmc h t x f hob
 | field t x f => exact Zqo h t x f hob
 | indexAddr t x i => exact ZlI h t x i hob
 | index t x i => exact Zqh h t x i hob
 | extract x i => exact ZnZ h x i hob
 | call c =>
  obtain ⟨callee, args, ts⟩ := c
  cases callee with
  | builtin b =>
   cases b with
   | len =>
    simp only [Zbp] at hob ⊢
    split at hob
    ·
     rename_i x t hx ht
     obtain ⟨h1, h2⟩ := hob
     have ea : args = #[x] := Array.toList_inj.1 (by simpa using hx)
     have et : ts = #[t] := Array.toList_inj.1 (by simpa using ht)
     subst ea; subst et
     exact (ZtZ h x t type h1 h2).congr (Zf4 .len #[x] #[t] dst type pos after guard _ (fun _ => by simp [builtin]))
    ·
     exact hob.elim
   | append =>
    simp only [Zbp] at hob ⊢
    split at hob
    ·
     rename_i s x t t' hx ht
     obtain ⟨_, h1, h2, rfl, h3⟩ := hob
     have ea : args = #[s, x] := Array.toList_inj.1 (by simpa using hx)
     have et : ts = #[t, t] := Array.toList_inj.1 (by simpa using ht)
     subst ea; subst et
     exact (Zla h s x t type h1 h2 h3).congr (Zf4 .append #[s, x] #[t, t] dst type pos after guard _ (fun _ => by simp [builtin]))
    ·
     exact hob.elim
   | min =>
    simp only [Zbp] at hob ⊢
    split at hob
    ·
     rename_i x y hx
     obtain ⟨h1, h2, h3, h4, _⟩ := hob
     have ea : args = #[x, y] := Array.toList_inj.1 (by simpa using hx)
     subst ea
     exact (ZtN h x y ts type h1 h2 h3 h4).congr (Zf4 .min #[x, y] ts dst type pos after guard _ (fun _ => by simp [builtin]))
    ·
     exact hob.elim
   | max =>
    simp only [Zbp] at hob ⊢
    split at hob
    ·
     rename_i x y hx
     obtain ⟨h1, h2, h3, h4⟩ := hob
     have ea : args = #[x, y] := Array.toList_inj.1 (by simpa using hx)
     subst ea
     exact (ZuE h x y ts type h1 h2 h3 h4).congr (Zf4 .max #[x, y] ts dst type pos after guard _ (fun _ => by simp [builtin]))
    ·
     exact hob.elim
   | _ => exact hob.elim
  | _ => exact hob.elim
 | _ => exact hob.elim
end
def FW (ro : Option Nat) : Fence := { Fence.wide with round := ro }
theorem Znk (ro : Option Nat) (f : FuncId) : (FW ro).fn f := trivial
theorem ZkZ (ro : Option Nat) : (FW ro).depth.isSome = true → ∀ n, 1 ≤ n := fun h => by cases h
theorem Zkb {ro : Option Nat} {n : Nat} {P : Program} {f : FuncId} {args : Array Value} {w : World} {Q : Ending → World → Prop} (h : Calls P f args w Q) : CallsIn (FW ro) n P f args w Q := by
 cases ro with
 | none => exact callsIn_wide.2 h
 | some l => exact CallsIn.inRound (F := Fence.wide) l (callsIn_wide.2 h)
theorem Zi0 {n : Nat} {P : Program} {f : FuncId} {args : Array Value} {w : World} {Q : Ending → World → Prop} (h : CallsIn (FW none) n P f args w Q) : Calls P f args w Q := callsIn_wide.1 h
def ZgD (P : Program) (f : FuncId) : Prop := ∀ args w, (callFunc f args).run P w = .ok (.enter f args) w
def Comes' (w0 : World) (M : Mem) (w : World) (Post : AV → St → Prop) (en : Ending) (w' : World) : Prop :=
 ∃ v M' r st', en = .returned v ∧ Post r st' ∧ Ext w0 M w M' w' ∧ RelSt w0 M' st' w' ∧ R w0 M' w' v r
def ACalls (P : Program) (w0 : World) (f : FuncId) (args : List AV) (st : St) (Post : AV → St → Prop) : Prop :=
 ZgD P f ∧ ∀ (M : Mem) (w : World) (vals : Array Value), RelSt w0 M st w → RowR w0 M w vals args → Calls P f vals w (Comes' w0 M w Post)
theorem Comes'.mono {w0 : World} {M : Mem} {w : World} {Post Post' : AV → St → Prop} (hp : ∀ r s, Post r s → Post' r s) {en : Ending} {w' : World} (h : Comes' w0 M w Post en w') : Comes' w0 M w Post' en w' :=
 let ⟨v, M', r, st', a1, a2, a3, a4, a5⟩ := h; ⟨v, M', r, st', a1, hp _ _ a2, a3, a4, a5⟩
theorem ACalls.mono {P : Program} {w0 : World} {f : FuncId} {args : List AV} {st : St} {Post Post' : AV → St → Prop} (h : ACalls P w0 f args st Post) (hp : ∀ r s, Post r s → Post' r s) : ACalls P w0 f args st Post' :=
 ⟨h.1, fun M w vals h1 h2 => (h.2 M w vals h1 h2).mono fun _ _ h => h.mono hp⟩
def ZlJ (P : Program) (w0 : World) (k : Nat) (args : List AV) (st : St) (Post : AV → St → Prop) : Prop :=
 ∀ (M : Mem) (w : World) (vals : Array Value), RelSt w0 M st w → RowR w0 M w vals args →
  ∃ fn tmps asg body, (Instr.yield (M.lb k) vals).run P w = .ok (.round (M.lb k) fn tmps asg body) w ∧ ∀ n, RoundIn Fence.wide n P (M.lb k) fn tmps asg body w (Comes' w0 M w Post)
def ZiD (P : Program) (w0 : World) (fv : AV) (args : List AV) (st : St) (Post : AV → St → Prop) : Prop :=
 match fv with
 | .clo f cs => ACalls P w0 f (args ++ cs) st Post
 | .yld k => ZlJ P w0 k args st Post
 | _ => False
def ZjL (e : Env) (dst : Option Nat) (c : Bool) (v : AV) : Env :=
 match dst with
 | some d => (d, c, v) :: e
 | none => e
def Zhw (n : Nat) : Option Nat → Prop
 | some d => d < n
 | none => True
def ZbV (all : List Oper) (e : Env) : Option (Nat × Bool) → Bool
 | none => true
 | some (j, want) => match (all[j]?).bind (·.dst) with
  | some d => match ZdS e d with
   | some (cj, .val (.bool b)) => cj && (b == want)
   | _ => false
  | none => false
def Zgz (all : List Oper) (e : Env) : Option (Nat × Bool) → Prop
 | none => True
 | some (j, _) => match (all[j]?).bind (·.dst) with
  | some d => match ZdS e d with
   | some (_, v) => isB v = true
   | none => False
  | none => False
def Zf9 : List Operand → List Nat
 | [] => []
 | .tmp t :: r => t :: Zf9 r
 | _ :: r => Zf9 r
def Zre (all : List Oper) : Option (Nat × Bool) → List Nat
 | none => []
 | some (j, _) => ((all[j]?).bind (·.dst)).toList
def Zlm (all : List Oper) (o : Oper) : List Nat := 1000000 :: (Zf9 o.op.operands.toList ++ Zre all o.guard)
def ZdG (d : Bool) (all : List Oper) (o : Oper) (e : Env) : Env := if d then Zce (Zlm all o) e else e
def Zic (P : Program) (w0 : World) (c d : Bool) (fv : AV) (args : List AV) (st : St) (k : AV → St → Prop) : Prop :=
 (∃ v, (c = true → ZiD P w0 fv args st fun r s => r = v ∧ s = st) ∧ k v st) ∨
 (d = false ∧ ∃ Post, (c = true → ZiD P w0 fv args st Post) ∧ ∀ v st', (c = true → Post v st') → (c = false → st' = st) → k v st')
theorem Zhq {P : Program} {w0 : World} {c d : Bool} {f : FuncId} {cs args : List AV} {st : St} {k : AV → St → Prop} (v : AV)
  (h : ACalls P w0 f (args ++ cs) st fun r s => r = v ∧ s = st) (hk : k v st) : Zic P w0 c d (.clo f cs) args st k := .inl ⟨v, fun _ => h, hk⟩
theorem Zj2 {P : Program} {w0 : World} {f : FuncId} {cs args : List AV} {st : St} {k : AV → St → Prop} (Post : AV → St → Prop)
  (h : ACalls P w0 f (args ++ cs) st Post) (hk : ∀ v s, Post v s → k v s) : Zic P w0 true false (.clo f cs) args st k := .inr ⟨rfl, Post, fun _ => h, fun v s h1 _ => hk v s (h1 rfl)⟩
theorem Zmq {P : Program} {w0 : World} {c : Bool} {i : Nat} {args : List AV} {st : St} {k : AV → St → Prop} (Post : AV → St → Prop)
  (h : c = true → ZlJ P w0 i args st Post) (hk : ∀ v s, (c = true → Post v s) → (c = false → s = st) → k v s) : Zic P w0 c false (.yld i) args st k := .inr ⟨rfl, Post, h, hk⟩
def argP (e : Env) (x : AV) : AV := if Zfg e 0 = true then x else x.pub
theorem R.argP {w0 : World} {M : Mem} {w : World} {v : Value} {x : AV} (e : Env) (h : R w0 M w v x) : R w0 M w v (Go.Ev.argP e x) := by
 unfold Go.Ev.argP
 split
 ·
  exact h
 ·
  exact h.pub
def evS (P : Program) (w0 : World) (n : Nat) (d : Bool) (all : List Oper) (R : List Oper → Env → St → Prop) (K : Env → St → Prop) : List Oper → Env → St → Prop
 | [], e, st => K e st
 | o :: os, e, st =>
  Zgz all (ZdG d all o e) o.guard ∧ Zhw n o.dst ∧
  match o.op with
  | .call ⟨.value f, args, _⟩ =>
   (ZbV all (ZdG d all o e) o.guard = true → ZaE (ZdG d all o e) true f ∧ ∀ x ∈ args.toList, ZaE (ZdG d all o e) true x) ∧
   Zic P w0 (ZbV all (ZdG d all o e) o.guard) d (Zan (ZdG d all o e) f) (args.toList.map fun x => argP (ZdG d all o e) (Zan (ZdG d all o e) x)) st
    fun v st' => R os (ZjL e o.dst (ZbV all (ZdG d all o e) o.guard) v) st'
  | op => match Zbp P (ZdG d all o e) (ZbV all (ZdG d all o e) o.guard) st op with
   | (ob, v, st') => (ZbV all (ZdG d all o e) o.guard = true → ob) ∧ ((ZbV all (ZdG d all o e) o.guard = false ∨ d = true) → st' = st) ∧ evS P w0 n d all R K os (ZjL e o.dst (ZbV all (ZdG d all o e) o.guard) v) st'
def evK (P : Program) (w0 : World) (n : Nat) (d : Bool) (all : List Oper) (K : Env → St → Prop) : Nat → List Oper → Env → St → Prop
 | 0, _, _, _ => False
 | c + 1, os, e, st => evS P w0 n d all (evK P w0 n d all K c) K os e st
theorem Zaa {P : Program} {w0 : World} {n : Nat} {d : Bool} {all : List Oper} {K : Env → St → Prop} {c : Nat} {os : List Oper} {e : Env} {st : St} : evK P w0 n d all K (c + 1) os e st = evS P w0 n d all (evK P w0 n d all K c) K os e st := rfl
def ZgG : Op → Bool
 | .call ⟨.value _, _, _⟩ => true
 | _ => false
theorem Zlz {P : Program} {w0 : World} {n : Nat} {d : Bool} {all : List Oper} {R : List Oper → Env → St → Prop} {K : Env → St → Prop} {o : Oper} {os : List Oper} {e : Env} {st : St} (hc : ¬ ZgG o.op = true) :
  evS P w0 n d all R K (o :: os) e st = (Zgz all (ZdG d all o e) o.guard ∧ Zhw n o.dst ∧ match Zbp P (ZdG d all o e) (ZbV all (ZdG d all o e) o.guard) st o.op with
   | (ob, v, st') => (ZbV all (ZdG d all o e) o.guard = true → ob) ∧ ((ZbV all (ZdG d all o e) o.guard = false ∨ d = true) → st' = st) ∧ evS P w0 n d all R K os (ZjL e o.dst (ZbV all (ZdG d all o e) o.guard) v) st') := by
 obtain ⟨dst, op, type, pos, after, guard⟩ := o
 cases op with
 | call cc =>
  obtain ⟨callee, args, ts⟩ := cc
  cases callee with
  | value f => exact absurd rfl hc
  | _ => rfl
 | _ => rfl
section
variable {P : Program} {w0 : World} {n : Nat} {M : Mem} {e : Env} {st : St} {a : Act} {w : World}
theorem Zjg (h : Rel w0 n M e st a w) (ro : Option Nat) (m : Nat) (o : Oper) (hob : (Zbp P e true st o.op).1) (Q : Exit → Act → World → Prop) (K : Act → World → Prop)
  (hK : ∀ v w' M', Ext w0 M w M' w' → RelSt w0 M' (Zbp P e true st o.op).2.2 w' → R w0 M' w' v (Zbp P e true st o.op).2.1 → K (a.put o.dst v) w') : o.wpIn (FW ro) m P a w K Q := by
 have hd : ∀ c, o.op ≠ .defer c := by
  intro c hh
  rw [hh] at hob
  exact hob
 obtain ⟨v, w', M', hr, h1, h2, h3⟩ := ZpJ (P := P) h o hob
 refine ⟨fun f _ => Znk ro f, ?_⟩
 have hs : Oper.semAt (FW ro).round a.eval o = execOp a.eval o := by
  cases ro with
  | none => rfl
  | some l => exact Oper.semAt_some l a.eval o hd
 rw [hs]
 rcases hr with hr | ⟨hr, rfl⟩
 ·
  rw [hr]; exact hK v w' M' h1 h2 h3
 ·
  rw [hr]; exact hK _ w' M' h1 h2 h3
theorem ZmA {v : Value} {f : FuncId} {xs : List AV} (h : R w0 M w v (.clo f xs)) : ∃ cs, v = .func (.func f) #[] cs ∧ RowR w0 M w cs xs := by
 cases h with
 | clo hl h => exact ⟨_, rfl, hl, h⟩
theorem ZrZ {v : Value} {k : Nat} (h : R w0 M w v (.yld k)) : v = .func (.yield (M.lb k)) #[] #[] := by
 cases h with
 | yld hk => rfl
theorem ZsD (h : Rel w0 n M e st a w) {args : Array Operand} (hargs : ∀ x ∈ args.toList, ZaE e true x) : RowR w0 M w (args.map a.eval) (args.toList.map fun x => argP e (Zan e x)) := by
 refine .mk (by simp) (fun i u y hu hy => ?_)
 by_cases c : i < args.size
 ·
  simp only [Array.getElem?_map, Array.getElem?_eq_getElem c, Option.map_some, Option.some.injEq] at hu
  simp only [List.getElem?_map, Array.getElem?_toList, Array.getElem?_eq_getElem c, Option.map_some, Option.some.injEq] at hy
  subst hu; subst hy
  exact (ZaY h (hargs _ (by simp))).argP e
 ·
  simp [Array.getElem?_eq_none (Nat.le_of_not_lt c)] at hu
theorem RowR.append {cs ds : Array Value} {xs ys : List AV} (h : RowR w0 M w cs xs) (k : RowR w0 M w ds ys) : RowR w0 M w (cs ++ ds) (xs ++ ys) := by
 refine .mk (by simp [h.1, k.1]) (fun i u y hu hy => ?_)
 by_cases c : i < cs.size
 ·
  rw [Array.getElem?_append_left c] at hu
  rw [List.getElem?_append_left (h.1 ▸ c)] at hy
  exact h.get hu hy
 ·
  rw [Array.getElem?_append_right (by omega)] at hu
  rw [List.getElem?_append_right (by have := h.1; omega)] at hy
  rw [h.1] at hu
  exact k.get hu hy
theorem Zft (h : Rel w0 n M e st a w) (ro : Option Nat) (m : Nat) {dst : Option Tmp} {f : Operand} {args : Array Operand} {ts : Array TypeId} {type : TypeId} {pos : String} {after : Array Edge} {guard : Option (Nat × Bool)}
  (hf : ZaE e true f) (hargs : ∀ x ∈ args.toList, ZaE e true x) {Post : AV → St → Prop} (hv : ZiD P w0 (Zan e f) (args.toList.map fun x => argP e (Zan e x)) st Post) (Q : Exit → Act → World → Prop) (K : Act → World → Prop)
  (hK : ∀ r s, Post r s → ∀ v w' M', Ext w0 M w M' w' → RelSt w0 M' s w' → R w0 M' w' v r → K (a.put dst v) w') :
  (⟨dst, .call ⟨.value f, args, ts⟩, type, pos, after, guard⟩ : Oper).wpIn (FW ro) m P a w K Q := by
 have hrow := ZsD h hargs
 have hR := ZaY h hf
 refine ⟨fun f _ => Znk ro f, ?_⟩
 have hs : Oper.semAt (FW ro).round a.eval ⟨dst, .call ⟨.value f, args, ts⟩, type, pos, after, guard⟩ = execOp a.eval ⟨dst, .call ⟨.value f, args, ts⟩, type, pos, after, guard⟩ := by
  cases ro with
  | none => rfl
  | some l => exact Oper.semAt_some l a.eval _ (fun c hh => by cases hh)
 rw [hs]
 cases hx : Zan e f with
 | clo g xs =>
  rw [hx] at hR hv
  obtain ⟨cs, ef, hcs⟩ := ZmA hR
  have hrun : (execOp a.eval ⟨dst, .call ⟨.value f, args, ts⟩, type, pos, after, guard⟩).run P w = .ok (.enter g (args.map a.eval ++ cs)) w := by
   simp [execOp, resolve, ef, Deferred.ofValue, invoke, hv.1 (args.map a.eval ++ cs) w]
  rw [hrun]
  refine ⟨fun q => ZkZ ro q m, Zkb ((hv.2 M w _ h.st (hrow.append hcs)).mono ?_)⟩
  rintro en w' ⟨v', M', r, s, rfl, hp, h1, h2, h3⟩
  exact hK r s hp v' w' M' h1 h2 h3
 | yld k =>
  rw [hx] at hR hv
  have ef := ZrZ hR
  obtain ⟨fn, tmps, asg, body, hy, hround⟩ := hv M w _ h.st hrow
  have hrun : (execOp a.eval ⟨dst, .call ⟨.value f, args, ts⟩, type, pos, after, guard⟩).run P w = .ok (.round (M.lb k) fn tmps asg body) w := by
   simp [execOp, resolve, ef, Deferred.ofValue, invoke, hy]
  rw [hrun]
  refine ⟨fun q => ZkZ ro q m, ?_⟩
  have := hround (m - 1)
  refine RoundIn.mono (F := FW ro) (by cases ro <;> exact this) ?_
  rintro en w' ⟨v', M', r, s, rfl, hp, h1, h2, h3⟩
  exact hK r s hp v' w' M' h1 h2 h3
 | _ => rw [hx] at hv; exact hv.elim
theorem Zf2 (a : Act) (dst : Option Nat) (v : Value) (s : Nat) (hd : Zhw a.tmps.size dst) : (a.put dst v).tmps.getD s undef = if dst = some s then v else a.tmps.getD s undef := by
 cases dst with
 | none => simp [Act.put]
 | some d =>
  simp only [Zhw] at hd
  simp only [Act.put, Option.some.injEq]
  by_cases c : d = s
  ·
   subst c
   simp [hd]
  ·
   rw [if_neg c]
   simp [Array.getElem?_setIfInBounds_ne c]
theorem ZiP (a : Act) (dst : Option Nat) (v : Value) : (a.put dst v).tmps.size = a.tmps.size := by cases dst <;> simp [Act.put]
theorem Zfv (a : Act) (dst : Option Nat) (v : Value) : (a.put dst v).defers = a.defers := by cases dst <;> rfl
theorem Rel.put (h : Rel w0 n M e st a w) {M' : Mem} {w' : World} {st' : St} (hx : Ext w0 M w M' w') (hst : RelSt w0 M' st' w') {dst : Option Nat} (hd : Zhw n dst) {c : Bool} {v : Value} {r : AV} (hv : entryOk w0 M' w' v (c, r)) :
  Rel w0 n M' (ZjL e dst c r) st' (a.put dst v) w' := by
 refine ⟨hst, by rw [ZiP]; exact h.size, fun s x hs => ?_⟩
 rw [Zf2 a dst v s (by rw [h.size]; exact hd)]
 cases dst with
 | none => exact (h.env s x hs).mono hx
 | some d =>
  simp only [ZjL, ZdS] at hs
  simp only [Option.some.injEq]
  by_cases q : d = s
  ·
   rw [if_pos q] at hs ⊢
   cases hs
   exact hv
  ·
   rw [if_neg q] at hs ⊢
   exact (h.env s x hs).mono hx
theorem Zl2 {ops : Array Oper} {ts : Array Value} {j d : Nat} (h : (ops[j]?).bind (·.dst) = some d) : yielded ops ts j = match ts.getD d undef with | .bool b => some b | _ => none := by
 unfold yielded
 simp only [h]
 rw [Array.getD_eq_getD_getElem?]
 change (match ts[(d : Nat)]? with | some (.bool b) => some b | _ => none) = _
 cases ts[(d : Nat)]? with
 | none => rfl
 | some v => cases v <;> rfl
theorem Zhs (h : Rel w0 n M e st a w) {all : List Oper} {o : Oper} (hg : Zgz all e o.guard) : Region.wanted o (yielded all.toArray a.tmps) = ZbV all e o.guard := by
 unfold Region.wanted ZbV
 cases hgd : o.guard with
 | none => rfl
 | some p =>
  obtain ⟨j, want⟩ := p
  rw [hgd] at hg
  simp only [Zgz] at hg
  have e0 : (all.toArray[j]?).bind (·.dst) = (all[j]?).bind (·.dst) := by simp
  dsimp only
  cases hd : (all[j]?).bind (·.dst) with
  | none => simp [hd] at hg
  | some d =>
   rw [Zl2 (e0.trans hd)]
   simp only [hd] at hg ⊢
   cases hl : ZdS e d with
   | none => simp [hl] at hg
   | some x =>
    obtain ⟨cj, v⟩ := x
    simp only [hl] at hg ⊢
    have hen := h.env d _ hl
    cases v with
    | val u =>
     cases u <;> try cases hg
     rename_i b
     unfold entryOk at hen
     cases cj with
     | true =>
      rw [if_pos rfl] at hen
      obtain ⟨e1, _⟩ := hen.val_inv
      rw [e1]
      cases b <;> cases want <;> rfl
     | false =>
      rw [if_neg (by simp)] at hen
      rw [hen]
      rfl
    | _ => cases hg
def ZtU (e' e : Env) : Prop := ∀ s x, ZdS e' s = some x → ZdS e s = some x
theorem Rel.sub {e' : Env} (h : Rel w0 n M e st a w) (hs : ZtU e' e) : Rel w0 n M e' st a w := ⟨h.st, h.size, fun s x hx => h.env s x (hs s x hx)⟩
theorem ZeH : ∀ (K : List Nat) (e : Env) (s : Nat) (x : Bool × AV), ZdS (Zce K e) s = some x → ZdS e s = some x
 | [], _, _, _, h => by simp [Zce, ZdS] at h
 | k :: K, e, s, x, h => by
  simp only [Zce] at h
  cases hk : ZdS e k with
  | none =>
   simp only [hk] at h
   exact ZeH K e s x h
  | some y =>
   obtain ⟨c, v⟩ := y
   simp only [hk, ZdS] at h
   by_cases q : k = s
   ·
    rw [if_pos q] at h
    subst q
    rw [hk]; exact h
   ·
    rw [if_neg q] at h
    exact ZeH K e s x h
theorem ZaG (K : List Nat) (e : Env) : ZtU (Zce K e) e := ZeH K e
theorem ZgA : ∀ (K : List Nat) (e : Env) (s : Nat) (x : Bool × AV), ZdS (Zce K e) s = some x → s ∈ K
 | [], _, _, _, h => by simp [Zce, ZdS] at h
 | k :: K, e, s, x, h => by
  simp only [Zce] at h
  cases hk : ZdS e k with
  | none =>
   simp only [hk] at h
   exact List.mem_cons_of_mem _ (ZgA K e s x h)
  | some y =>
   obtain ⟨c, v⟩ := y
   simp only [hk, ZdS] at h
   by_cases q : k = s
   ·
    exact q ▸ List.mem_cons_self
   ·
    rw [if_neg q] at h
    exact List.mem_cons_of_mem _ (ZgA K e s x h)
theorem ZqT (d : Bool) (all : List Oper) (o : Oper) (e : Env) : ZtU (ZdG d all o e) e := by
 unfold ZdG
 split
 ·
  exact ZaG _ _
 ·
  exact fun _ _ h => h
theorem Zjf (ro : Option Nat) (m : Nat) (d : Bool) (all : List Oper) (KK : Env → St → Prop) (Q : Exit → Act → World → Prop) : ∀ (c : Nat) (os : List Oper) (e : Env) (st : St) (a : Act) (w : World) (M : Mem), Rel w0 n M e st a w →
  evK P w0 n d all KK c os e st → (∀ e' st' a' w' M', KK e' st' → Rel w0 n M' e' st' a' w' → Ext w0 M w M' w' → a'.defers = a.defers → Q .normal a' w') → wpListIn (FW ro) m P all.toArray Q os a w
 | 0, _, _, _, _, _, _, _, h, _ => h.elim
 | c + 1, os, e, st, a, w, M, hr, h, hQ => by
  have key : ∀ (os : List Oper) (e : Env) (st : St) (a : Act) (w : World) (M : Mem), Rel w0 n M e st a w → evS P w0 n d all (evK P w0 n d all KK c) KK os e st →
    (∀ e' st' a' w' M', KK e' st' → Rel w0 n M' e' st' a' w' → Ext w0 M w M' w' → a'.defers = a.defers → Q .normal a' w') → wpListIn (FW ro) m P all.toArray Q os a w := by
   intro os
   induction os with
   | nil => exact fun e st a w M hr h hQ => hQ e st a w M h hr (.refl _ _ _) rfl
   | cons o os ih =>
    intro e st a w M hr h hQ
    have hv := ZqT d all o e
    have hr1 := hr.sub hv
    by_cases hc : ZgG o.op = true
    ·
     obtain ⟨dst, op, type, pos, after, guard⟩ := o
     cases op <;> try cases hc
     rename_i cc
     obtain ⟨callee, args, ts⟩ := cc
     cases callee <;> try cases hc
     rename_i f
     simp only [evS] at h
     obtain ⟨hg, hd, h1, hk⟩ := h
     unfold wpListIn
     rw [Zhs hr1 hg]
     have go : ∀ v s, evK P w0 n d all KK c os (ZjL e dst (ZbV all (ZdG d all ⟨dst, .call ⟨.value f, args, ts⟩, type, pos, after, guard⟩ e) guard) v) s → ∀ u w' M', Ext w0 M w M' w' → RelSt w0 M' s w' →
       entryOk w0 M' w' u (ZbV all (ZdG d all ⟨dst, .call ⟨.value f, args, ts⟩, type, pos, after, guard⟩ e) guard, v) → wpListIn (FW ro) m P all.toArray Q os (a.put dst u) w' := by
      intro v s hev u w' M' hx hst hu
      exact Zjf ro m d all KK Q c os _ _ _ _ M' (hr.put hx hst hd hu) hev (fun e' st' a' w'' M'' k1 k2 k3 k4 => hQ e' st' a' w'' M'' k1 k2 (hx.trans k3) (k4.trans (Zfv a dst u)))
     cases hcc : ZbV all (ZdG d all ⟨dst, .call ⟨.value f, args, ts⟩, type, pos, after, guard⟩ e) guard with
     | true =>
      rw [hcc] at h1 hk go
      obtain ⟨b1, b2⟩ := h1 rfl
      rw [if_pos rfl]
      rcases hk with ⟨v, k1, k2⟩ | ⟨_, Post, k1, k2⟩
      ·
       refine Zft hr1 ro m b1 b2 (k1 rfl) Q _ (fun r s hp u w' M' hx hst hu => ?_)
       obtain ⟨rfl, rfl⟩ := hp
       exact go _ _ k2 u w' M' hx hst hu
      ·
       exact Zft hr1 ro m b1 b2 (k1 rfl) Q _ (fun r s hp u w' M' hx hst hu => go _ _ (k2 r s (fun _ => hp) (fun q => by cases q)) u w' M' hx hst hu)
     | false =>
      rw [hcc] at h1 hk go
      rw [if_neg (by simp)]
      refine ⟨fun g _ => Znk ro g, ?_⟩
      rcases hk with ⟨v, k1, k2⟩ | ⟨_, Post, k1, k2⟩
      ·
       exact go _ _ k2 undef w M (.refl _ _ _) hr.st rfl
      ·
       exact go .junk st (k2 .junk st (fun q => by cases q) (fun _ => rfl)) undef w M (.refl _ _ _) hr.st rfl
    ·
     rw [Zlz hc] at h
     obtain ⟨hg, hd, h1, h0, hrest⟩ := h
     unfold wpListIn
     rw [Zhs hr1 hg]
     have go : ∀ u w' M', Ext w0 M w M' w' → RelSt w0 M' (Zbp P (ZdG d all o e) (ZbV all (ZdG d all o e) o.guard) st o.op).2.2 w' →
       entryOk w0 M' w' u (ZbV all (ZdG d all o e) o.guard, (Zbp P (ZdG d all o e) (ZbV all (ZdG d all o e) o.guard) st o.op).2.1) → wpListIn (FW ro) m P all.toArray Q os (a.put o.dst u) w' := by
      intro u w' M' hx hst hu
      exact ih _ _ _ _ M' (hr.put hx hst hd hu) hrest (fun e' st' a' w'' M'' k1 k2 k3 k4 => hQ e' st' a' w'' M'' k1 k2 (hx.trans k3) (k4.trans (Zfv a o.dst u)))
     cases hcc : ZbV all (ZdG d all o e) o.guard with
     | true =>
      rw [hcc] at h1 go
      rw [if_pos rfl]
      exact Zjg hr1 ro m o (h1 rfl) Q _ (fun v w' M' hx hst hv => go v w' M' hx hst hv)
     | false =>
      rw [hcc] at h0 go
      rw [if_neg (by simp)]
      refine ⟨fun g _ => Znk ro g, go undef w M (.refl _ _ _) ?_ rfl⟩
      have q : (Zbp P (ZdG d all o e) false st o.op).2.2 = st := h0 (.inl rfl)
      rw [q]
      exact hr.st
  exact key os e st a w M hr h hQ
end
end Go.Ev
