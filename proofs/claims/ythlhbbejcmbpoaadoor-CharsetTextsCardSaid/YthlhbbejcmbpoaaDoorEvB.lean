/-
  The abstract state and the abstract reading of the model's operations: for each operation what must hold, what it yields and what it makes of the abstract heap. No program is named here.
-/
import Derived.Test.YthlhbbejcmbpoaaDoorEvA
namespace Go.Ev
open Go Go.RowKit

/-! ### what is asked of the program's tables -/
def tyT (P : Program) (t : TypeId) : Option (Nat × Bool) :=
  match P.info? t, P.underlying t with
  | some i, some d => some (i.size, match d with | .struct _ | .array _ _ => true | _ => false)
  | _, _ => none
/-- A struct's field: where it lies, its cells, whether it is an aggregate. -/
def fldT (P : Program) (t : TypeId) (f : Nat) : Option (Nat × Nat × Bool) :=
  match P.underlying t with
  | some (.struct fs) => match fs[f]? with
    | some x => (tyT P x.type).map fun (s, a) => (x.offset, s, a)
    | none => none
  | _ => none
/-- A slice's element: its type, its cells, whether it is an aggregate, its bytes. -/
def elT (P : Program) (t : TypeId) : Option (TypeId × Nat × Bool × Nat) :=
  match P.underlying t with
  | some (.slice e) => match P.info? e, tyT P e with
    | some i, some (s, a) => some (e, s, a, i.bytes)
    | _, _ => none
  | _ => none
/-- An array: its length, its element's cells, whether that is an aggregate. -/
def arrT (P : Program) (t : TypeId) : Option (Nat × Nat × Bool) :=
  match P.underlying t with
  | some (.array n e) => (tyT P e).map fun (s, a) => (n, s, a)
  | _ => none
def strT (P : Program) (t : TypeId) : Bool :=
  match P.underlying t with | some .string => true | _ => false
def bytesT (P : Program) (t : TypeId) : Bool :=
  match P.underlying t with
  | some (.slice e) => (match P.underlying e with | some (.int .u8) => true | _ => false) && (match tyT P e with | some (1, false) => true | _ => false)
  | _ => false
def intT (P : Program) (t : TypeId) : Option IntKind :=
  match P.underlying t with | some (.int k) => some k | _ => none

def ofCell : Value → AV
  | .slice none 0 0 => .list [] .full
  | v => .val v
def ofVal : Value → AV
  | .agg cs => .agg (cs.toList.map ofCell)
  | v => ofCell v
def cellOk : Value → Bool
  | .slice none 0 0 => true
  | v => flatV v
def constOk : Value → Bool
  | .agg cs => cs.toList.all cellOk
  | v => cellOk v
def zeroT (P : Program) (t : TypeId) : Option (List AV) :=
  match P.info? t with
  | some i => match i.zero with
    | some z => if constOk z && z.cells.size == i.size then some (ofVal z).cells else none
    | none => none
  | none => none

/-! ### the environment -/
abbrev Env := List (Nat × Bool × AV)
def look : Env → Nat → Option (Bool × AV)
  | [], _ => none
  | (k, c, v) :: r, s => if k = s then some (c, v) else look r s
def keepL : List Nat → Env → Env
  | [], _ => []
  | s :: K, e => match look e s with
    | some (c, v) => (s, c, v) :: keepL K e
    | none => keepL K e

def argV (e : Env) : Operand → AV
  | .tmp t => match look e t with | some (_, v) => v | none => .junk
  | .const v => ofVal v
  | .func f => .clo f []
  | .global _ => .junk
def argOk (e : Env) (c : Bool) : Operand → Prop
  | .tmp t => match look e t with | some (c', _) => (c = true → c' = true) | none => False
  | .const v => constOk v = true
  | .func _ => True
  | .global _ => False

def boolOf : AV → Bool
  | .val (.bool b) => b
  | _ => false
def isB : AV → Bool
  | .val (.bool _) => true
  | _ => false
def AV.sel (t : Bool) : AV → AV → AV
  | .val (.bool x), .val (.bool y) => .val (.bool (if t then x else y))
  | a, b => if t then a else b

def splice (l : List AV) (off : Nat) (xs : List AV) : List AV := l.take off ++ xs ++ l.drop (off + xs.length)
def nth (l : List AV) (i : Nat) : AV := l.getD i .junk

/-- Where the fields of a struct lie. -/
def placesOf (P : Program) : List Field → Option (List (Nat × Nat))
  | [] => some []
  | f :: fs => match P.info? f.type, placesOf P fs with
    | some i, some r => some ((f.offset, i.size) :: r)
    | _, _ => none
def placesT (P : Program) (t : TypeId) : Option (List (Nat × Nat)) :=
  match P.underlying t with
  | some (.struct fs) => placesOf P fs.toList
  | _ => none
/-- Where the parts of a composite literal lie. -/
def placeT (P : Program) (t : TypeId) (i : Nat) : Option (Nat × Nat) :=
  match placesT P t with
  | some l => l[i]?
  | none => match arrT P t with
    | some (_, s, _) => some (i * s, s)
    | none => none
def fillA (P : Program) (t : TypeId) : List AV → List (Nat × AV) → List AV
  | cs, [] => cs
  | cs, (i, x) :: r => match placeT P t i with
    | some (o, _) => fillA P t (splice cs o x.cells) r
    | none => cs
def fillOk (P : Program) (t : TypeId) : Nat → List (Nat × AV) → Prop
  | _, [] => True
  | n, (i, x) :: r => (match placeT P t i with
    | some (o, s) => x.cells.length = s ∧ o + s ≤ n
    | none => False) ∧ fillOk P t n r

def notTup : AV → Bool
  | .tup _ => false
  | _ => true
def isAggA : AV → Bool
  | .agg _ => true
  | _ => false

/-- Ranges of the integer kinds. -/
def inK : IntKind → Int → Prop
  | .i8, n => -128 ≤ n ∧ n ≤ 127
  | .i16, n => -32768 ≤ n ∧ n ≤ 32767
  | .i32, n => -2147483648 ≤ n ∧ n ≤ 2147483647
  | .i64, n => -9223372036854775808 ≤ n ∧ n ≤ 9223372036854775807
  | .u8, n => 0 ≤ n ∧ n ≤ 255
  | .u16, n => 0 ≤ n ∧ n ≤ 65535
  | .u32, n => 0 ≤ n ∧ n ≤ 4294967295
  | .u64, n => 0 ≤ n ∧ n ≤ 18446744073709551615

def sEq (x y : ByteArray) : Bool := x.data.toList == y.data.toList
def sLt (x y : ByteArray) : Bool := Op.bytesLess x.data.toList y.data.toList

/-- Arithmetic and comparisons, on plain values: what is asked, what comes. -/
def evBin : BinOp → Value → Value → Prop × Value
  | .add, .int k a, .int k' b => (k = k' ∧ inK k (a + b), .int k (a + b))
  | .sub, .int k a, .int k' b => (k = k' ∧ inK k (a - b), .int k (a - b))
  | .mul, .int k a, .int k' b => (k = k' ∧ inK k (a * b), .int k (a * b))
  | .quo, .int k a, .int k' b => (k = k' ∧ 0 ≤ a ∧ 0 < b ∧ inK k (a / b), .int k (a / b))
  | .rem, .int k a, .int k' b => (k = k' ∧ 0 ≤ a ∧ 0 < b, .int k (a % b))
  | .eql, .int k a, .int k' b => (k = k', .bool (decide (a = b)))
  | .neq, .int k a, .int k' b => (k = k', .bool (!decide (a = b)))
  | .lss, .int k a, .int k' b => (k = k', .bool (decide (a < b)))
  | .leq, .int k a, .int k' b => (k = k', .bool (decide (a ≤ b)))
  | .gtr, .int k a, .int k' b => (k = k', .bool (decide (b < a)))
  | .geq, .int k a, .int k' b => (k = k', .bool (decide (b ≤ a)))
  | .add, .string x, .string y => (x.size + y.size ≤ 9223372036854775807, .string (x ++ y))
  | .eql, .string x, .string y => (True, .bool (sEq x y))
  | .neq, .string x, .string y => (True, .bool (!sEq x y))
  | .lss, .string x, .string y => (True, .bool (sLt x y))
  | .leq, .string x, .string y => (True, .bool (sLt x y || sEq x y))
  | .gtr, .string x, .string y => (True, .bool (!(sLt x y || sEq x y)))
  | .geq, .string x, .string y => (True, .bool (!sLt x y))
  | _, _, _ => (False, undef)
/-- Equality of booleans (the type is asked for). -/
def evBB : BinOp → Bool → Bool → Prop × Bool
  | .eql, a, b => (True, a == b)
  | .neq, a, b => (True, a != b)
  | _, _, _ => (False, false)
def boolT (P : Program) (t : TypeId) : Bool :=
  match P.underlying t with | some .bool => true | _ => false

def evUn : UnOp → Value → Prop × Value
  | .not, .bool b => (True, .bool (!b))
  | .neg, .int k a => (inK k (0 - a), .int k (0 - a))
  | _, _ => (False, undef)

def plainOf : AV → Value
  | .val v => v
  | _ => undef
def isPlain : AV → Bool
  | .val _ => true
  | _ => false
def intOfA : AV → Int
  | .val (.int _ n) => n
  | _ => 0
def kindOfA : AV → IntKind
  | .val (.int k _) => k
  | _ => .i64
def isInt : AV → Bool
  | .val (.int _ _) => true
  | _ => false
def listOf : AV → List AV
  | .list xs _ => xs
  | _ => []
def ownOf : AV → Own
  | .list _ o => o
  | _ => .none
def isList : AV → Bool
  | .list _ _ => true
  | _ => false
def isStr : AV → Bool
  | .val (.string _) => true
  | _ => false
def strOf : AV → ByteArray
  | .val (.string s) => s
  | _ => .empty

def byteOk : AV → Prop
  | .val (.int .u8 n) => 0 ≤ n ∧ n ≤ 255
  | _ => False
def bytesOfA (xs : List AV) : ByteArray := ⟨(xs.map fun x => UInt8.ofNat (intOfA x).toNat).toArray⟩
def ofBytesA (l : List UInt8) : List AV := l.map fun b => .val (.int .u8 b.toNat)

/-- What lies at an address: the cells of which it is a part. -/
def cellsAt (st : St) : AV → List AV
  | .box l _ => st.boxes.getD l []
  | .elem x _ => x.cells
  | _ => []
def offAt : AV → Nat
  | .box _ o => o
  | .elem _ o => o
  | _ => 0
def isRef (st : St) : AV → Bool
  | .box l _ => decide (l < st.boxes.length)
  | .elem (.tup _) _ => false
  | .elem _ _ => true
  | _ => false
def refAdd (x : AV) (n : Nat) : AV :=
  match x with
  | .box l o => .box l (o + n)
  | .elem y o => .elem y (o + n)
  | x => x
def loadA (agg : Bool) (cs : List AV) (off sz : Nat) : AV := if agg then .agg ((cs.drop off).take sz) else nth cs off
def storeB (st : St) (a : AV) (xs : List AV) : St :=
  match a with
  | .box l o => { st with boxes := st.boxes.set l (splice (st.boxes.getD l []) o xs) }
  | _ => st
def isBox : AV → Bool
  | .box _ _ => true
  | _ => false

def evLen (P : Program) (t : TypeId) (x : AV) : Prop × AV :=
  match x with
  | .val (.string s) => (strT P t = true, .val (.int .i64 s.size))
  | .list xs _ => ((elT P t).isSome = true, .val (.int .i64 xs.length))
  | _ => (False, .junk)

/-- append: the row that grows, or a new one. -/
def evAppend (P : Program) (st : St) (t : TypeId) (s x : AV) : Prop × AV × St :=
  match elT P t with
  | some (el, sz, _, by8) =>
    let n := (listOf s).length + (listOf x).length
    let ob := isList s = true ∧ isList x = true ∧ 0 < sz ∧ (zeroT P el).isSome = true ∧ n * by8 ≤ 140737488355328 ∧ n ≤ 4611686018427387904 ∧ (∀ y ∈ listOf s, y.cells.length = sz) ∧ (∀ y ∈ listOf x, y.cells.length = sz ∧ notTup y = true)
    let ys := listOf s ++ (listOf x).map AV.pub
    match ownOf s with
    | .full => (ob ∧ 0 < (listOf x).length, .list ys (.row st.rows.length), { st with rows := st.rows ++ [(n, sz)] })
    | .row id => (ob ∧ st.rows[id]? = some ((listOf s).length, sz), .list ys (.row id), { st with rows := st.rows.set id (n, sz) })
    | .none => (False, .junk, st)
  | none => (False, .junk, st)

/-- A slice expression's bound. -/
def bndOf (e : Env) (d : Int) : Option Operand → Int
  | some y => intOfA (argV e y)
  | none => d
def bndOk (e : Env) (c : Bool) : Option Operand → Prop
  | some y => argOk e c y ∧ isInt (argV e y) = true
  | none => True
/-- One operation (calls of functions apart). -/
def evOp (P : Program) (e : Env) (c : Bool) (st : St) : Op → Prop × AV × St
  | .move x | .assign x => (argOk e c x, argV e x, st)
  | .pick b x y => (argOk e c b ∧ isB (argV e b) = true ∧ (c = true → boolOf (argV e b) = true → argOk e true x) ∧ (c = true → boolOf (argV e b) = false → argOk e true y), AV.sel (boolOf (argV e b)) (argV e x) (argV e y), st)
  | .alloc t => match zeroT P t with
    | some z => (c = true, .box st.boxes.length 0, { st with boxes := st.boxes ++ [z] })
    | none => (False, .junk, st)
  | .box _ x => (c = true ∧ argOk e c x ∧ notTup (argV e x) = true, .box st.boxes.length 0, { st with boxes := st.boxes ++ [(argV e x).cells] })
  | .build t ps => match zeroT P t with
    | some z => (((placesT P t).isSome = true ∨ (arrT P t).isSome = true) ∧ (∀ p ∈ ps.toList, argOk e c p.2 ∧ notTup (argV e p.2) = true) ∧ fillOk P t z.length (ps.toList.map fun p => (p.1, argV e p.2)), .agg (fillA P t z (ps.toList.map fun p => (p.1, argV e p.2))), st)
    | none => (False, .junk, st)
  | .buildSlice t n ps =>
    let vs := ps.toList.map fun p => argV e p.2
    match elT P t with
    | some (el, sz, _, _) => ((∀ p ∈ ps.toList, argOk e c p.2) ∧ ps.toList.map (·.1) = List.range n ∧ n * sz ≤ 16777216 ∧ 0 < sz ∧ (zeroT P el).isSome = true ∧ (∀ x ∈ vs, x.cells.length = sz), .list (vs.map AV.pub) .full, st)
    | none => (False, .junk, st)
  | .load t a => match tyT P t with
    | some (sz, ag) => (argOk e c a ∧ isRef st (argV e a) = true ∧ offAt (argV e a) + sz ≤ (cellsAt st (argV e a)).length ∧ (ag = true ∨ sz = 1), loadA ag (cellsAt st (argV e a)) (offAt (argV e a)) sz, st)
    | none => (False, .junk, st)
  | .store t a v => match tyT P t with
    | some (sz, _) => (c = true ∧ argOk e c a ∧ argOk e c v ∧ isBox (argV e a) = true ∧ isRef st (argV e a) = true ∧ notTup (argV e v) = true ∧ (argV e v).cells.length = sz ∧ offAt (argV e a) + sz ≤ (cellsAt st (argV e a)).length, .junk, storeB st (argV e a) (argV e v).cells)
    | none => (False, .junk, st)
  | .nilCheck x => (argOk e c x ∧ isRef st (argV e x) = true, argV e x, st)
  | .binOp op t x y _ => if isB (argV e x) && isB (argV e y) then (argOk e c x ∧ argOk e c y ∧ boolT P t = true ∧ (evBB op (boolOf (argV e x)) (boolOf (argV e y))).1, .val (.bool (evBB op (boolOf (argV e x)) (boolOf (argV e y))).2), st)
    else (argOk e c x ∧ argOk e c y ∧ isPlain (argV e x) = true ∧ isPlain (argV e y) = true ∧ (evBin op (plainOf (argV e x)) (plainOf (argV e y))).1, .val (evBin op (plainOf (argV e x)) (plainOf (argV e y))).2, st)
  | .unOp op _ x => (argOk e c x ∧ isPlain (argV e x) = true ∧ (evUn op (plainOf (argV e x))).1, .val (evUn op (plainOf (argV e x))).2, st)
  | .convert s d x => match intT P s, intT P d with
    | some _, some k => (argOk e c x ∧ isInt (argV e x) = true ∧ inK k (intOfA (argV e x)), .val (.int k (intOfA (argV e x))), st)
    | some _, none => (argOk e c x ∧ isInt (argV e x) = true ∧ strT P d = true, .val (.string (Utf8.encode (intOfA (argV e x)))), st)
    | none, _ => if strT P s && strT P d then (argOk e c x ∧ isStr (argV e x) = true, argV e x, st)
      else if bytesT P s && strT P d then (argOk e c x ∧ isList (argV e x) = true ∧ (listOf (argV e x)).length ≤ 9223372036854775807 ∧ (∀ y ∈ listOf (argV e x), byteOk y), .val (.string (bytesOfA (listOf (argV e x)))), st)
      else if strT P s && bytesT P d then (c = true ∧ argOk e c x ∧ isStr (argV e x) = true, .list (ofBytesA (strOf (argV e x)).data.toList) .none, st)
      else (False, .junk, st)
  | .makeFunc (.func f) fi cap => (fi.size = 0 ∧ (∀ x ∈ cap.toList, argOk e c x), .clo f (cap.toList.map (argV e)), st)
  | .slice t x lo hi mx => match argV e x with
    | .val (.string s) =>
      (strT P t = true ∧ argOk e c x ∧ bndOk e c lo ∧ bndOk e c hi ∧ mx.isNone = true ∧ 0 ≤ bndOf e 0 lo ∧ bndOf e 0 lo ≤ bndOf e s.size hi ∧ bndOf e s.size hi ≤ s.size, .val (.string (s.extract (bndOf e 0 lo).toNat (bndOf e s.size hi).toNat)), st)
    | .list xs _ => match elT P t with
      | some (_, sz, _, _) => (argOk e c x ∧ bndOk e c lo ∧ bndOk e c hi ∧ mx.isNone = true ∧ 0 ≤ bndOf e 0 lo ∧ bndOf e 0 lo ≤ bndOf e xs.length hi ∧ bndOf e xs.length hi ≤ xs.length ∧ (bndOf e 0 lo = 0 ∨ ∀ y ∈ xs, y.cells.length = sz), .list ((xs.take (bndOf e xs.length hi).toNat).drop (bndOf e 0 lo).toNat) .none, st)
      | none => (False, .junk, st)
    | _ => (False, .junk, st)
  | .fieldAddr t x f => match fldT P t f with
    | some (o, sz, _) => (argOk e c x ∧ isRef st (argV e x) = true ∧ 0 < sz, refAdd (argV e x) o, st)
    | none => (False, .junk, st)
  | .field t x f => match fldT P t f with
    | some (o, sz, ag) => (argOk e c x ∧ isAggA (argV e x) = true ∧ o + sz ≤ (argV e x).cells.length ∧ (ag = true ∨ sz = 1), loadA ag (argV e x).cells o sz, st)
    | none => (False, .junk, st)
  | .indexAddr t x i => match elT P t with
    | some (_, sz, _, _) => (argOk e c x ∧ argOk e c i ∧ isList (argV e x) = true ∧ isInt (argV e i) = true ∧ 0 ≤ intOfA (argV e i) ∧ intOfA (argV e i) < (listOf (argV e x)).length ∧ (nth (listOf (argV e x)) (intOfA (argV e i)).toNat).cells.length = sz, .elem (nth (listOf (argV e x)) (intOfA (argV e i)).toNat) 0, st)
    | none => match arrT P t with
      | some (n, sz, _) => (argOk e c x ∧ argOk e c i ∧ isRef st (argV e x) = true ∧ isInt (argV e i) = true ∧ 0 ≤ intOfA (argV e i) ∧ intOfA (argV e i) < n, refAdd (argV e x) ((intOfA (argV e i)).toNat * sz), st)
      | none => (False, .junk, st)
  | .index t x i => match argV e x with
    | .val (.string s) => (strT P t = true ∧ argOk e c x ∧ argOk e c i ∧ isInt (argV e i) = true ∧ 0 ≤ intOfA (argV e i) ∧ intOfA (argV e i) < s.size, .val (.int .u8 (s.get! (intOfA (argV e i)).toNat).toNat), st)
    | .agg cs => match arrT P t with
      | some (n, sz, ag) => (argOk e c x ∧ argOk e c i ∧ isInt (argV e i) = true ∧ 0 ≤ intOfA (argV e i) ∧ intOfA (argV e i) < n ∧ cs.length = n * sz ∧ (ag = true ∨ sz = 1), loadA ag cs ((intOfA (argV e i)).toNat * sz) sz, st)
      | none => (False, .junk, st)
    | _ => (False, .junk, st)
  | .extract x i => match argV e x with
    | .tup vs => (argOk e c x ∧ i < vs.length, nth vs i, st)
    | _ => (False, .junk, st)
  | .call ⟨.builtin .len, args, ts⟩ => match args.toList, ts.toList with
    | [x], [t] => (argOk e c x ∧ (evLen P t (argV e x)).1, (evLen P t (argV e x)).2, st)
    | _, _ => (False, .junk, st)
  | .call ⟨.builtin .append, args, ts⟩ => match args.toList, ts.toList with
    | [s, x], [t, t'] => (c = true ∧ argOk e c s ∧ argOk e c x ∧ t = t' ∧ (evAppend P st t (argV e s) (argV e x)).1, (evAppend P st t (argV e s) (argV e x)).2)
    | _, _ => (False, .junk, st)
  | .call ⟨.builtin .min, args, _⟩ => match args.toList with
    | [x, y] => (argOk e c x ∧ argOk e c y ∧ isInt (argV e x) = true ∧ isInt (argV e y) = true ∧ True, .val (.int (kindOfA (argV e x)) (if intOfA (argV e y) < intOfA (argV e x) then intOfA (argV e y) else intOfA (argV e x))), st)
    | _ => (False, .junk, st)
  | .call ⟨.builtin .max, args, _⟩ => match args.toList with
    | [x, y] => (argOk e c x ∧ argOk e c y ∧ isInt (argV e x) = true ∧ isInt (argV e y) = true, .val (.int (kindOfA (argV e x)) (if intOfA (argV e x) < intOfA (argV e y) then intOfA (argV e y) else intOfA (argV e x))), st)
    | _ => (False, .junk, st)
  | _ => (False, .junk, st)

/-! ### the state stands for the world -/
/-- An entry of the environment: under its condition the slot holds what it says; else nothing was yielded there. -/
def entryOk (w0 : World) (M : Mem) (w : World) (v : Value) (x : Bool × AV) : Prop := if x.1 = true then R w0 M w v x.2 else v = undef

structure LoopSt (w0 : World) (M : Mem) (w : World) (ls : List LoopA) : Prop where
  NL : M.NL = ls.length
  inj : ∀ k k', k < M.NL → k' < M.NL → M.lb k = M.lb k' → k = k'
  record : ∀ k la, ls[k]? = some la → w0.heap.size ≤ M.lb k ∧ ∃ r : Loop, w.heap[M.lb k]? = some (.loop r) ∧ r.state = la.st ∧ r.pending = la.pend ∧ r.params = la.ps ∧ r.assign = la.asg ∧ r.body = la.body ∧
    r.tmps.size = la.n ∧ ∀ s x, look la.e s = some x → entryOk w0 M w (r.tmps.getD s undef) x
theorem entryOk.mono {w0 : World} {M M' : Mem} {w w' : World} (hx : Ext w0 M w M' w') {v : Value} {x : Bool × AV} (h : entryOk w0 M w v x) : entryOk w0 M' w' v x := by
  unfold entryOk at *
  split
  · rename_i c; rw [if_pos c] at h; exact h.mono hx
  · rename_i c; rw [if_neg c] at h; exact h
theorem LoopSt.mono {w0 : World} {M M' : Mem} {w w' : World} {ls : List LoopA} (h : LoopSt w0 M w ls) (hx : Ext w0 M w M' w') (hN : M'.NL = M.NL) (hk : KeepsObj w w') : LoopSt w0 M' w' ls where
  NL := hN.trans h.NL
  inj := fun k k' h1 h2 e => h.inj k k' (hN ▸ h1) (hN ▸ h2) (by rw [hx.lb k (hN ▸ h1), hx.lb k' (hN ▸ h2)] at e; exact e)
  record := fun k la hla => by
    have hk1 : k < M.NL := by rw [h.NL]; exact (List.getElem?_eq_some_iff.1 hla).1
    obtain ⟨a1, r, a2, a3, a4, a5, a6, a7, a8, a9⟩ := h.record k la hla
    rw [hx.lb k hk1]
    exact ⟨a1, r, hk _ _ a2 rfl, a3, a4, a5, a6, a7, a8, fun s x hs => (a9 s x hs).mono hx⟩

structure RelSt (w0 : World) (M : Mem) (st : St) (w : World) : Prop where
  below : Below w0.heap.size w0 w
  N : M.N = st.boxes.length
  NR : M.NR = st.rows.length
  top : ∀ b, w.heap.size ≤ b → M.top b = 0
  inj : ∀ l l', l < M.N → l' < M.N → M.bx l = M.bx l' → l = l'
  box : ∀ l cs, st.boxes[l]? = some cs → w0.heap.size ≤ M.bx l ∧ M.top (M.bx l) = 0 ∧ ∃ c ty, w.heap[M.bx l]? = some (.cells c ty (0, 0)) ∧ c.size = cs.length ∧ (∀ x ∈ cs, x.one = true) ∧
    ∀ i (h1 : i < c.size) (h2 : i < cs.length), R w0 M w c[i] cs[i]
  row : ∀ id n sz, st.rows[id]? = some (n, sz) → M.fr id = n ∧ M.rsz id = sz ∧ w0.heap.size ≤ M.blk id ∧ M.top (M.blk id) = n * sz ∧ (∀ l, l < M.N → M.bx l ≠ M.blk id) ∧ M.cap id ≤ maxLen ∧ n ≤ M.cap id ∧
    ∃ c ty, w.heap[M.blk id]? = some (.cells c ty (0, 0)) ∧ c.size = M.cap id * sz
  rowinj : ∀ i j, i < M.NR → j < M.NR → M.blk i = M.blk j → i = j
  loop : LoopSt w0 M w st.loops

structure Rel (w0 : World) (n : Nat) (M : Mem) (e : Env) (st : St) (a : Act) (w : World) : Prop where
  st : RelSt w0 M st w
  size : a.tmps.size = n
  env : ∀ s x, look e s = some x → entryOk w0 M w (a.tmps.getD s undef) x
end Go.Ev
