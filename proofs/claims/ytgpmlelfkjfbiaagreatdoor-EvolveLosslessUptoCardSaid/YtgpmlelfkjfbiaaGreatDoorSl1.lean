/-
  Part 1 of the proof: rules and walks that the claim's last text uses.
-/
import Derived.Below
import Derived.Laws.BytesArg
import Derived.Laws.IdiomStrings
import Derived.Laws.MakeOwn
import Derived.Laws.Rows
import Derived.Laws.Runes
import Derived.Laws.Small
import Derived.Laws.StructEq
import Derived.Lib.ConvBytes
import Derived.Lib.Strings
import Derived.Orders
import Derived.RangeFuncNested
import Derived.RangeFuncRecord
import Derived.WalkKit
set_option linter.unusedSimpArgs false
set_option linter.unusedVariables false
set_option maxRecDepth 100000
set_option maxHeartbeats 4000000
namespace Go
theorem Aa {a b:Prop} (h:a) (k:b):a∧b:=⟨h,k⟩
theorem Ab.{u,v} {α:Type u} {β:Type v} (a:α) (f:α→Option β):(some a).bind f=f a:=rfl
theorem Ac {p:Prop} [Decidable p] (h:¬p):decide p=false:=decide_eq_false h
theorem Ad {p:Prop} [Decidable p] (h:p):decide p=true:=decide_eq_true h
theorem Ae.{u} {c:Prop} {h:Decidable c} (hc:c) {α:Sort u} {t e:α}:ite c t e=t:=if_pos hc
theorem Af.{u} {c:Prop} {h:Decidable c} (hc:¬c) {α:Sort u} {t e:α}:ite c t e=e:=if_neg hc
theorem Ag.{u} {α:Type u} {a:α} {l:List α} {i:Nat}:l[i]?=some a↔∃ h:i<l.length,l[i]=a:=List.getElem?_eq_some_iff
end Go
namespace Go.Ev
open Go Go.RowKit
inductive Own where
 | none | full | seed | row (id:Nat)
 deriving DecidableEq
inductive AV where
 | val (v:Value)
 | list (xs:List AV) (o:Own)
 | elem (x:AV) (off:Nat)
 | box (l off:Nat)
 | clo (f:FuncId) (caps:List AV)
 | agg (cs:List AV)
 | tup (vs:List AV)
 | yld (k:Nat)
 | vec (id ver o n:Nat)
 | vel (id ver off:Nat)
abbrev AV.junk:AV := .tup []
instance:Inhabited AV:=⟨.junk⟩
def AV.cells:AV→List AV
 | .agg cs=>cs
 | x=>[x]
def AV.one:AV→Bool
 | .agg _ | .tup _=>false
 | _=>true
def IV:Value→Bool
 | .bool _ | .int _ _ | .float _ _ | .pointer none | .nilFunc | .nilIface | .map none=>true
 | .string s=>decide (s.size≤maxLen)
 | _=>false
structure LoopA where
 e:List (Nat × Bool × AV)
 n:Nat
 ps:Array Tmp
 asg:Code
 body:Code
 st:LoopState
 pend:Option Code
inductive RowA where
 | grow (n sz:Nat)
 | vec (ver sz:Nat) (cells:List AV)
 | dead (ver:Nat)
structure St where
 boxes:List (List AV)
 rows:List RowA
 loops:List LoopA
structure Mem where
 N:Nat
 NR:Nat
 bx:Nat→Nat
 top:Nat→Nat
 fr:Nat→Nat
 blk:Nat→Nat
 cap:Nat→Nat
 rsz:Nat→Nat
 NL:Nat
 lb:Nat→Nat
def Mem.imm (M:Mem) (w0:World) (b off:Nat):Prop:=b<w0.heap.size∨off<M.top b
def Zd4 (M:Mem) (b off cap n sz:Nat):Own→Prop
 | .none=>True
 | .full | .seed=>n=cap
 | .row id=>id<M.NR∧n≤M.fr id∧(n=M.fr id→b=M.blk id∧off=0∧cap=M.cap id∧sz=M.rsz id)
inductive R (w0:World) (M:Mem) (w:World):Value→AV→Prop
 | flat {v:Value} (h:IV v=true):R w0 M w v (.val v)
 | agg {cs:Array Value} {xs:List AV} (hl:cs.size=xs.length) (h1:∀ x∈xs,x.one=true) (h:∀ i (h1:i<cs.size) (h2:i<xs.length),R w0 M w cs[i] xs[i]):R w0 M w (.agg cs) (.agg xs)
 | tup {cs:Array Value} {xs:List AV} (hl:cs.size=xs.length) (h:∀ i (h1:i<cs.size) (h2:i<xs.length),R w0 M w cs[i] xs[i]):R w0 M w (.tuple cs) (.tup xs)
 | nil {o:Own} (ho:∀ id,o ≠ .row id):R w0 M w (.slice none 0 0) (.list [] o)
 | emp {a:Addr} {o:Own} (ho:∀ id,o ≠ .row id):R w0 M w (.slice (some a) 0 0) (.list [] o)
 | list {b off cap:Nat} {xs:List AV} {o:Own} (sz:Nat) (us:Nat→Value) (hc:xs.length≤cap) (hm:cap≤maxLen)
   (hcell:∀ i,i<xs.length→(us i).cells.size=sz∧∀ j,j<sz→M.imm w0 b (off+i*sz+j)∧w.cell? ⟨b,off+i*sz+j,none⟩=(us i).cells[j]?)
   (hu:∀ i (hi:i<xs.length),R w0 M w (us i) xs[i]) (ho:Zd4 M b off cap xs.length sz o):R w0 M w (.slice (some ⟨b,off,none⟩) xs.length cap) (.list xs o)
 | elem {b off:Nat} {x:AV} (u:Value) (k:Nat) (hcell:∀ j,j<u.cells.size→M.imm w0 b (off+j)∧w.cell? ⟨b,off+j,none⟩=u.cells[j]?) (hu:R w0 M w u x) :
   R w0 M w (.pointer (some ⟨b,off+k,none⟩)) (.elem x k)
 | box {l off:Nat} (hl:l<M.N):R w0 M w (.pointer (some ⟨M.bx l,off,none⟩)) (.box l off)
 | clo {f:FuncId} {cs:Array Value} {xs:List AV} (hl:cs.size=xs.length) (h:∀ i (h1:i<cs.size) (h2:i<xs.length),R w0 M w cs[i] xs[i]):R w0 M w (.func (.func f) #[] cs) (.clo f xs)
 | yld {k:Nat} (hk:k<M.NL):R w0 M w (.func (.yield (M.lb k)) #[] #[]) (.yld k)
 | vec {id ver o n:Nat} {p:Option Addr} {cap:Nat} (hi:id<M.NR) (hv:ver≤M.fr id) (h:ver=M.fr id→p=some ⟨M.blk id,o*M.rsz id,none⟩∧cap+o=M.cap id∧n≤cap):R w0 M w (.slice p n cap) (.vec id ver o n)
 | vel {id ver off:Nat} {a:Addr} (hi:id<M.NR) (hv:ver≤M.fr id) (h:ver=M.fr id→a=⟨M.blk id,off,none⟩):R w0 M w (.pointer (some a)) (.vel id ver off)
structure Ext (w0:World) (M:Mem) (w:World) (M':Mem) (w':World):Prop where
 N:M.N≤M'.N
 bx:∀ l,l<M.N→M'.bx l=M.bx l
 NR:M.NR≤M'.NR
 rows:∀ id,id<M.NR→M.fr id≤M'.fr id∧(M'.fr id=M.fr id→M'.blk id=M.blk id∧M'.cap id=M.cap id∧M'.rsz id=M.rsz id)
 cell:∀ b off v,M.imm w0 b off→w.cell? ⟨b,off,none⟩=some v→w'.cell? ⟨b,off,none⟩=some v∧M'.imm w0 b off
 size:w.heap.size≤w'.heap.size
 NL:M.NL≤M'.NL
 lb:∀ k,k<M.NL→M'.lb k=M.lb k
 lnew:∀ k,M.NL≤k→k<M'.NL→w.heap.size≤M'.lb k
 objs:∀ b o,w.heap[b]? = some o→o.isCells=false→(∀ k,k<M.NL→M.lb k≠b)→w'.heap[b]? = some o
def KeepsObj (w w':World):Prop:=∀ (b:Nat) (o:Obj),w.heap[b]? = some o→o.isCells=false→w'.heap[b]? = some o
theorem KeepsObj.refl (w:World):KeepsObj w w:=fun _ _ h _=>h
theorem KeepsObj.trans {a b c:World} (h:KeepsObj a b) (k:KeepsObj b c):KeepsObj a c:=fun i o e d=>k i o (h i o e d) d
theorem KeepsObj.alloc (w:World) (o:Obj):KeepsObj w (w.alloc o):=fun b _ h _=>(Below.heap_alloc w o b (Array.getElem?_eq_some_iff.1 h).1).trans h
theorem Ext.refl (w0:World) (M:Mem) (w:World):Ext w0 M w M w :=
 ⟨Nat.le_refl _,fun _ _=>rfl,Nat.le_refl _,fun _ _=>⟨Nat.le_refl _,fun _=>⟨rfl,rfl,rfl⟩⟩,fun _ _ _ h k=>⟨k,h⟩,Nat.le_refl _,Nat.le_refl _,fun _ _=>rfl,fun _ _ _=>by omega,fun _ _ h _ _=>h⟩
theorem Ext.trans {w0:World} {M1 M2 M3:Mem} {w1 w2 w3:World} (h:Ext w0 M1 w1 M2 w2) (k:Ext w0 M2 w2 M3 w3):Ext w0 M1 w1 M3 w3 where
 N:=Nat.le_trans h.N k.N
 bx:=fun l m=>(k.bx l (Nat.lt_of_lt_of_le m h.N)).trans (h.bx l m)
 NR:=Nat.le_trans h.NR k.NR
 rows:=fun id f=>by
  obtain ⟨a1,a2⟩:=h.rows id f
  obtain ⟨y,p⟩:=k.rows id (Nat.lt_of_lt_of_le f h.NR)
  refine ⟨Nat.le_trans a1 y,fun e=>?_⟩
  have D:M2.fr id=M1.fr id:=by omega
  have u:M3.fr id=M2.fr id:=by omega
  obtain ⟨r,s,z⟩:=a2 D
  obtain ⟨t,E,x⟩:=p u
  exact ⟨t.trans r,E.trans s,x.trans z⟩
 cell:=fun b d v a C=>by
  obtain ⟨q,w⟩:=h.cell b d v a C
  exact k.cell b d v w q
 size:=Nat.le_trans h.size k.size
 NL:=Nat.le_trans h.NL k.NL
 lb:=fun i a=>(k.lb i (Nat.lt_of_lt_of_le a h.NL)).trans (h.lb i a)
 lnew:=fun i g j=>by
  by_cases c:i<M2.NL
  ·rw [k.lb i c];exact h.lnew i g c
  ·exact Nat.le_trans h.size (k.lnew i (by omega) j)
 objs:=fun b o g j n=>k.objs b o (h.objs b o g j n) j fun i a=>by
  by_cases c:i<M1.NL
  ·rw [h.lb i c];exact n i c
  ·have:=h.lnew i (by omega) a
   have:=(Array.getElem?_eq_some_iff.1 g).1
   omega
theorem PC {u:Value} {j:Nat} (h:j<u.cells.size):∃ v,u.cells[j]? = some v:=⟨_,Array.getElem?_eq_getElem h⟩
theorem R.mono {w0:World} {M M':Mem} {w w':World} (hx:Ext w0 M w M' w') {v:Value} {x:AV} (h:R w0 M w v x):R w0 M' w' v x:=by
 induction h with
 | flat h=>exact .flat h
 | agg hl r _ ih=>exact .agg hl r ih
 | tup hl _ ih=>exact .tup hl ih
 | nil ho=>exact .nil ho
 | emp ho=>exact .emp ho
 | @list b off cap xs o sz us hc hm hcell _ ho ih =>
  refine .list sz us hc hm (fun i d=>⟨(hcell i d).1,fun j l=>?_⟩) ih ?_
  ·obtain ⟨f,g⟩:=(hcell i d).2 j l
   obtain ⟨v,hv⟩:=PC (u:=us i) (j:=j) (by rw [(hcell i d).1];exact l)
   obtain ⟨y,s⟩:=hx.cell _ _ v f (g.trans hv)
   exact ⟨s,y.trans hv.symm⟩
  ·cases o with
   | none=>trivial
   | full=>exact ho
   | seed=>exact ho
   | row id =>
    obtain ⟨r,F,D⟩:=ho
    obtain ⟨q,m⟩:=hx.rows id r
    refine ⟨Nat.lt_of_lt_of_le r hx.NR,Nat.le_trans F q,fun e=>?_⟩
    have E:M'.fr id=M.fr id:=by omega
    obtain ⟨a,b,c⟩:=m E
    rw [a,b,c]
    exact D (by omega)
 | @elem b off x u k hcell _ ih =>
  refine .elem u k (fun j l=>?_) ih
  obtain ⟨f,g⟩:=hcell j l
  obtain ⟨v,hv⟩:=PC (u:=u) (j:=j) l
  obtain ⟨y,s⟩:=hx.cell _ _ v f (g.trans hv)
  exact ⟨s,y.trans hv.symm⟩
 | box hl=>rw [←hx.bx _ hl];exact .box (Nat.lt_of_lt_of_le hl hx.N)
 | clo hl _ ih=>exact .clo hl ih
 | yld hk=>rw [←hx.lb _ hk];exact .yld (Nat.lt_of_lt_of_le hk hx.NL)
 | @vec id ver o n p cap d hv h =>
  obtain ⟨q,m⟩:=hx.rows id d
  refine .vec (Nat.lt_of_lt_of_le d hx.NR) (Nat.le_trans hv q) (fun e=>?_)
  obtain ⟨t,C,z⟩:=m (by omega)
  rw [t,C,z]
  exact h (by omega)
 | @vel id ver off a d hv h =>
  obtain ⟨q,m⟩:=hx.rows id d
  refine .vel (Nat.lt_of_lt_of_le d hx.NR) (Nat.le_trans hv q) (fun e=>?_)
  obtain ⟨t,C,z⟩:=m (by omega)
  rw [t]
  exact h (by omega)
theorem R.cells {w0:World} {M:Mem} {w:World} {v:Value} {x:AV} (h:R w0 M w v x) :
  v.cells.size=x.cells.length∧∀ i (h1:i<v.cells.size) (h2:i<x.cells.length),R w0 M w v.cells[i] x.cells[i]:=by
 have one:∀ (u:Value) (y:AV),u.cells = #[u]→y.cells=[y]→R w0 M w u y →
   u.cells.size=y.cells.length∧∀ i (h1:i<u.cells.size) (h2:i<y.cells.length),R w0 M w u.cells[i] y.cells[i]:=by
  intro u y a c b
  rw [a,c]
  refine ⟨rfl,fun i h1 h2=>?_⟩
  have:i=0:=by simp at h2;exact h2
  subst this
  exact b
 cases h with
 | agg hl _ h=>exact ⟨hl,h⟩
 | flat hf=>exact one _ _ (by cases v<;>first | rfl | simp [IV] at hf) rfl (.flat hf)
 | tup hl h=>exact one _ _ rfl rfl (.tup hl h)
 | nil ho=>exact one _ _ rfl rfl (.nil ho)
 | emp ho=>exact one _ _ rfl rfl (.emp ho)
 | list sz us hc hm hcell a ho=>exact one _ _ rfl rfl (.list sz us hc hm hcell a ho)
 | elem u k hcell a=>exact one _ _ rfl rfl (.elem u k hcell a)
 | box hl=>exact one _ _ rfl rfl (.box hl)
 | clo hl h=>exact one _ _ rfl rfl (.clo hl h)
 | yld hk=>exact one _ _ rfl rfl (.yld hk)
 | vec hi hv h=>exact one _ _ rfl rfl (.vec hi hv h)
 | vel hi hv h=>exact one _ _ rfl rfl (.vel hi hv h)
theorem R.oneCell {w0:World} {M:Mem} {w:World} {v:Value} {x:AV} (h:R w0 M w v x) (hx:x.one=true):v.oneCell'=true:=by
 cases h with
 | agg=>cases hx
 | flat hf=>cases v<;>first | rfl | simp [IV] at hf
 | tup=>cases hx
 | _=>rfl
theorem R.cellsOne {w0:World} {M:Mem} {w:World} {v:Value} {x:AV} (h:R w0 M w v x) (ht:∀ vs,x ≠ .tup vs):∀ c∈x.cells,c.one=true:=by
 cases h with
 | agg hl h1 h=>exact h1
 | tup=>exact absurd rfl (ht _)
 | _=>intro c hc;simp only [AV.cells,List.mem_singleton] at hc;subst hc;rfl
theorem R.isAgg {w0:World} {M:Mem} {w:World} {v:Value} {xs:List AV} (h:R w0 M w v (.agg xs)):∃ cs,v = .agg cs:=by
 cases h with
 | agg hl h1 h=>exact ⟨_,rfl⟩
theorem R.cells_one {w0:World} {M:Mem} {w:World} {v:Value} {x:AV} (h:R w0 M w v x) (hx:x.one=true):v.cells = #[v]∧x.cells=[x]:=by
 cases h with
 | agg=>cases hx
 | flat hf=>exact ⟨by cases v<;>first | rfl | simp [IV] at hf,rfl⟩
 | tup=>cases hx
 | _=>exact ⟨rfl,rfl⟩
def AV.pubCell:AV→AV
 | .list xs _ => .list xs .none
 | x=>x
def AV.pub:AV→AV
 | .agg cs => .agg (cs.map AV.pubCell)
 | .list xs _ => .list xs .none
 | x=>x
theorem R.pubCell {w0:World} {M:Mem} {w:World} {v:Value} {x:AV} (h:R w0 M w v x):R w0 M w v x.pubCell:=by
 cases h with
 | nil ho=>exact .nil (fun id=>by simp)
 | emp ho=>exact .emp (fun id=>by simp)
 | list sz us hc hm hcell hu ho=>exact .list sz us hc hm hcell hu trivial
 | flat hf=>exact .flat hf
 | agg hl h1 h=>exact .agg hl h1 h
 | tup hl h=>exact .tup hl h
 | elem u k hcell hu=>exact .elem u k hcell hu
 | box hl=>exact .box hl
 | clo hl h=>exact .clo hl h
 | yld hk=>exact .yld hk
 | vec hi hv h=>exact .vec hi hv h
 | vel hi hv h=>exact .vel hi hv h
theorem AV.one_pubCell (x:AV):x.pubCell.one=x.one:=by cases x<;>rfl
theorem R.pub {w0:World} {M:Mem} {w:World} {v:Value} {x:AV} (h:R w0 M w v x):R w0 M w v x.pub:=by
 cases h with
 | nil ho=>exact .nil (fun id=>by simp)
 | emp ho=>exact .emp (fun id=>by simp)
 | list sz us hc hm hcell hu ho=>exact .list sz us hc hm hcell hu trivial
 | flat hf=>exact .flat hf
 | agg hl h1 h=>exact .agg (by simpa using hl) (fun x c=>by obtain ⟨y,d,rfl⟩:=List.mem_map.1 c;rw [AV.one_pubCell];exact h1 y d) (fun i a b=>by simp only [List.getElem_map];exact (h i a (by simpa using b)).pubCell)
 | tup hl h=>exact .tup hl h
 | elem u k hcell hu=>exact .elem u k hcell hu
 | box hl=>exact .box hl
 | clo hl h=>exact .clo hl h
 | yld hk=>exact .yld hk
 | vec hi hv h=>exact .vec hi hv h
 | vel hi hv h=>exact .vel hi hv h
theorem AV.pub_cells_length (x:AV):x.pub.cells.length=x.cells.length:=by cases x<;>simp [AV.pub,AV.cells]
def IX (P:Program) (t:TypeId):Option (Nat × Bool) :=
 match P.info? t,P.underlying t with
 | some i,some d=>some (i.size,match d with | .struct _ | .array _ _=>true | _=>false)
 | _,_=>none
def Fh (P:Program) (t:TypeId) (f:Nat):Option (Nat × Nat × Bool) :=
 match P.underlying t with
 | some (.struct fs)=>match fs[f]? with
  | some x=>(IX P x.type).map fun (s,a)=>(x.offset,s,a)
  | none=>none
 | _=>none
def Kx (P:Program) (t:TypeId):Option (TypeId × Nat × Bool × Nat) :=
 match P.underlying t with
 | some (.slice e)=>match P.info? e,IX P e with
  | some i,some (s,a)=>some (e,s,a,i.bytes)
  | _,_=>none
 | _=>none
def Gh (P:Program) (t:TypeId):Option (Nat × Nat × Bool) :=
 match P.underlying t with
 | some (.array n e)=>(IX P e).map fun (s,a)=>(n,s,a)
 | _=>none
def EG (P:Program) (t:TypeId):Bool :=
 match P.underlying t with | some .string=>true | _=>false
def I5 (P:Program) (t:TypeId):Bool :=
 match P.underlying t with
 | some (.slice e)=>(match P.underlying e with | some (.int .u8)=>true | _=>false)&&(match IX P e with | some (1,false)=>true | _=>false)
 | _=>false
def NZ (P:Program) (t:TypeId):Option IntKind :=
 match P.underlying t with | some (.int k)=>some k | _=>none
def N6:Value→AV
 | .slice none 0 0 => .list [] .full
 | v => .val v
def I0:Value→AV
 | .agg cs => .agg (cs.toList.map N6)
 | v=>N6 v
def Qd:Value→Bool
 | .slice none 0 0=>true
 | v=>IV v
def Px:Value→Bool
 | .agg cs=>cs.toList.all Qd
 | v=>Qd v
def CW (P:Program) (t:TypeId):Option (List AV) :=
 match P.info? t with
 | some i=>match i.zero with
  | some z=>if Px z&&z.cells.size == i.size then some (I0 z).cells else none
  | none=>none
 | none=>none
abbrev Env:=List (Nat × Bool × AV)
def D2:Env→Nat→Option (Bool × AV)
 | [],_=>none
 | (k,c,v)::r,s=>if k=s then some (c,v) else D2 r s
def DD:List Nat→Env→Env
 | [],_=>[]
 | s::K,e=>match D2 e s with
  | some (c,v)=>(s,c,v)::DD K e
  | none=>DD K e
def Ar (e:Env):Operand→AV
 | .tmp t=>match D2 e t with | some (_,v)=>v | none => .junk
 | .const v=>I0 v
 | .func f => .clo f []
 | .global _ => .junk
def AU (e:Env) (c:Bool):Operand→Prop
 | .tmp t=>match D2 e t with | some (c',_)=>(c=true→c'=true) | none=>False
 | .const v=>Px v=true
 | .func _=>True
 | .global _=>False
def JY:AV→Bool
 | .val (.bool b)=>b
 | _=>false
def VY:AV→Bool
 | .val (.bool _)=>true
 | _=>false
def AV.sel (t:Bool):AV→AV→AV
 | .val (.bool x),.val (.bool y) => .val (.bool (if t then x else y))
 | a,b=>if t then a else b
def Dw (l:List AV) (off:Nat) (xs:List AV):List AV:=l.take off++xs++l.drop (off+xs.length)
def Yx (l:List AV) (i:Nat):AV:=l.getD i .junk
def QX (P:Program):List Field→Option (List (Nat × Nat))
 | []=>some []
 | f::fs=>match P.info? f.type,QX P fs with
  | some i,some r=>some ((f.offset,i.size)::r)
  | _,_=>none
def Ee (P:Program) (t:TypeId):Option (List (Nat × Nat)) :=
 match P.underlying t with
 | some (.struct fs)=>QX P fs.toList
 | _=>none
def J5 (P:Program) (t:TypeId) (i:Nat):Option (Nat × Nat) :=
 match Ee P t with
 | some l=>l[i]?
 | none=>match Gh P t with
  | some (_,s,_)=>some (i*s,s)
  | none=>none
def QE (P:Program) (t:TypeId):List AV→List (Nat × AV)→List AV
 | cs,[]=>cs
 | cs,(i,x)::r=>match J5 P t i with
  | some (o,_)=>QE P t (Dw cs o x.cells) r
  | none=>cs
def OE (P:Program) (t:TypeId):Nat→List (Nat × AV)→Prop
 | _,[]=>True
 | n,(i,x)::r=>(match J5 P t i with
  | some (o,s)=>x.cells.length=s∧o+s≤n
  | none=>False)∧OE P t n r
def Bc:AV→Bool
 | .tup _=>false
 | _=>true
def GN:AV→Bool
 | .agg _=>true
 | _=>false
def inK:IntKind→Int→Prop
 | .i8,n => -128≤n∧n≤127
 | .i16,n => -32768≤n∧n≤32767
 | .i32,n => -2147483648≤n∧n≤2147483647
 | .i64,n => -9223372036854775808≤n∧n≤9223372036854775807
 | .u8,n=>0≤n∧n≤255
 | .u16,n=>0≤n∧n≤65535
 | .u32,n=>0≤n∧n≤4294967295
 | .u64,n=>0≤n∧n≤18446744073709551615
def DR (x y:ByteArray):Bool:=x.data.toList == y.data.toList
def WL (x y:ByteArray):Bool:=Op.bytesLess x.data.toList y.data.toList
def evBin:BinOp→Value→Value→Prop × Value
 | .add,.int k a,.int k' b=>(k=k'∧inK k (a+b),.int k (a+b))
 | .sub,.int k a,.int k' b=>(k=k'∧inK k (a-b),.int k (a-b))
 | .mul,.int k a,.int k' b=>(k=k'∧inK k (a*b),.int k (a*b))
 | .quo,.int k a,.int k' b=>(k=k'∧b≠0∧inK k (a.tdiv b),.int k (a.tdiv b))
 | .rem,.int k a,.int k' b=>(k=k'∧b≠0,.int k (a.tmod b))
 | .eql,.int k a,.int k' b=>(k=k',.bool (decide (a=b)))
 | .neq,.int k a,.int k' b=>(k=k',.bool (!decide (a=b)))
 | .lss,.int k a,.int k' b=>(k=k',.bool (decide (a<b)))
 | .leq,.int k a,.int k' b=>(k=k',.bool (decide (a≤b)))
 | .gtr,.int k a,.int k' b=>(k=k',.bool (decide (b<a)))
 | .geq,.int k a,.int k' b=>(k=k',.bool (decide (b≤a)))
 | .add,.string x,.string y=>(x.size+y.size≤9223372036854775807,.string (x++y))
 | .eql,.string x,.string y=>(True,.bool (DR x y))
 | .neq,.string x,.string y=>(True,.bool (!DR x y))
 | .lss,.string x,.string y=>(True,.bool (WL x y))
 | .leq,.string x,.string y=>(True,.bool (WL x y||DR x y))
 | .gtr,.string x,.string y=>(True,.bool (!(WL x y||DR x y)))
 | .geq,.string x,.string y=>(True,.bool (!WL x y))
 | .shr,.int k a,.int _ b=>(b=1∧0≤a,.int k (a / 2))
 | _,_,_=>(False,undef)
def evBB:BinOp→Bool→Bool→Prop × Bool
 | .eql,a,b=>(True,a == b)
 | .neq,a,b=>(True,a != b)
 | _,_,_=>(False,false)
def Na (P:Program) (t:TypeId):Bool :=
 match P.underlying t with | some .bool=>true | _=>false
def K0 (P:Program) (t:TypeId):AV→AV→Prop
 | .val (.int k _),.val (.int k' _)=>(NZ P t).isSome=true∧k=k'
 | .val (.string _),.val (.string _)=>EG P t=true
 | .val (.bool _),.val (.bool _)=>Na P t=true
 | _,_=>False
def eqCell:AV→AV→Bool
 | .val (.int _ a),.val (.int _ b)=>decide (a=b)
 | .val (.string a),.val (.string b)=>DR a b
 | .val (.bool a),.val (.bool b)=>a == b
 | _,_=>false
def OA:List AV→List AV→Bool
 | [],[]=>true
 | x::xs,y::ys=>eqCell x y&&OA xs ys
 | _,_=>false
def Yn (P:Program):List Field→Nat→List AV→List AV→Prop
 | [],_,[],[]=>True
 | f::fs,i,x::xs,y::ys=>f.name ≠ "_" ∧ f.offset=i∧IX P f.type=some (1,false)∧K0 P f.type x y∧Yn P fs (i+1) xs ys
 | _,_,_,_=>False
def eqT (P:Program) (t:TypeId):Option (List Field) :=
 match P.underlying t with
 | some (.struct fs)=>if P.stoodInHeld t=false∧P.eqGuardType P.depth t=false then some fs.toList else none
 | _=>none
def Ox (P:Program) (op:BinOp) (t:TypeId) (xs ys:List AV):Prop × Bool :=
 match eqT P t,op with
 | some fs,.eql=>(Yn P fs 0 xs ys,OA xs ys)
 | some fs,.neq=>(Yn P fs 0 xs ys,!OA xs ys)
 | _,_=>(False,false)
def M8:AV→List AV
 | .agg xs=>xs
 | _=>[]
def evUn:UnOp→Value→Prop × Value
 | .not,.bool b=>(True,.bool (!b))
 | .neg,.int k a=>(inK k (0-a),.int k (0-a))
 | _,_=>(False,undef)
def IJ:AV→Value
 | .val v=>v
 | _=>undef
def GV:AV→Bool
 | .val _=>true
 | _=>false
def AO:AV→Int
 | .val (.int _ n)=>n
 | _=>0
def Kp:AV→IntKind
 | .val (.int k _)=>k
 | _ => .i64
def EJ:AV→Bool
 | .val (.int _ _)=>true
 | _=>false
def A4:AV→List AV
 | .list xs _=>xs
 | _=>[]
def Ce:AV→Bool
 | .list _ _=>true
 | _=>false
def Oj:AV→Bool
 | .val (.string _)=>true
 | _=>false
def Zes:AV→ByteArray
 | .val (.string s)=>s
 | _ => .empty
def Ux:AV→Prop
 | .val (.int .u8 n)=>0≤n∧n≤255
 | _=>False
def GZ (xs:List AV):ByteArray:=⟨(xs.map fun x=>UInt8.ofNat (AO x).toNat).toArray⟩
def Ha (l:List UInt8):List AV:=l.map fun b => .val (.int .u8 b.toNat)
def EW (rows:List RowA) (id ver:Nat):Option (Nat × List AV) :=
 match rows[id]? with
 | some (.vec v sz cs)=>if v=ver then some (sz,cs) else none
 | _=>none
def Br (st:St):AV→List AV
 | .box l _=>st.boxes.getD l []
 | .elem x _=>x.cells
 | .vel id ver _=>match EW st.rows id ver with | some (_,cs)=>cs | none=>[]
 | _=>[]
def ET:AV→Nat
 | .box _ o=>o
 | .elem _ o=>o
 | .vel _ _ o=>o
 | _=>0
def DI (st:St):AV→Bool
 | .box l _=>decide (l<st.boxes.length)
 | .elem (.tup _) _=>false
 | .elem _ _=>true
 | .vel id ver _=>(EW st.rows id ver).isSome
 | _=>false
def RG (x:AV) (n:Nat):AV :=
 match x with
 | .box l o => .box l (o+n)
 | .elem y o => .elem y (o+n)
 | .vel id ver o => .vel id ver (o+n)
 | x=>x
def PV (agg:Bool) (cs:List AV) (off sz:Nat):AV:=if agg then .agg ((cs.drop off).take sz) else Yx cs off
def UP (st:St) (a:AV) (xs:List AV):St :=
 match a with
 | .box l o=>{ st with boxes:=st.boxes.set l (Dw (st.boxes.getD l []) o xs) }
 | .vel id ver o=>match EW st.rows id ver with
  | some (sz,cs)=>{ st with rows:=st.rows.set id (.vec ver sz (Dw cs o xs)) }
  | none=>st
 | _=>st
def OP:AV→Bool
 | .box _ _=>true
 | .vel _ _ _=>true
 | _=>false
def SN (P:Program) (t:TypeId) (x:AV):Prop × AV :=
 match x with
 | .val (.string s)=>(EG P t=true,.val (.int .i64 s.size))
 | .list xs _=>((Kx P t).isSome=true,.val (.int .i64 xs.length))
 | .vec _ _ _ n=>((Kx P t).isSome=true,.val (.int .i64 n))
 | _=>(False,.junk)
def CE (P:Program) (el sz by8:Nat) (n:Nat) (xs:List AV):Prop :=
 0<sz∧(CW P el).isSome=true∧(n+xs.length)*by8≤140737488355328∧n+xs.length≤4611686018427387904∧(∀ y∈xs,y.cells.length=sz∧Bc y=true)
def BC (P:Program) (st:St) (t:TypeId) (s x:AV):Prop × AV × St :=
 match Kx P t with
 | some (el,sz,_,by8) =>
  match s with
  | .list ys .full=>if (A4 x).length=0 then (Ce x=true∧0<sz,.list ys .full,st)
   else (Ce x=true∧CE P el sz by8 ys.length (A4 x)∧(∀ y∈ys,y.cells.length=sz),.list (ys++(A4 x).map AV.pub) (.row st.rows.length),{ st with rows:=st.rows++[.grow (ys.length+(A4 x).length) sz] })
  | .list ys (.row id)=>(Ce x=true∧CE P el sz by8 ys.length (A4 x)∧(∀ y∈ys,y.cells.length=sz)∧st.rows[id]? = some (.grow ys.length sz),.list (ys++(A4 x).map AV.pub) (.row id),{ st with rows:=st.rows.set id (.grow (ys.length+(A4 x).length) sz) })
  | .list ys .seed=>(Ce x=true∧CE P el sz by8 0 (A4 x)∧ys.length=0∧0<(A4 x).length,.vec st.rows.length 0 0 (A4 x).length,{ st with rows:=st.rows++[.vec 0 sz ((A4 x).flatMap fun y=>y.pub.cells)] })
  | .vec id ver o n=>match EW st.rows id ver with
   | some (sz',cs)=>(Ce x=true∧CE P el sz by8 n (A4 x)∧sz'=sz∧o=0∧n*sz≤cs.length,.vec id (ver+1) 0 (n+(A4 x).length),{ st with rows:=st.rows.set id (.vec (ver+1) sz (cs.take (n*sz)++(A4 x).flatMap fun y=>y.pub.cells)) })
   | none=>(False,.junk,st)
  | _=>(False,.junk,st)
 | none=>(False,.junk,st)
def Dz (e:Env) (d:Int):Option Operand→Int
 | some y=>AO (Ar e y)
 | none=>d
def Of (e:Env) (c:Bool):Option Operand→Prop
 | some y=>AU e c y∧EJ (Ar e y)=true
 | none=>True
def Uo (st:St) (x:Prop × AV × St):Prop × AV × St:=(x.1,x.2.1,st)
def Jt (e:Env) (t:TypeId):Bool :=
 match D2 e (1000000+t) with
 | some _=>true
 | none=>false
def Bi (P:Program) (e:Env) (c:Bool) (st:St):Op→Prop × AV × St
 | .move x | .assign x=>(AU e c x,Ar e x,st)
 | .pick b x y=>(AU e c b∧VY (Ar e b)=true∧(c=true→JY (Ar e b)=true→AU e true x)∧(c=true→JY (Ar e b)=false→AU e true y),AV.sel (JY (Ar e b)) (Ar e x) (Ar e y),st)
 | .alloc t=>match CW P t with
  | some z=>(c=true,.box st.boxes.length 0,{ st with boxes:=st.boxes++[z] })
  | none=>(False,.junk,st)
 | .box _ x=>(c=true∧AU e c x∧Bc (Ar e x)=true,.box st.boxes.length 0,{ st with boxes:=st.boxes++[(Ar e x).cells] })
 | .build t ps=>match CW P t with
  | some z=>(((Ee P t).isSome=true∨(Gh P t).isSome=true)∧(∀ p∈ps.toList,AU e c p.2∧Bc (Ar e p.2)=true)∧OE P t z.length (ps.toList.map fun p=>(p.1,Ar e p.2)),.agg (QE P t z (ps.toList.map fun p=>(p.1,Ar e p.2))),st)
  | none=>(False,.junk,st)
 | .buildSlice t n ps =>
  let vs:=ps.toList.map fun p=>Ar e p.2
  match Kx P t with
  | some (el,sz,_,_)=>match Jt e t with
   | false=>((∀ p∈ps.toList,AU e c p.2)∧ps.toList.map (·.1)=List.range n∧n*sz≤16777216∧0<sz∧(CW P el).isSome=true∧(∀ x∈vs,x.cells.length=sz),.list (vs.map AV.pub) .full,st)
   | true=>(c=true∧(∀ p∈ps.toList,AU e c p.2)∧ps.toList.map (·.1)=List.range n∧n*sz≤16777216∧0<sz∧(CW P el).isSome=true∧(∀ x∈vs,x.cells.length=sz)∧(∀ x∈vs,Bc x=true),.vec st.rows.length 0 0 n,{ st with rows:=st.rows++[.vec 0 sz (vs.flatMap fun x=>x.pub.cells)] })
  | none=>(False,.junk,st)
 | .load t a=>match IX P t with
  | some (sz,ag)=>(AU e c a∧DI st (Ar e a)=true∧ET (Ar e a)+sz≤(Br st (Ar e a)).length∧(ag=true∨sz=1),PV ag (Br st (Ar e a)) (ET (Ar e a)) sz,st)
  | none=>(False,.junk,st)
 | .store t a v=>match IX P t with
  | some (sz,_)=>(c=true∧AU e c a∧AU e c v∧OP (Ar e a)=true∧DI st (Ar e a)=true∧Bc (Ar e v)=true∧(Ar e v).cells.length=sz∧ET (Ar e a)+sz≤(Br st (Ar e a)).length,.junk,UP st (Ar e a) (Ar e v).cells)
  | none=>(False,.junk,st)
 | .nilCheck x=>(AU e c x∧DI st (Ar e x)=true,Ar e x,st)
 | .binOp op t x y _=>if VY (Ar e x)&&VY (Ar e y) then (AU e c x∧AU e c y∧Na P t=true∧(evBB op (JY (Ar e x)) (JY (Ar e y))).1,.val (.bool (evBB op (JY (Ar e x)) (JY (Ar e y))).2),st)
  else if GN (Ar e x)&&GN (Ar e y) then (AU e c x∧AU e c y∧(Ox P op t (M8 (Ar e x)) (M8 (Ar e y))).1,.val (.bool (Ox P op t (M8 (Ar e x)) (M8 (Ar e y))).2),st)
  else (AU e c x∧AU e c y∧GV (Ar e x)=true∧GV (Ar e y)=true∧(evBin op (IJ (Ar e x)) (IJ (Ar e y))).1,.val (evBin op (IJ (Ar e x)) (IJ (Ar e y))).2,st)
 | .unOp op _ x=>(AU e c x∧GV (Ar e x)=true∧(evUn op (IJ (Ar e x))).1,.val (evUn op (IJ (Ar e x))).2,st)
 | .convert s d x=>match NZ P s,NZ P d with
  | some _,some k=>(AU e c x∧EJ (Ar e x)=true∧inK k (AO (Ar e x)),.val (.int k (AO (Ar e x))),st)
  | some _,none=>(AU e c x∧EJ (Ar e x)=true∧EG P d=true,.val (.string (Utf8.encode (AO (Ar e x)))),st)
  | none,_=>if EG P s&&EG P d then (AU e c x∧Oj (Ar e x)=true,Ar e x,st)
   else if I5 P s&&EG P d then match Ar e x with
    | .vec id ver o n=>match EW st.rows id ver with
     | some (sz',cs)=>(AU e c x∧sz'=1∧o+n≤cs.length∧n≤9223372036854775807∧(∀ y∈(cs.drop o).take n,Ux y),.val (.string (GZ ((cs.drop o).take n))),st)
     | none=>(False,.junk,st)
    | _=>(AU e c x∧Ce (Ar e x)=true∧(A4 (Ar e x)).length≤9223372036854775807∧(∀ y∈A4 (Ar e x),Ux y),.val (.string (GZ (A4 (Ar e x)))),st)
   else if EG P s&&I5 P d then (c=true∧AU e c x∧Oj (Ar e x)=true,.list (Ha (Zes (Ar e x)).data.toList) .none,st)
   else (False,.junk,st)
 | .makeFunc (.func f) fi cap=>(fi.size=0∧(∀ x∈cap.toList,AU e c x),.clo f (cap.toList.map (Ar e)),st)
 | .makeSlice t len cap=>match Kx P t with
  | some (el,sz,_,by8)=>match CW P el with
   | some z=>(c=true∧AU e c len∧AU e c cap∧EJ (Ar e len)=true∧EJ (Ar e cap)=true∧0≤AO (Ar e len)∧AO (Ar e len)≤AO (Ar e cap)∧AO (Ar e cap)*by8≤140737488355328∧AO (Ar e cap)≤4611686018427387904∧0<sz∧z.length=sz∧(AO (Ar e len)=0∨Jt e t=true∨sz=1),
     if AO (Ar e len)=0 then .list [] (.row st.rows.length) else if Jt e t=true then .vec st.rows.length 0 0 (AO (Ar e len)).toNat else .list (List.replicate (AO (Ar e len)).toNat (Yx z 0)) .none,
     if AO (Ar e len)=0 then { st with rows:=st.rows++[.grow 0 sz] } else if Jt e t=true then { st with rows:=st.rows++[.vec 0 sz ((List.replicate (AO (Ar e len)).toNat z).flatten)] } else st)
   | none=>(False,.junk,st)
  | none=>(False,.junk,st)
 | .slice t x lo hi mx=>match Ar e x with
  | .vec id ver o n=>match Kx P t,EW st.rows id ver with
   | some (_,sz,_,_),some (sz',_)=>(AU e c x∧Of e c lo∧Of e c hi∧mx.isNone=true∧0≤Dz e 0 lo∧Dz e 0 lo≤Dz e n hi∧Dz e n hi≤n∧(Dz e 0 lo=0∨Dz e 0 lo<n)∧sz'=sz,.vec id ver (o+(Dz e 0 lo).toNat) ((Dz e n hi).toNat-(Dz e 0 lo).toNat),st)
   | _,_=>(False,.junk,st)
  | .val (.string s) =>
   (EG P t=true∧AU e c x∧Of e c lo∧Of e c hi∧mx.isNone=true∧0≤Dz e 0 lo∧Dz e 0 lo≤Dz e s.size hi∧Dz e s.size hi≤s.size,.val (.string (s.extract (Dz e 0 lo).toNat (Dz e s.size hi).toNat)),st)
  | .list xs _=>match Kx P t with
   | some (_,sz,_,_)=>match mx with
    | none=>(AU e c x∧Of e c lo∧Of e c hi∧0≤Dz e 0 lo∧Dz e 0 lo≤Dz e xs.length hi∧Dz e xs.length hi≤xs.length∧(Dz e 0 lo=0∨∀ y∈xs,y.cells.length=sz),.list ((xs.take (Dz e xs.length hi).toNat).drop (Dz e 0 lo).toNat) .none,st)
    | some m=>(AU e c x∧Of e c lo∧Of e c hi∧Of e c (some m)∧Dz e 0 lo=0∧Dz e 1 hi=0∧Dz e 1 (some m)=0,.list [] .full,st)
   | none=>(False,.junk,st)
  | _=>(False,.junk,st)
 | .fieldAddr t x f=>match Fh P t f with
  | some (o,sz,_)=>(AU e c x∧DI st (Ar e x)=true∧0<sz,RG (Ar e x) o,st)
  | none=>(False,.junk,st)
 | .field t x f=>match Fh P t f with
  | some (o,sz,ag)=>(AU e c x∧GN (Ar e x)=true∧o+sz≤(Ar e x).cells.length∧(ag=true∨sz=1),PV ag (Ar e x).cells o sz,st)
  | none=>(False,.junk,st)
 | .indexAddr t x i=>Uo st <| match Kx P t with
  | some (_,sz,_,_)=>match Ar e x with
   | .vec id ver o n=>match EW st.rows id ver with
    | some (sz',_)=>(AU e c x∧AU e c i∧EJ (Ar e i)=true∧0≤AO (Ar e i)∧AO (Ar e i)<n∧sz'=sz,.vel id ver ((o+(AO (Ar e i)).toNat)*sz),st)
    | none=>(False,.junk,st)
   | _=>(AU e c x∧AU e c i∧Ce (Ar e x)=true∧EJ (Ar e i)=true∧0≤AO (Ar e i)∧AO (Ar e i)<(A4 (Ar e x)).length∧(Yx (A4 (Ar e x)) (AO (Ar e i)).toNat).cells.length=sz,.elem (Yx (A4 (Ar e x)) (AO (Ar e i)).toNat) 0,st)
  | none=>match Gh P t with
   | some (n,sz,_)=>(AU e c x∧AU e c i∧DI st (Ar e x)=true∧EJ (Ar e i)=true∧0≤AO (Ar e i)∧AO (Ar e i)<n,RG (Ar e x) ((AO (Ar e i)).toNat*sz),st)
   | none=>(False,.junk,st)
 | .index t x i=>Uo st <| match Ar e x with
  | .val (.string s)=>(EG P t=true∧AU e c x∧AU e c i∧EJ (Ar e i)=true∧0≤AO (Ar e i)∧AO (Ar e i)<s.size,.val (.int .u8 (s.get! (AO (Ar e i)).toNat).toNat),st)
  | .agg cs=>match Gh P t with
   | some (n,sz,ag)=>(AU e c x∧AU e c i∧EJ (Ar e i)=true∧0≤AO (Ar e i)∧AO (Ar e i)<n∧cs.length=n*sz∧(ag=true∨sz=1),PV ag cs ((AO (Ar e i)).toNat*sz) sz,st)
   | none=>(False,.junk,st)
  | _=>(False,.junk,st)
 | .extract x i=>Uo st <| match Ar e x with
  | .tup vs=>(AU e c x∧i<vs.length,Yx vs i,st)
  | _=>(False,.junk,st)
 | .call ⟨.builtin .len,args,ts⟩=>match args.toList,ts.toList with
  | [x],[t]=>(AU e c x∧(SN P t (Ar e x)).1,(SN P t (Ar e x)).2,st)
  | _,_=>(False,.junk,st)
 | .call ⟨.builtin .append,args,ts⟩=>match args.toList,ts.toList with
  | [s,x],[t,t']=>(c=true∧AU e c s∧AU e c x∧t=t'∧(BC P st t (Ar e s) (Ar e x)).1,(BC P st t (Ar e s) (Ar e x)).2)
  | _,_=>(False,.junk,st)
 | .call ⟨.builtin .min,args,_⟩=>match args.toList with
  | [x,y]=>(AU e c x∧AU e c y∧EJ (Ar e x)=true∧EJ (Ar e y)=true∧True,.val (.int (Kp (Ar e x)) (if AO (Ar e y)<AO (Ar e x) then AO (Ar e y) else AO (Ar e x))),st)
  | _=>(False,.junk,st)
 | .call ⟨.builtin .max,args,_⟩=>match args.toList with
  | [x,y]=>(AU e c x∧AU e c y∧EJ (Ar e x)=true∧EJ (Ar e y)=true,.val (.int (Kp (Ar e x)) (if AO (Ar e x)<AO (Ar e y) then AO (Ar e y) else AO (Ar e x))),st)
  | _=>(False,.junk,st)
 | _=>(False,.junk,st)
def entryOk (w0:World) (M:Mem) (w:World) (v:Value) (x:Bool × AV):Prop:=if x.1=true then R w0 M w v x.2 else v=undef
structure LoopSt (w0:World) (M:Mem) (w:World) (ls:List LoopA):Prop where
 NL:M.NL=ls.length
 inj:∀ k k',k<M.NL→k'<M.NL→M.lb k=M.lb k'→k=k'
 record:∀ k la,ls[k]? = some la→w0.heap.size≤M.lb k∧∃ r:Loop,w.heap[M.lb k]? = some (.loop r)∧r.state=la.st∧r.pending=la.pend∧r.params=la.ps∧r.assign=la.asg∧r.body=la.body ∧
  r.tmps.size=la.n∧∀ s x,D2 la.e s=some x→entryOk w0 M w (r.tmps.getD s undef) x
theorem entryOk.mono {w0:World} {M M':Mem} {w w':World} (hx:Ext w0 M w M' w') {v:Value} {x:Bool × AV} (h:entryOk w0 M w v x):entryOk w0 M' w' v x:=by
 unfold entryOk at *
 split
 ·rename_i c;rw [Ae c] at h;exact h.mono hx
 ·rename_i c;rw [Af c] at h;exact h
theorem LoopSt.mono {w0:World} {M M':Mem} {w w':World} {ls:List LoopA} (h:LoopSt w0 M w ls) (hx:Ext w0 M w M' w') (hN:M'.NL=M.NL) (hk:KeepsObj w w'):LoopSt w0 M' w' ls where
 NL:=hN.trans h.NL
 inj:=fun k c d f e=>h.inj k c (hN▸d) (hN▸f) (by rw [hx.lb k (hN▸d),hx.lb c (hN▸f)] at e;exact e)
 record:=fun k i a=>by
  have b:k<M.NL:=by rw [h.NL];exact (Ag.1 a).1
  obtain ⟨a1,r,a2,a3,a4,a5,a6,a7,g,j⟩:=h.record k i a
  rw [hx.lb k b]
  exact ⟨a1,r,hk _ _ a2 rfl,a3,a4,a5,a6,a7,g,fun s x hs=>(j s x hs).mono hx⟩
def RowOk (w0:World) (M:Mem) (w:World) (id:Nat):RowA→Prop
 | .grow n sz=>M.fr id=n∧M.rsz id=sz∧w0.heap.size≤M.blk id∧M.top (M.blk id)=n*sz∧(∀ l,l<M.N→M.bx l≠M.blk id)∧M.cap id≤maxLen∧n≤M.cap id ∧
  ∃ c ty,w.heap[M.blk id]? = some (.cells c ty (0,0))∧c.size=M.cap id*sz
 | .vec ver sz cs=>M.fr id=ver∧M.rsz id=sz∧w0.heap.size≤M.blk id∧M.top (M.blk id)=0∧(∀ l,l<M.N→M.bx l≠M.blk id)∧M.cap id≤maxLen∧0<sz ∧
  ∃ c ty,w.heap[M.blk id]? = some (.cells c ty (0,0))∧c.size=M.cap id*sz∧cs.length≤c.size∧(∀ x∈cs,x.one=true)∧∀ i (h1:i<c.size) (h2:i<cs.length),R w0 M w c[i] cs[i]
 | .dead ver=>M.fr id=ver∧w0.heap.size≤M.blk id∧(∀ l,l<M.N→M.bx l≠M.blk id)∧M.blk id<w.heap.size
theorem RowOk.base {w0:World} {M:Mem} {w:World} {id:Nat} {x:RowA} (h:RowOk w0 M w id x):w0.heap.size≤M.blk id:=by
 cases x with
 | grow n sz=>exact h.2.2.1
 | vec v sz cs=>exact h.2.2.1
 | dead v=>exact h.2.1
theorem RowOk.ne {w0:World} {M:Mem} {w:World} {id:Nat} {x:RowA} (h:RowOk w0 M w id x):∀ l,l<M.N→M.bx l≠M.blk id:=by
 cases x with
 | grow n sz=>exact h.2.2.2.2.1
 | vec v sz cs=>exact h.2.2.2.2.1
 | dead v=>exact h.2.2.1
theorem RowOk.lt {w0:World} {M:Mem} {w:World} {id:Nat} {x:RowA} (h:RowOk w0 M w id x):M.blk id<w.heap.size:=by
 cases x with
 | grow n sz=>obtain ⟨_,_,_,_,_,_,_,c,b,a,_⟩:=h;exact (Array.getElem?_eq_some_iff.1 a).1
 | vec v sz cs=>obtain ⟨_,_,_,_,_,_,_,c,b,a,_⟩:=h;exact (Array.getElem?_eq_some_iff.1 a).1
 | dead v=>exact h.2.2.2
theorem RowOk.keep {w0:World} {M M':Mem} {w w':World} {id:Nat} {x:RowA} (h:RowOk w0 M w id x) (hx:Ext w0 M w M' w') (e1:M'.fr id=M.fr id) (e2:M'.rsz id=M.rsz id) (e3:M'.blk id=M.blk id) (e4:M'.cap id=M.cap id)
  (e5:M'.top (M.blk id)=M.top (M.blk id)) (e6:∀ l,l<M'.N→M'.bx l≠M.blk id) (e7:w'.heap[M.blk id]? = w.heap[M.blk id]?):RowOk w0 M' w' id x:=by
 cases x with
 | grow n sz =>
  obtain ⟨a1,a2,a3,a4,a5,a6,a7,c,b,a,d⟩:=h
  simp only [RowOk,e1,e2,e3,e4,e5,e7]
  exact ⟨a1,a2,a3,a4,e6,a6,a7,c,b,a,d⟩
 | vec v sz cs =>
  obtain ⟨a1,a2,a3,a4,a5,a6,a7,c,b,a,d,k,e,j⟩:=h
  simp only [RowOk,e1,e2,e3,e4,e5,e7]
  exact ⟨a1,a2,a3,a4,e6,a6,a7,c,b,a,d,k,e,fun i f g=>(j i f g).mono hx⟩
 | dead v =>
  obtain ⟨a1,a2,a3,a4⟩:=h
  simp only [RowOk,e1,e3]
  exact ⟨a1,a2,e6,Nat.lt_of_lt_of_le a4 hx.size⟩
structure RelSt (w0:World) (M:Mem) (st:St) (w:World):Prop where
 below:Below w0.heap.size w0 w
 N:M.N=st.boxes.length
 NR:M.NR=st.rows.length
 top:∀ b,w.heap.size≤b→M.top b=0
 inj:∀ l l',l<M.N→l'<M.N→M.bx l=M.bx l'→l=l'
 box:∀ l cs,st.boxes[l]? = some cs→w0.heap.size≤M.bx l∧M.top (M.bx l)=0∧∃ c ty,w.heap[M.bx l]? = some (.cells c ty (0,0))∧c.size=cs.length∧(∀ x∈cs,x.one=true) ∧
  ∀ i (h1:i<c.size) (h2:i<cs.length),R w0 M w c[i] cs[i]
 row:∀ id x,st.rows[id]? = some x→RowOk w0 M w id x
 rowinj:∀ i j,i<M.NR→j<M.NR→M.blk i=M.blk j→i=j
 loop:LoopSt w0 M w st.loops
structure Rel (w0:World) (n:Nat) (M:Mem) (e:Env) (st:St) (a:Act) (w:World):Prop where
 st:RelSt w0 M st w
 size:a.tmps.size=n
 env:∀ s x,D2 e s=some x→entryOk w0 M w (a.tmps.getD s undef) x
section
variable {P:Program} {w0:World} {n:Nat} {M:Mem} {e:Env} {st:St} {a:Act} {w:World}
theorem M4 {t:TypeId} {s:Nat} {b:Bool} (h:IX P t=some (s,b)):∃ i d,P.info? t=some i∧i.size=s∧P.underlying t=some d∧(match d with | .struct _ | .array _ _=>true | _=>false)=b:=by
 unfold IX at h
 split at h
 ·rename_i i d h1 h2
  simp only [Option.some.injEq,Prod.mk.injEq] at h
  exact ⟨i,d,h1,h.1,h2,h.2⟩
 ·cases h
theorem BS {t:TypeId} {s:Nat} {b:Bool} (h:IX P t=some (s,b)) (w:World):(sizeOf t).run P w = .ok s w:=by
 obtain ⟨i,d,a,c,_,_⟩:=M4 h
 simp [sizeOf,typeInfo,a,c]
theorem Ue {t:TypeId} {s:Nat} {b:Bool} (h:IX P t=some (s,b)) (w:World):(isAgg t).run P w = .ok b w:=by
 obtain ⟨i,d,_,_,a,h4⟩:=M4 h
 unfold isAgg
 rw [Sem.run_bind,run_underlying a w]
 subst h4
 cases d<;>rfl
theorem WW {t:TypeId} {f o s:Nat} {b:Bool} (h:Fh P t f=some (o,s,b)):∃ fs x,P.underlying t=some (.struct fs)∧fs[f]? = some x∧x.offset=o∧IX P x.type=some (s,b):=by
 unfold Fh at h
 split at h
 ·rename_i fs h1
  split at h
  ·rename_i x h2
   obtain ⟨⟨d,e⟩,c,a⟩:=Option.map_eq_some_iff.1 h
   simp only [Prod.mk.injEq] at a
   obtain ⟨rfl,rfl,rfl⟩:=a
   exact ⟨fs,x,h1,h2,rfl,c⟩
  ·cases h
 ·cases h
theorem G5 {t el:TypeId} {s by8:Nat} {b:Bool} (h:Kx P t=some (el,s,b,by8)):∃ i,P.underlying t=some (.slice el)∧P.info? el=some i∧i.bytes=by8∧IX P el=some (s,b):=by
 unfold Kx at h
 split at h
 ·rename_i e' h1
  split at h
  ·rename_i i s' b' h2 h3
   simp only [Option.some.injEq,Prod.mk.injEq] at h
   obtain ⟨rfl,rfl,rfl,rfl⟩:=h
   exact ⟨i,h1,h2,rfl,h3⟩
  ·cases h
 ·cases h
theorem Ry {t:TypeId} {m s:Nat} {b:Bool} (h:Gh P t=some (m,s,b)):∃ el,P.underlying t=some (.array m el)∧IX P el=some (s,b):=by
 unfold Gh at h
 split at h
 ·rename_i m' el h1
  obtain ⟨⟨d,e⟩,c,a⟩:=Option.map_eq_some_iff.1 h
  simp only [Prod.mk.injEq] at a
  obtain ⟨rfl,rfl,rfl⟩:=a
  exact ⟨el,h1,c⟩
 ·cases h
theorem FO {t:TypeId} (h:EG P t=true):P.underlying t=some .string:=by
 unfold EG at h
 split at h
 ·assumption
 ·cases h
theorem RE {t:TypeId} {k:IntKind} (h:NZ P t=some k):P.underlying t=some (.int k):=by
 unfold NZ at h
 split at h
 ·rename_i k' h1;cases h;exact h1
 ·cases h
theorem Zbg:R w0 M w undef .junk := .tup rfl (fun i a=>absurd a (by simp))
theorem Y3 {v:Value} (h:Qd v=true):R w0 M w v (N6 v):=by
 unfold N6
 split
 ·exact .nil (fun id=>by simp)
 ·rename_i hne
  refine .flat ?_
  unfold Qd at h
  split at h
  ·exact absurd rfl hne
  ·exact h
theorem Zah {v:Value} (h:Qd v=true):(N6 v).one=true:=by
 unfold N6
 split<;>rfl
theorem QJ {v:Value} (h:Px v=true):R w0 M w v (I0 v):=by
 cases v with
 | agg cs =>
  have a:∀ x∈cs.toList,Qd x=true:=List.all_eq_true.1 h
  refine .agg (by simp) (fun x c=>?_) (fun i d e=>?_)
  ·obtain ⟨y,b,rfl⟩:=List.mem_map.1 c
   exact Zah (a y b)
  ·simp only [List.getElem_map,Array.getElem_toList]
   exact Y3 (a _ (by simp))
 | _=>exact Y3 h
theorem Bj (h:Rel w0 n M e st a w) {x:Operand} (ho:AU e true x):R w0 M w (a.eval x) (Ar e x):=by
 cases x with
 | tmp t =>
  simp only [AU,Ar] at *
  cases hl:D2 e t with
  | none=>simp [hl] at ho
  | some x =>
   obtain ⟨c,v⟩:=x
   simp only [hl] at ho ⊢
   have:=h.env t _ hl
   unfold entryOk at this
   rw [Ae (by simpa using ho)] at this
   exact this
 | const v=>exact QJ ho
 | func f=>exact .clo rfl (fun i b=>absurd b (by simp))
 | global g=>exact ho.elim
theorem R.val_inv {v u:Value} (h:R w0 M w v (.val u)):v=u∧IV u=true:=by cases h;exact ⟨rfl,‹_›⟩
theorem R.plain {v:Value} {x:AV} (h:R w0 M w v x) (hp:GV x=true):v=IJ x∧IV (IJ x)=true∧x = .val (IJ x):=by
 cases x with
 | val u=>obtain ⟨rfl,a⟩:=h.val_inv;exact ⟨rfl,a,rfl⟩
 | _=>cases hp
theorem R.int {v:Value} {x:AV} (h:R w0 M w v x) (hp:EJ x=true):v = .int (Kp x) (AO x)∧x = .val (.int (Kp x) (AO x)):=by
 cases x with
 | val u =>
  obtain ⟨rfl,a⟩:=h.val_inv
  cases v<;>first | exact ⟨rfl,rfl⟩ | cases hp
 | _=>cases hp
theorem R.bool {v:Value} {x:AV} (h:R w0 M w v x) (hp:VY x=true):v = .bool (JY x)∧x = .val (.bool (JY x)):=by
 cases x with
 | val u =>
  obtain ⟨rfl,a⟩:=h.val_inv
  cases v<;>first | exact ⟨rfl,rfl⟩ | cases hp
 | _=>cases hp
def Yields' (P:Program) (w0:World) (M:Mem) (st':St) (r:AV) (w:World) (s:Sem Next):Prop :=
 ∃ v w' M',(s.run P w = .ok (.value v) w'∨(s.run P w = .ok .skip w'∧v=undef))∧Ext w0 M w M' w'∧RelSt w0 M' st' w'∧R w0 M' w' v r
theorem LN (hst:RelSt w0 M st w) {s:Sem Next} {v:Value} {r:AV} (hs:s.run P w = .ok (.value v) w) (hr:R w0 M w v r):Yields' P w0 M st r w s :=
 ⟨v,w,M,.inl hs,Ext.refl _ _ _,hst,hr⟩
theorem MJ {k:IntKind} {m:Int} (h:inK k m):k.wrap m=m:=by
 cases k<;>simp only [inK] at h<;>simp only [IntKind.wrap,IntKind.signed,IntKind.bits]<;>simp<;>omega
theorem Qc (x y:ByteArray):(x.toList == y.toList)=DR x y:=by
 unfold DR
 rw [Lib.toList_data,Lib.toList_data]
theorem ZV {op:BinOp} {x y:Value} {t:TypeId} {X Y:Operand} (h:(evBin op x y).1) :
  (do eqGuard op t X Y x y;binOp op t x y:Sem Value).run P w = .ok (evBin op x y).2 w:=by
 unfold evBin at h ⊢
 split at h<;>simp only at h ⊢ <;> try exact h.elim
 case h_1 k a k' b=>obtain ⟨rfl,h⟩:=h;simp [eqGuard,binOp,Op.intArith,MJ h]
 case h_2 k a k' b=>obtain ⟨rfl,h⟩:=h;simp [eqGuard,binOp,Op.intArith,MJ h]
 case h_3 k a k' b=>obtain ⟨rfl,h⟩:=h;simp [eqGuard,binOp,Op.intArith,MJ h]
 case h_4 k a k' b =>
  obtain ⟨rfl,c,h⟩:=h
  simp [eqGuard,binOp,Op.intDiv,c,MJ h]
 case h_5 k a k' b =>
  obtain ⟨rfl,c⟩:=h
  simp [eqGuard,binOp,Op.intDiv,c]
 case h_6 k a k' b=>subst h;simp [eqGuard,binOp,Op.intCmp];rfl
 case h_7 k a k' b=>subst h;simp [eqGuard,binOp,Op.intCmp];rfl
 case h_8 k a k' b=>subst h;simp [eqGuard,binOp,Op.intCmp]
 case h_9 k a k' b=>subst h;simp [eqGuard,binOp,Op.intCmp]
 case h_10 k a k' b=>subst h;simp [eqGuard,binOp,Op.intCmp]
 case h_11 k a k' b=>subst h;simp [eqGuard,binOp,Op.intCmp]
 case h_12 x y =>
  have e:¬ (((x.size+y.size:Nat):Int) > IntKind.i64.max):=by simp [IntKind.max,IntKind.signed,IntKind.bits];omega
  simp only [eqGuard,binOp,Op.stringOp,Af e]
  simp
 case h_13 x y=>simp [eqGuard,binOp,Op.stringOp,Qc]
 case h_14 x y=>simp [eqGuard,binOp,Op.stringOp,Qc]
 case h_15 x y=>simp [eqGuard,binOp,Op.stringOp,Lib.toList_data,WL]
 case h_16 x y=>simp [eqGuard,binOp,Op.stringOp,Lib.toList_data,WL,DR]
 case h_17 x y=>simp [eqGuard,binOp,Op.stringOp,Lib.toList_data,WL,DR]
 case h_18 x y=>simp [eqGuard,binOp,Op.stringOp,Lib.toList_data,WL]
 case h_19 k a k' b =>
  obtain ⟨rfl,h⟩:=h
  have e:Nat.min (Int.toNat 1) k.bits=1:=by cases k<;>rfl
  have d:min (Int.toNat 1) k.bits=1:=by cases k<;>rfl
  simp only [eqGuard,binOp,Op.shift,e,d]
  simp [Int.fdiv_eq_ediv_of_nonneg]
section
theorem XG {d:Nat} {t:TypeId} {u v:Value} (h:K0 P t (.val u) (.val v)):(Op.equalIn (d+1) t u v).run P w = .ok (eqCell (.val u) (.val v)) w:=by
 unfold K0 at h
 split at h
 ·rename_i k a k' b e1 e2
  cases e1;cases e2
  obtain ⟨h1,rfl⟩:=h
  unfold NZ at h1
  split at h1
  ·rename_i k1 hk
   rw [run_equalIn_int w d t _ k1 a b hk];rfl
  ·cases h1
 ·rename_i a b e1 e2
  cases e1;cases e2
  unfold EG at h
  split at h
  ·rename_i hk
   rw [run_equalIn_string w d t a b hk,Qc];rfl
  ·cases h
 ·rename_i a b e1 e2
  cases e1;cases e2
  unfold Na at h
  split at h
  ·rename_i hk
   rw [run_equalIn_bool' w d t a b hk];rfl
  ·cases h
 ·exact h.elim
theorem Yc {t:TypeId} {x y:AV} (h:K0 P t x y):∃ u v,x = .val u∧y = .val v:=by
 unfold K0 at h
 split at h
 ·exact ⟨_,_,rfl,rfl⟩
 ·exact ⟨_,_,rfl,rfl⟩
 ·exact ⟨_,_,rfl,rfl⟩
 ·exact h.elim
theorem ZT {t:TypeId} (ht:IX P t=some (1,false)) {cs:Array Value} {i:Nat} {v:Value} (h:cs[i]? = some v):(part t cs i).run P w = .ok v w:=by
 obtain ⟨c,d,e,f,a,h4⟩:=M4 ht
 have b:(isAgg t).run P w = .ok false w:=by
  simp only [isAgg,Sem.run_bind,run_underlying a,Result.andThen_ok]
  cases d<;>first | (cases h4;done) | rfl | (cases h4;rfl)
 simp [part,b,h]
theorem Lc (d:Nat) {cs ds:Array Value}:∀ (fs:List Field) (i:Nat) (xs ys:List AV),Yn P fs i xs ys→(∀ j v,xs[j]? = some (.val v)→cs[i+j]? = some v)→(∀ j v,ys[j]? = some (.val v)→ds[i+j]? = some v) →
  (Op.eqFields (d+1) cs ds fs).run P w = .ok (OA xs ys) w
 | [],_,[],[],_,_,_=>by simp [Op.eqFields,OA]
 | f::fs,i,x::xs,y::ys,h,hx,hy=>by
  obtain ⟨k,rfl,b,c,l⟩:=h
  obtain ⟨u,v,rfl,rfl⟩:=Yc c
  have g:=ZT (w:=w) b (hx 0 u rfl)
  have e:=ZT (w:=w) b (hy 0 v rfl)
  simp only [Nat.add_zero] at g e
  have ih:=Lc d fs _ xs ys l (fun j v a=>by rw [Nat.add_assoc,Nat.add_comm 1 j];exact hx (j+1) v a) (fun j v a=>by rw [Nat.add_assoc,Nat.add_comm 1 j];exact hy (j+1) v a)
  simp only [Op.eqFields,Ae k,Sem.run_bind,g,e,Result.andThen_ok,XG c,OA]
  cases hc:eqCell (.val u) (.val v)
  ·simp
  ·simp [ih]
 | [],_,[],_::_,h,_,_=>h.elim
 | [],_,_::_,_,h,_,_=>h.elim
 | _::_,_,[],_,h,_,_=>h.elim
 | _::_,_,_::_,[],h,_,_=>h.elim
theorem Zcj {op:BinOp} {t:TypeId} {cs ds:Array Value} {xs ys:List AV} {X Y:Operand} (h:(Ox P op t xs ys).1) (hx:∀ (j:Nat) (v:Value),xs[j]? = some (.val v)→cs[j]? = some v) (hy:∀ (j:Nat) (v:Value),ys[j]? = some (.val v)→ds[j]? = some v) :
  (do eqGuard op t X Y (.agg cs) (.agg ds);binOp op t (.agg cs) (.agg ds):Sem Value).run P w = .ok (.bool (Ox P op t xs ys).2) w:=by
 unfold Ox at h ⊢
 unfold eqT at h ⊢
 cases hu:P.underlying t with
 | none=>rw [hu] at h;exact h.elim
 | some d =>
  cases d<;>(try (rw [hu] at h;exact h.elim))
  rename_i fs
  rw [hu] at h
  simp only at h ⊢
  by_cases hc:P.stoodInHeld t=false∧P.eqGuardType P.depth t=false
  ·rw [Ae hc] at h ⊢
   have c:P.fieldsOf t=fs:=by unfold Program.fieldsOf;rw [hu]
   have b:P.underlying t=some (.struct (P.fieldsOf t)):=by rw [c];exact hu
   cases op<;>simp only at h ⊢ <;> (try exact h.elim)
   ·have:=Lc (P:=P) (w:=w) 9998 fs.toList 0 xs ys h (fun j v a=>by rw [Nat.zero_add];exact hx j v a) (fun j v a=>by rw [Nat.zero_add];exact hy j v a)
    simp only [Sem.run_bind,run_eqGuard_agg w _ t X Y cs ds hc.2,Result.andThen_ok,run_eql_struct,run_equalIn_agg w 9999 t cs ds b hc.1,c,this]
   ·have:=Lc (P:=P) (w:=w) 9998 fs.toList 0 xs ys h (fun j v a=>by rw [Nat.zero_add];exact hx j v a) (fun j v a=>by rw [Nat.zero_add];exact hy j v a)
    simp only [Sem.run_bind,run_eqGuard_agg w _ t X Y cs ds hc.2,Result.andThen_ok,run_neq_struct,run_equalIn_agg w 9999 t cs ds b hc.1,c,this]
  ·rw [Af hc] at h;exact h.elim
end
theorem R.aggC {w0:World} {M:Mem} {w:World} {v:Value} {x:AV} (h:R w0 M w v x) (hx:GN x=true):∃ cs,v = .agg cs∧∀ (j:Nat) (u:Value),(M8 x)[j]? = some (.val u)→cs[j]? = some u:=by
 cases h with
 | @agg cs xs hl h1 h =>
  refine ⟨cs,rfl,fun j u e=>?_⟩
  replace e:xs[j]? = some (.val u):=e
  obtain ⟨b,d⟩:=Ag.1 e
  have hr:=h j (by omega) b
  have a:xs[j]'b = .val u:=d
  rw [a] at hr
  have c:j<cs.size:=by omega
  rw [Array.getElem?_eq_getElem c]
  generalize cs[j]=q at hr
  cases hr
  rfl
 | _=>cases hx
theorem ZaA {op:BinOp} {x y:Value} (h:(evBin op x y).1):IV (evBin op x y).2=true:=by
 unfold evBin at h ⊢
 split at h<;>simp only at h ⊢ <;> try first | exact h.elim | rfl
 rename_i x y
 have e:(x++y).size=x.size+y.size:=ByteArray.size_append
 simp only [IV,maxLen,e]
 simp
 omega
theorem Zai {op:UnOp} {x:Value} (h:(evUn op x).1):(Op.unary op x).run P w = .ok (evUn op x).2 w:=by
 unfold evUn at h ⊢
 split at h<;>simp only at h ⊢ <;> try exact h.elim
 ·simp [Op.unary]
 ·have e:=MJ h
  simp only [Op.unary,Op.intArith,e]
  rfl
theorem Zcz {op:UnOp} {x:Value} (h:(evUn op x).1):IV (evUn op x).2=true:=by
 unfold evUn at h ⊢
 split at h<;>simp only at h ⊢ <;> first | exact h.elim | rfl
theorem E4 (b o j:Nat):(⟨b,o,none⟩:Addr).add j=⟨b,o+j,none⟩:=by
 unfold Addr.add
 split
 ·subst j;rfl
 ·rfl
theorem Ht {rows:List RowA} {id ver sz:Nat} {cs:List AV} (h:EW rows id ver=some (sz,cs)):rows[id]? = some (.vec ver sz cs):=by
 unfold EW at h
 split at h
 ·rename_i v s c he
  split at h
  ·rename_i hv;cases h;rw [he,hv]
  ·cases h
 ·cases h
theorem SJ {rows:List RowA} {id ver:Nat} (h:(EW rows id ver).isSome=true):∃ sz cs,EW rows id ver=some (sz,cs):=by
 obtain ⟨⟨a,b⟩,h⟩:=Option.isSome_iff_exists.1 h
 exact ⟨a,b,h⟩
theorem ZL (hst:RelSt w0 M st w) {v:Value} {x:AV} (h:R w0 M w v x) (hr:DI st x=true) :
  ∃ b o,v = .pointer (some ⟨b,o+ET x,none⟩)∧(∀ c∈Br st x,c.one=true)∧∀ j (hj:j<(Br st x).length),∃ u,w.cell? ⟨b,o+j,none⟩=some u∧R w0 M w u (Br st x)[j]:=by
 cases x with
 | box l off =>
  cases h with
  | box hl =>
   have p:l<st.boxes.length:=by simpa [DI] using hr
   obtain ⟨cs,d⟩:∃ cs,st.boxes[l]? = some cs:=⟨_,List.getElem?_eq_getElem p⟩
   obtain ⟨_,_,c,m,q,r,s,n⟩:=hst.box l cs d
   have e:Br st (.box l off)=cs:=by simp [Br,List.getD,d]
   refine ⟨M.bx l,0,by simp [ET],by rw [e];exact s,fun j hj=>?_⟩
   simp only [e] at hj ⊢
   refine ⟨c[j]'(by omega),?_,n j (by omega) hj⟩
   rw [Nat.zero_add,cell_of_row w _ j c m _ q]
   exact Array.getElem?_eq_getElem (by omega)
 | elem y k =>
  cases h with
  | @elem b off x u k hcell hu =>
   obtain ⟨hs,n⟩:=hu.cells
   refine ⟨b,off,rfl,?_,fun j hj=>?_⟩
   ·refine hu.cellsOne (fun vs hv=>?_)
    subst hv
    simp [DI] at hr
   ·have f:j<u.cells.size:=by rw [hs];exact hj
    refine ⟨u.cells[j],?_,n j f hj⟩
    rw [(hcell j f).2]
    exact Array.getElem?_eq_getElem f
 | vel id ver off =>
  cases h with
  | @vel _ _ _ a hi hv hh =>
   obtain ⟨sz,cs,d⟩:=SJ (show (EW st.rows id ver).isSome=true from hr)
   obtain ⟨t,G,J,E,K,F,D,c,m,C,H,z,i,g⟩:=hst.row id _ (Ht d)
   have e:Br st (.vel id ver off)=cs:=by simp [Br,d]
   refine ⟨M.blk id,0,by rw [hh t.symm];simp [ET],by rw [e];exact i,fun j hj=>?_⟩
   simp only [e] at hj ⊢
   refine ⟨c[j]'(by omega),?_,g j (by omega) hj⟩
   rw [Nat.zero_add,cell_of_row w _ j c m _ C]
   exact Array.getElem?_eq_getElem (by omega)
 | _=>cases hr
theorem Yields'.value {s:Sem Value} {st':St} {r:AV} (h:∃ v w' M',s.run P w = .ok v w'∧Ext w0 M w M' w'∧RelSt w0 M' st' w'∧R w0 M' w' v r) :
  Yields' P w0 M st' r w (do pure (.value (← s))):=by
 obtain ⟨v,w',M',hs,a,b,c⟩:=h
 exact ⟨v,w',M',.inl (by simp [hs]),a,b,c⟩
theorem Yields'.here (hst:RelSt w0 M st w) {s:Sem Value} {v:Value} {r:AV} (hs:s.run P w = .ok v w) (hr:R w0 M w v r) :
  Yields' P w0 M st r w (do pure (.value (← s))) := .value ⟨v,w,M,hs,Ext.refl _ _ _,hst,hr⟩
theorem ZaP {t:TypeId} (h:Na P t=true):P.underlying t=some .bool:=by
 unfold Na at h
 split at h
 ·assumption
 ·cases h
theorem ZeA {op:BinOp} {a b:Bool} {t:TypeId} {X Y:Operand} (ht:Na P t=true) (h:(evBB op a b).1):(do eqGuard op t X Y (.bool a) (.bool b);binOp op t (.bool a) (.bool b):Sem Value).run P w = .ok (.bool (evBB op a b).2) w:=by
 have c:=ZaP ht
 cases op<;>try exact h.elim
 ·simp [eqGuard,binOp,run_equal_bool w t a b c,evBB]
 ·simp [eqGuard,binOp,run_equal_bool w t a b c,evBB];cases a<;>cases b<;>rfl
theorem Zee (h:Rel w0 n M e st a w) (op:BinOp) (t:TypeId) (x y:Operand) (u:TypeId) (hob:(Bi P e true st (.binOp op t x y u)).1) :
  Yields' P w0 M (Bi P e true st (.binOp op t x y u)).2.2 (Bi P e true st (.binOp op t x y u)).2.1 w (do pure (.value (← (do eqGuard op t x y (a.eval x) (a.eval y);binOp op t (a.eval x) (a.eval y))))):=by
 simp only [Bi] at hob ⊢
 by_cases hc:(VY (Ar e x)&&VY (Ar e y))=true
 ·rw [Ae hc] at hob ⊢
  simp only [Bool.and_eq_true] at hc
  obtain ⟨f,d,l,b⟩:=hob
  obtain ⟨g,_⟩:=(Bj h f).bool hc.1
  obtain ⟨c,_⟩:=(Bj h d).bool hc.2
  rw [g,c]
  exact .here h.st (ZeA l b) (.flat rfl)
 ·rw [Af hc] at hob ⊢
  by_cases hg:(GN (Ar e x)&&GN (Ar e y))=true
  ·rw [Ae hg] at hob ⊢
   simp only [Bool.and_eq_true] at hg
   obtain ⟨f,d,b⟩:=hob
   obtain ⟨cs,g,i⟩:=(Bj h f).aggC hg.1
   obtain ⟨m,c,j⟩:=(Bj h d).aggC hg.2
   rw [g,c]
   exact .here h.st (Zcj b i j) (.flat rfl)
  rw [Af hg] at hob ⊢
  obtain ⟨f,d,px,k,b⟩:=hob
  obtain ⟨g,_,_⟩:=(Bj h f).plain px
  obtain ⟨c,_,_⟩:=(Bj h d).plain k
  rw [g,c]
  exact .here h.st (ZV b) (.flat (ZaA b))
theorem Zgh (h:Rel w0 n M e st a w) (op:UnOp) (t:TypeId) (x:Operand) (hob:(Bi P e true st (.unOp op t x)).1) :
  Yields' P w0 M st (.val (evUn op (IJ (Ar e x))).2) w (do pure (.value (← Op.unary op (a.eval x)))):=by
 obtain ⟨c,px,b⟩:=hob
 obtain ⟨d,_,_⟩:=(Bj h c).plain px
 rw [d]
 exact .here h.st (Zai b) (.flat (Zcz b))
theorem ZkK {t:Bool} {u v:Value} {x y:AV} (hx:t=true→R w0 M w u x) (hy:t=false→R w0 M w v y):R w0 M w (if t then u else v) (AV.sel t x y):=by
 have b:AV.sel false x y=y:=by unfold AV.sel;split<;>rfl
 have a:AV.sel true x y=x:=by unfold AV.sel;split<;>rfl
 cases t
 ·rw [b];exact hy rfl
 ·rw [a];exact hx rfl
theorem Zgr (h:Rel w0 n M e st a w) (b x y:Operand) (hob:(Bi P e true st (.pick b x y)).1) :
  Yields' P w0 M st (AV.sel (JY (Ar e b)) (Ar e x) (Ar e y)) w (do pure (.value (if ← asBool (a.eval b) then a.eval x else a.eval y))):=by
 obtain ⟨g,c,f,d⟩:=hob
 obtain ⟨i,_⟩:=(Bj h g).bool c
 refine LN h.st (v:=if JY (Ar e b) then a.eval x else a.eval y) ?_ (ZkK (fun q=>Bj h (f rfl q)) (fun q=>Bj h (d rfl q)))
 rw [i]
 simp [asBool]
theorem QP {t:TypeId} {sz:Nat} {ag:Bool} (ht:IX P t=some (sz,ag)) {b o:Nat} {f:Nat→Value} (hc:∀ j,j<sz→w.cell? ⟨b,o+j,none⟩=some (f j)) (h1:ag=true∨sz=1) :
  (loadVar t ⟨b,o,none⟩).run P w = .ok (if ag then .agg ((List.range sz).map f).toArray else f 0) w:=by
 unfold loadVar
 rw [Sem.run_bind,Ue ht]
 cases ag with
 | true =>
  simp only [Result.andThen_ok,if_true,Sem.run_bind,BS ht,run_loadCells w ⟨b,o,none⟩ sz f (fun j a=>by rw [E4];exact hc j a)]
  rfl
 | false =>
  have:sz=1:=by simpa using h1
  subst this
  have:=hc 0 (by omega)
  simp only [Nat.add_zero] at this
  simp [this]
theorem Q9 {cs:List AV} {f:Nat→Value} {o sz:Nat} {ag:Bool} (h1:∀ c∈cs,c.one=true) (ho:o+sz≤cs.length) (hs:ag=true∨sz=1)
  (hR:∀ j (hj:o+j<cs.length),R w0 M w (f j) cs[o+j]):R w0 M w (if ag then .agg ((List.range sz).map f).toArray else f 0) (PV ag cs o sz):=by
 unfold PV
 cases ag with
 | true =>
  simp only [if_true]
  refine .agg (by simp;omega) (fun x a=>h1 x (List.mem_of_mem_drop (List.mem_of_mem_take a))) (fun i a1 a2=>?_)
  simp only [List.getElem_take,List.getElem_drop,List.getElem_toArray,List.getElem_map,List.getElem_range]
  exact hR i (by simp at a1;omega)
 | false =>
  have:sz=1:=by simpa using hs
  subst this
  have:=hR 0 (by omega)
  simp only [Nat.add_zero] at this
  simpa [Yx,List.getD,List.getElem?_eq_getElem (show o<cs.length by omega)] using this
theorem Zf5 (h:Rel w0 n M e st a w) (t:TypeId) (x:Operand) (hob:(Bi P e true st (.load t x)).1) :
  Yields' P w0 M st (Bi P e true st (.load t x)).2.1 w (do pure (.value (← Instr.loadAt t (a.eval x)))):=by
 unfold Bi at hob ⊢
 cases ht:IX P t with
 | none=>simp [ht] at hob
 | some p =>
  obtain ⟨sz,r⟩:=p
  simp only [ht] at hob ⊢
  obtain ⟨y,D,k,q⟩:=hob
  obtain ⟨b,o,ev,d,m⟩:=ZL h.st (Bj h y) D
  rw [ev]
  have g:∀ j,j<sz→∃ u,w.cell? ⟨b,o+ET (Ar e x)+j,none⟩=some u∧∀ c,R w0 M w u ((Br st (Ar e x))[ET (Ar e x)+j]'c):=by
   intro j c
   obtain ⟨u,z,s⟩:=m (ET (Ar e x)+j) (by omega)
   exact ⟨u,by rw [←z,Nat.add_assoc],fun _=>s⟩
  let f:Nat→Value:=fun j=>((w.cell? ⟨b,o+ET (Ar e x)+j,none⟩).getD undef)
  have C:∀ j,j<sz→w.cell? ⟨b,o+ET (Ar e x)+j,none⟩=some (f j):=fun j c=>by
   obtain ⟨u,i,_⟩:=g j c
   simp [f,i]
  refine .here h.st (v:=if r then .agg ((List.range sz).map f).toArray else f 0) ?_ (Q9 d k q (fun j c=>?_))
  ·simp only [Instr.loadAt,Instr.sureAddr,Sem.run_bind,Sem.run_pure,Result.andThen_ok]
   exact QP ht C q
  ·by_cases hjs:j<sz
   ·obtain ⟨u,i,l⟩:=g j hjs
    have:f j=u:=by simp [f,i]
    rw [this]
    exact l c
   ·obtain ⟨u,i,l⟩:=m (ET (Ar e x)+j) c
    have:f j=u:=by simp [f,Nat.add_assoc,i]
    rw [this]
    exact l
theorem Su (hst:RelSt w0 M st w) {v:Value} {x:AV} (h:R w0 M w v x) (hr:DI st x=true):∃ b o,v = .pointer (some ⟨b,o,none⟩)∧∀ k,R w0 M w (.pointer (some ⟨b,o+k,none⟩)) (RG x k):=by
 cases x with
 | box l off=>cases h with | box hl=>exact ⟨_,_,rfl,fun k => .box hl⟩
 | elem y k =>
  cases h with
  | @elem b off x u k hcell hu=>exact ⟨_,_,rfl,fun d=>by rw [Nat.add_assoc];exact .elem u (k+d) hcell hu⟩
 | vel id ver off =>
  cases h with
  | @vel _ _ _ a hi hv hh =>
   obtain ⟨sz,cs,c⟩:=SJ (show (EW st.rows id ver).isSome=true from hr)
   have e:=(hst.row id _ (Ht c)).1
   have f:=hh e.symm
   exact ⟨M.blk id,off,by rw [f],fun k => .vel hi hv fun _=>rfl⟩
 | _=>cases hr
theorem Zg (h:Rel w0 n M e st a w) (o:Oper) (x:Operand) (ho:o.op = .nilCheck x) (hob:(Bi P e true st (.nilCheck x)).1) :
  Yields' P w0 M st (Ar e x) w (execOp a.eval o):=by
 obtain ⟨c,d⟩:=hob
 obtain ⟨b,f,ev,_⟩:=Su h.st (Bj h c) d
 refine LN h.st (v:=a.eval x) ?_ (Bj h c)
 simp only [execOp,ho,ev]
 rfl
theorem ZZ (h:Rel w0 n M e st a w) (f:FuncId) (fi cap:Array Operand) (hob:(Bi P e true st (.makeFunc (.func f) fi cap)).1) :
  Yields' P w0 M st (.clo f (cap.toList.map (Ar e))) w (do pure (.value (← Instr.makeFunc (.func f) (fi.map a.eval) (cap.map a.eval)))):=by
 obtain ⟨b,c⟩:=hob
 refine .here h.st (v := .func (.func f) (fi.map a.eval) (cap.map a.eval)) rfl ?_
 have:fi.map a.eval = #[]:=by simp [Array.size_eq_zero_iff.1 b]
 rw [this]
 refine .clo (by simp) (fun i d g=>?_)
 simp only [Array.getElem_map,List.getElem_map,Array.getElem_toList]
 exact Bj h (c _ (by simp))
theorem XY (h:Rel w0 n M e st a w) (t:TypeId) (x:Operand) (f:Nat) (hob:(Bi P e true st (.fieldAddr t x f)).1) :
  Yields' P w0 M (Bi P e true st (.fieldAddr t x f)).2.2 (Bi P e true st (.fieldAddr t x f)).2.1 w (do pure (.value (← Instr.fieldAt t (a.eval x) f))):=by
 unfold Bi at hob ⊢
 cases hf:Fh P t f with
 | none=>simp [hf] at hob
 | some p =>
  obtain ⟨o,sz,s⟩:=p
  simp only [hf] at hob ⊢
  obtain ⟨j,q,r⟩:=hob
  obtain ⟨u,y,k,l,g,i⟩:=WW hf
  obtain ⟨b,m,ev,d⟩:=Su h.st (Bj h j) q
  refine .here h.st (v := .pointer (some ⟨b,m+o,none⟩)) ?_ (d o)
  rw [ev]
  have c:¬ sz=0:=by omega
  simp [Instr.fieldAt,run_underlying k,l,Instr.sureAddr,fieldPlace,g,E4,BS i,c]
theorem Xh {t:TypeId} {sz:Nat} {ag:Bool} (ht:IX P t=some (sz,ag)) {cs:Array Value} {o:Nat} (ho:o+sz≤cs.size) (h1:ag=true∨sz=1) :
  (part t cs o).run P w = .ok (if ag then .agg ((List.range sz).map fun j=>cs.getD (o+j) undef).toArray else cs.getD o undef) w:=by
 unfold part
 rw [Sem.run_bind,Ue ht]
 cases ag with
 | true =>
  simp only [Result.andThen_ok,if_true,Sem.run_bind,BS ht,Sem.run_pure]
  congr 2
  apply Array.ext
  ·simp;omega
  ·intro i h1 b
   simp at h1 b
   simp [show o+i<cs.size by omega]
 | false =>
  have:sz=1:=by simpa using h1
  subst this
  have a:o<cs.size:=by omega
  simp [a]
theorem R.agg_inv {v:Value} {x:AV} (h:R w0 M w v x) (ha:GN x=true):∃ cs,v = .agg cs∧cs.size=x.cells.length∧(∀ y∈x.cells,y.one=true)∧∀ j (hj:j<x.cells.length),R w0 M w (cs.getD j undef) x.cells[j]:=by
 cases x with
 | agg xs =>
  cases h with
  | agg hl h1 hR =>
   rename_i cs
   refine ⟨cs,rfl,hl,h1,fun j hj=>?_⟩
   have a:j<cs.size:=by rw [hl];exact hj
   have e:cs.getD j undef=cs[j]:=by simp [a]
   rw [e]
   exact hR j a hj
 | _=>cases ha
theorem ZdT (h:Rel w0 n M e st a w) (t:TypeId) (x:Operand) (f:Nat) (hob:(Bi P e true st (.field t x f)).1) :
  Yields' P w0 M (Bi P e true st (.field t x f)).2.2 (Bi P e true st (.field t x f)).2.1 w (do pure (.value (← Instr.field t (a.eval x) f))):=by
 unfold Bi at hob ⊢
 cases hf:Fh P t f with
 | none=>simp [hf] at hob
 | some p =>
  obtain ⟨o,sz,g⟩:=p
  simp only [hf] at hob ⊢
  obtain ⟨k,r,c,hs⟩:=hob
  obtain ⟨u,y,m,q,h3,i⟩:=WW hf
  obtain ⟨cs,ev,s,b,d⟩:=(Bj h k).agg_inv r
  rw [ev]
  refine .here h.st (v:=if g then .agg ((List.range sz).map fun j=>cs.getD (o+j) undef).toArray else cs.getD o undef) ?_ (Q9 (f:=fun j=>cs.getD (o+j) undef) b c hs (fun j l=>d _ l))
  subst h3
  simp [Instr.field,run_underlying m,q,asAgg,Xh (w:=w) i (cs:=cs) (o:=y.offset) (by omega) hs]
theorem R.list_inv {v:Value} {x:AV} (h:R w0 M w v x) (hl:Ce x=true) :
  (∃ a cap,v = .slice a (A4 x).length cap∧(a=none→A4 x=[]∧cap=0)∧(A4 x).length≤cap∧cap≤maxLen):=by
 cases x with
 | list xs o =>
  cases h with
  | nil ho=>exact ⟨none,0,rfl,fun _=>⟨rfl,rfl⟩,Nat.zero_le _,by simp [maxLen]⟩
  | emp ho=>exact ⟨_,0,rfl,fun e=>(by cases e),Nat.zero_le _,by simp [maxLen]⟩
  | list sz us hc hm hcell hu ho=>exact ⟨_,_,rfl,fun e=>(by cases e),hc,hm⟩
 | _=>cases hl
theorem R.list_elem {v:Value} {xs:List AV} {o:Own} (h:R w0 M w v (.list xs o)) {i:Nat} (hi:i<xs.length) {sz:Nat} (hsz:xs[i].cells.length=sz) :
  ∃ b off cap,v = .slice (some ⟨b,off,none⟩) xs.length cap∧R w0 M w (.pointer (some ⟨b,off+i*sz,none⟩)) (.elem xs[i] 0):=by
 cases h with
 | nil ho=>exact absurd hi (by simp)
 | emp ho=>exact absurd hi (by simp)
 | @list b off cap _ _ sz' us hc hm hcell hu ho =>
  obtain ⟨a,c⟩:=hcell i hi
  have e:sz'=sz:=by rw [←a,(hu i hi).cells.1,hsz]
  subst e
  exact ⟨b,off,cap,rfl,.elem (us i) 0 (fun j d=>c j (by omega)) (hu i hi)⟩
theorem Ib {x:AV} (h:Ce x=true):∃ xs o,x = .list xs o:=by
 cases x with
 | list xs o=>exact ⟨xs,o,rfl⟩
 | _=>cases h
theorem Zdb {l:List AV} {i:Nat} (h:i<l.length):Yx l i=l[i]:=by simp [Yx,List.getD,List.getElem?_eq_getElem h]
theorem XN (h:Rel w0 n M e st a w) (t:TypeId) (x i:Operand) (hob:(Bi P e true st (.indexAddr t x i)).1) :
  Yields' P w0 M (Bi P e true st (.indexAddr t x i)).2.2 (Bi P e true st (.indexAddr t x i)).2.1 w (do pure (.value (← Instr.indexAt t (a.eval x) (a.eval i)))):=by
 unfold Bi Uo at hob ⊢
 cases he:Kx P t with
 | some p =>
  obtain ⟨el,sz,J,N⟩:=p
  simp only [he] at hob ⊢
  split at hob
  ·rename_i id ver o n' hx0
   cases hvr:EW st.rows id ver with
   | none=>simp [hvr] at hob
   | some p =>
    obtain ⟨E,cs⟩:=p
    simp only [hvr] at hob ⊢
    obtain ⟨s,u,c,r,z,rfl⟩:=hob
    obtain ⟨g,y,_,_,f⟩:=G5 he
    obtain ⟨j,_⟩:=(Bj h u).int c
    have hR:=Bj h s
    rw [hx0] at hR
    generalize AO (Ar e i)=m at *
    obtain ⟨k,rfl⟩:=Int.eq_ofNat_of_zero_le r
    have l:k<n':=by omega
    generalize hev:a.eval x=v at hR
    cases hR with
    | @vec _ _ _ _ p C hid hv hh =>
     obtain ⟨U,K,_⟩:=h.st.row id _ (Ht hvr)
     obtain ⟨rfl,G,Z⟩:=hh U.symm
     refine .here h.st (v := .pointer (some ⟨M.blk id,o*M.rsz id+k*E,none⟩)) ?_ ?_
     ·rw [j]
      simp [Instr.indexAt,asIntOf,run_underlying y,BS f,E4]
      omega
     ·refine .vel hid hv fun _=>?_
      rw [K,Int.toNat_natCast,Nat.add_mul]
  rename_i hx0
  obtain ⟨s,u,O,c,r,z,d⟩:=hob
  obtain ⟨g,y,_,_,f⟩:=G5 he
  obtain ⟨j,_⟩:=(Bj h u).int c
  have hR:=Bj h s
  obtain ⟨xs,o,F⟩:=Ib O
  rw [F] at hR z d ⊢
  simp only [A4] at z d ⊢
  generalize AO (Ar e i)=m at *
  obtain ⟨k,rfl⟩:=Int.eq_ofNat_of_zero_le r
  have l:k<xs.length:=by omega
  simp only [Int.toNat_natCast] at d ⊢
  rw [Zdb l] at d ⊢
  obtain ⟨b,D,C,ev,H⟩:=hR.list_elem l d
  refine .here h.st (v := .pointer (some ⟨b,D+k*sz,none⟩)) ?_ H
  rw [ev,j]
  simp [Instr.indexAt,asIntOf,run_underlying y,BS f,E4]
  omega
 | none =>
  simp only [he] at hob ⊢
  cases ha:Gh P t with
  | none=>simp [ha] at hob
  | some p =>
   obtain ⟨m,sz,J⟩:=p
   simp only [ha] at hob ⊢
   obtain ⟨s,u,Q,c,r,z⟩:=hob
   obtain ⟨el,y,f⟩:=Ry ha
   obtain ⟨j,_⟩:=(Bj h u).int c
   obtain ⟨b,V,ev,l⟩:=Su h.st (Bj h s) Q
   generalize AO (Ar e i)=q at *
   obtain ⟨k,rfl⟩:=Int.eq_ofNat_of_zero_le r
   have Y:k<m:=by omega
   refine .here h.st (v := .pointer (some ⟨b,V+k*sz,none⟩)) ?_ (by simpa using l (k*sz))
   rw [ev,j]
   simp [Instr.indexAt,asIntOf,run_underlying y,BS f,Instr.sureAddr,E4]
   omega
theorem getElem?_get! (s:ByteArray) (k:Nat) (hk:k<s.size):s[k]? = some (s.get! k):=by
 rw [getElem?_pos s k hk]
 congr 1
 simp only [ByteArray.get!]
 have:k<s.data.size:=hk
 rw [getElem!_pos s.data k this]
 rfl
theorem Zeb (h:Rel w0 n M e st a w) (t:TypeId) (x i:Operand) (hob:(Bi P e true st (.index t x i)).1) :
  Yields' P w0 M (Bi P e true st (.index t x i)).2.2 (Bi P e true st (.index t x i)).2.1 w (do pure (.value (← Instr.index t (a.eval x) (a.eval i)))):=by
 unfold Bi Uo at hob ⊢
 simp only at hob ⊢
 split at hob
 ·rename_i s hx0
  obtain ⟨hs,D,E,d,C,J⟩:=hob
  obtain ⟨y,_⟩:=(Bj h E).int d
  have o:=Bj h D
  rw [hx0] at o
  obtain ⟨ev,_⟩:=o.val_inv
  generalize AO (Ar e i)=q at *
  obtain ⟨k,rfl⟩:=Int.eq_ofNat_of_zero_le C
  have z:k<s.size:=by omega
  refine .here h.st (v := .int .u8 (s.get! k).toNat) ?_ (.flat rfl)
  rw [ev,y]
  have K:s[k]? = some (s.get! k):=getElem?_get! s k z
  simp [Instr.index,asIntOf,run_underlying (FO hs),K]
 ·rename_i cs hx0
  cases ha:Gh P t with
  | none=>simp [ha] at hob
  | some p =>
   obtain ⟨m,sz,F⟩:=p
   simp only [ha] at hob ⊢
   obtain ⟨D,E,d,C,J,G,hs⟩:=hob
   obtain ⟨O,N,l⟩:=Ry ha
   obtain ⟨y,_⟩:=(Bj h E).int d
   have o:=Bj h D
   rw [hx0] at o
   obtain ⟨c,ev,r,b,u⟩:=o.agg_inv rfl
   simp only [AV.cells] at r b u
   generalize AO (Ar e i)=q at *
   obtain ⟨k,rfl⟩:=Int.eq_ofNat_of_zero_le C
   have z:k<m:=by omega
   have g:k*sz+sz≤cs.length:=by rw [G,←Nat.succ_mul];exact Nat.mul_le_mul_right _ z
   refine .here h.st (v:=if F then .agg ((List.range sz).map fun j=>c.getD (k*sz+j) undef).toArray else c.getD (k*sz) undef) ?_ ?_
   ·rw [ev,y]
    simp only [Instr.index,asIntOf,Sem.run_bind,Sem.run_pure,Result.andThen_ok,run_underlying N]
    rw [Ae ⟨by omega,by omega⟩]
    simp only [Sem.run_bind,BS l,Result.andThen_ok,Int.toNat_natCast]
    exact Xh l (by rw [r];exact g) hs
   ·simp only [Int.toNat_natCast]
    exact Q9 (f:=fun j=>c.getD (k*sz+j) undef) b g hs (fun j H=>u _ H)
 ·exact hob.elim
theorem Zaf (h:Rel w0 n M e st a w) (x:Operand) (i:Nat) (hob:(Bi P e true st (.extract x i)).1) :
  Yields' P w0 M (Bi P e true st (.extract x i)).2.2 (Bi P e true st (.extract x i)).2.1 w (do pure (.value (← Instr.extract (a.eval x) i))):=by
 unfold Bi Uo at hob ⊢
 simp only at hob ⊢
 split at hob
 ·rename_i vs hx0
  obtain ⟨c,b⟩:=hob
  have hR:=Bj h c
  rw [hx0] at hR
  generalize a.eval x=v at hR ⊢
  cases hR with
  | tup hl hR =>
   rename_i cs
   rw [Zdb b]
   refine .here h.st (v:=cs[i]'(by omega)) ?_ (hR i (by omega) b)
   simp [Instr.extract,show i<cs.size by omega]
 ·exact hob.elim
theorem ZhT (h:Rel w0 n M e st a w) (x:Operand) (t ty:TypeId) (hx:AU e true x) (hob:(SN P t (Ar e x)).1) :
  Yields' P w0 M st (SN P t (Ar e x)).2 w (do pure (.value (← Builtin.len_ #[t] ty #[a.eval x]))):=by
 have hR:=Bj h hx
 unfold SN at hob ⊢
 split at hob
 ·rename_i s hx0
  rw [hx0] at hR
  obtain ⟨ev,_⟩:=hR.val_inv
  refine .here h.st (v := .int .i64 s.size) ?_ (.flat rfl)
  rw [ev]
  simp [Builtin.len_,run_underlying (FO hob),goInt]
 ·rename_i xs o hx0
  rw [hx0] at hR
  obtain ⟨b,g,ev,_⟩:=hR.list_inv rfl
  simp only [A4] at ev
  obtain ⟨p,f⟩:=Option.isSome_iff_exists.1 hob
  obtain ⟨k,sz,j,c⟩:=p
  obtain ⟨i,d,_⟩:=G5 f
  refine .here h.st (v := .int .i64 xs.length) ?_ (.flat rfl)
  rw [ev]
  simp [Builtin.len_,run_underlying d,goInt]
 ·rename_i id ver o n' hx0
  rw [hx0] at hR
  obtain ⟨p,f⟩:=Option.isSome_iff_exists.1 hob
  obtain ⟨k,sz,j,c⟩:=p
  obtain ⟨i,d,_⟩:=G5 f
  generalize hev:a.eval x=v at hR
  cases hR with
  | @vec _ _ _ _ p g hid hv hh =>
   refine .here h.st (v := .int .i64 n') ?_ (.flat rfl)
   simp [Builtin.len_,run_underlying d,goInt]
 ·exact hob.elim
theorem EI {v:Value} {k:IntKind} {q:Nat} {y:Nat} {code:BoundsCode} (hv:v = .int k q) (h:q≤y) (w:World):(Instr.sliceBound v y code).run P w = .ok q w:=by
 subst hv
 simp [Instr.sliceBound,asIntOf]
 omega
theorem Qw (h:Rel w0 n M e st a w) (isl:Bool) (len cap:Nat) (hlc:len≤cap) {lo hi:Option Operand} (hlo:Of e true lo) (hhi:Of e true hi)
  {l u:Nat} (el:Dz e 0 lo=l) (eu:Dz e len hi=u) (h1:l≤u) (h2:u≤len) :
  (Instr.sliceBounds isl len cap (lo.map a.eval) (hi.map a.eval) none).run P w = .ok (l,u,cap) w:=by
 have H:∀ (y:Operand),(AU e true y∧EJ (Ar e y)=true)→∃ k,a.eval y = .int k (AO (Ar e y)):=fun y d=>⟨_,((Bj h d.1).int d.2).1⟩
 cases hi with
 | none =>
  simp only [Dz] at eu
  have eu':u=len:=by omega
  subst eu'
  cases lo with
  | none =>
   simp only [Dz] at el
   have el':l=0:=by omega
   subst el'
   simp [Instr.sliceBounds]
  | some y =>
   obtain ⟨k,b⟩:=H y hlo
   simp only [Dz] at el
   rw [el] at b
   simp [Instr.sliceBounds,EI b h1]
 | some z =>
  obtain ⟨g,c⟩:=H z hhi
  simp only [Dz] at eu
  rw [eu] at c
  have f:u≤cap:=by omega
  cases lo with
  | none =>
   simp only [Dz] at el
   have el':l=0:=by omega
   subst el'
   simp [Instr.sliceBounds,EI c f]
  | some y =>
   obtain ⟨k,b⟩:=H y hlo
   simp only [Dz] at el
   rw [el] at b
   simp [Instr.sliceBounds,EI c f,EI b h1]
theorem R.empty (b off cap:Nat) (hm:cap≤maxLen):R w0 M w (.slice (some ⟨b,off,none⟩) 0 cap) (.list [] .none) :=
 R.list (xs:=[]) 0 (fun _=>undef) (Nat.zero_le _) hm (fun i a=>absurd a (by simp)) (fun i a=>absurd a (by simp)) trivial
theorem R.sub {b off cap : Nat} {xs : List AV} {o : Own} (h : R w0 M w (.slice (some ⟨b, off, none⟩) xs.length cap) (.list xs o)) {l u sz : Nat} (hl : l ≤ u) (hu : u ≤ xs.length) (hsz : l = 0 ∨ ∀ y ∈ xs, y.cells.length = sz) (hne : cap ≠ l) :
    R w0 M w (.slice (some ⟨b, off + l * sz, none⟩) (u - l) (cap - l)) (.list ((xs.take u).drop l) .none) := by
  generalize hv : Value.slice (some ⟨b, off, none⟩) xs.length cap = v at h
  cases h with
  | nil ho => cases hv
  | emp ho => cases hv; simp at hu; subst hu; have : l = 0 := by omega
              subst this; exact absurd rfl hne
  | @list b' off' cap' _ _ sz' us hc hm hcell hus ho =>
    cases hv
    have hlen : ((xs.take u).drop l).length = u - l := by simp; omega
    rw [← hlen]
    have eo : ∀ i, i < u - l → off + l * sz + i * sz' = off + (l + i) * sz' := by
      intro i hi
      rcases hsz with rfl | hsz
      · simp
      · have e : sz' = sz := by
          have h1 : (us i).cells.size = sz' := (hcell i (by omega)).1
          rw [← h1, (hus i (by omega)).cells.1, hsz _ (List.getElem_mem _)]
        rw [e, Nat.add_mul]; omega
    refine .list sz' (fun i => us (l + i)) (by rw [hlen]; omega) (by omega) (fun i hi => ?_) (fun i hi => ?_) trivial
    · rw [hlen] at hi
      obtain ⟨h1, h2⟩ := hcell (l + i) (by omega)
      refine ⟨h1, fun j hj => ?_⟩
      rw [eo i hi]
      exact h2 j hj
    · rw [hlen] at hi
      simp only [List.getElem_drop, List.getElem_take]
      exact hus (l + i) (by omega)
theorem ZdJ (h:Rel w0 n M e st a w) (t:TypeId) (x:Operand) (lo hi mx:Option Operand) (hob:(Bi P e true st (.slice t x lo hi mx)).1) :
  Yields' P w0 M (Bi P e true st (.slice t x lo hi mx)).2.2 (Bi P e true st (.slice t x lo hi mx)).2.1 w (do pure (.value (← Instr.sliceAt t (a.eval x) (lo.map a.eval) (hi.map a.eval) (mx.map a.eval)))):=by
 unfold Bi at hob ⊢
 simp only at hob ⊢
 split at hob
 ·rename_i id ver o n' hx0
  cases hp:Kx P t with
  | none=>simp [hp] at hob
  | some p =>
  obtain ⟨el,sz,ag,Z⟩:=p
  cases hvr:EW st.rows id ver with
  | none=>simp [hp,hvr] at hob
  | some q =>
  obtain ⟨J,cs⟩:=q
  simp only [hp,hvr] at hob ⊢
  obtain ⟨K,j,l,hm,C,D,N,V,rfl⟩:=hob
  have hR:=Bj h K
  rw [hx0] at hR
  obtain ⟨i,U,_,_,E⟩:=G5 hp
  cases mx with
  | some _=>cases hm
  | none =>
   obtain ⟨d,g⟩:=Int.eq_ofNat_of_zero_le C
   obtain ⟨u,f⟩:=Int.eq_ofNat_of_zero_le (Int.le_trans C D)
   rw [g,f] at D
   rw [f] at N
   rw [g] at V
   rw [g,f]
   simp only [Int.toNat_natCast]
   generalize hev:a.eval x=v at hR
   cases hR with
   | @vec _ _ _ _ p c hid hv hh =>
    obtain ⟨f1,f2,_⟩:=h.st.row id _ (Ht hvr)
    obtain ⟨rfl,af,ab⟩:=hh f1.symm
    have G:=Qw (P:=P) h true n' c ab j l g f (by omega) (by omega)
    refine .here h.st (v := .slice (if c=d then some ⟨M.blk id,o*M.rsz id,none⟩ else (some (⟨M.blk id,o*M.rsz id,none⟩:Addr)).map (·.add (d*J))) (u-d) (c-d)) ?_ ?_
    ·simp only [Instr.sliceAt,Instr.slice,Sem.run_bind,run_underlying U,Result.andThen_ok,Option.map_none,G,BS E,Sem.run_pure]
    ·refine .vec hid hv fun _=>⟨?_,by omega,by omega⟩
     by_cases hcl:c=d
     ·have:d=0:=by omega
      rw [Ae hcl,this];simp
     ·rw [Af hcl]
      simp only [Option.map_some,E4]
      rw [f2,Nat.add_mul]
 ·rename_i s hx0
  obtain ⟨hs,K,j,l,hm,C,D,N⟩:=hob
  have hR:=Bj h K
  rw [hx0] at hR
  obtain ⟨ev,hf⟩:=hR.val_inv
  cases mx with
  | some _=>cases hm
  | none =>
   have G:=Qw (P:=P) h false s.size s.size (Nat.le_refl _) j l (Int.toNat_of_nonneg C).symm (Int.toNat_of_nonneg (Int.le_trans C D)).symm (by omega) (by omega)
   refine .here h.st (v := .string (s.extract (Dz e 0 lo).toNat (Dz e s.size hi).toNat)) ?_ (.flat ?_)
   ·rw [ev]
    simp only [Instr.sliceAt,Instr.slice,Sem.run_bind,run_underlying (FO hs),Result.andThen_ok,Option.map_none,Option.isSome_none,Bool.false_eq_true,if_false,G,Sem.run_pure]
   ·simp only [IV,decide_eq_true_eq] at hf ⊢
    simp only [ByteArray.size_extract]
    omega
 ·rename_i xs o hx0
  cases hp:Kx P t with
  | none=>simp [hp] at hob
  | some p =>
   obtain ⟨el,sz,ag,Z⟩:=p
   simp only [hp] at hob ⊢
   cases mx with
   | some m =>
    simp only at hob ⊢
    obtain ⟨K,j,l,hm,C,D,N⟩:=hob
    have hR:=Bj h K
    rw [hx0] at hR
    obtain ⟨i,U,_,_,E⟩:=G5 hp
    have H:∀ (y:Operand),(AU e true y∧EJ (Ar e y)=true)→∃ k,a.eval y = .int k (AO (Ar e y)):=fun y hy=>⟨_,((Bj h hy.1).int hy.2).1⟩
    cases hi with
    | none=>simp [Dz] at D
    | some z =>
     obtain ⟨k2,kz⟩:=H z l
     obtain ⟨k3,km⟩:=H m hm
     simp only [Dz] at D N
     rw [D] at kz
     rw [N] at km
     have G:∀ (ln c:Nat),ln≤c→(Instr.sliceBounds true ln c (lo.map a.eval) ((some z).map a.eval) ((some m).map a.eval)).run P w = .ok (0,0,0) w:=by
      intro ln c Q
      have e1:=EI (P:=P) (k:=k3) (q:=0) (y:=c) (code := .slice3Acap) km (Nat.zero_le _) w
      have e2:=EI (P:=P) (k:=k2) (q:=0) (y:=0) (code := .slice3B) kz (Nat.zero_le _) w
      cases lo with
      | none=>simp [Instr.sliceBounds,e1,e2]
      | some y =>
       obtain ⟨k,ky⟩:=H y j
       simp only [Dz] at C
       rw [C] at ky
       have e3:=EI (P:=P) (k:=k) (q:=0) (y:=0) (code := .slice3C) ky (Nat.zero_le _) w
       simp [Instr.sliceBounds,e1,e2,e3]
     obtain ⟨v,hv⟩:∃ v,a.eval x=v:=⟨_,rfl⟩
     rw [hv] at hR
     have fin:∀ (r:Option Addr) (ln c:Nat),ln≤c→v = .slice r ln c→R w0 M w (.slice r 0 0) (.list [] .full) →
       Yields' P w0 M st (.list [] .full) w (do pure (.value (← Instr.sliceAt t (a.eval x) (lo.map a.eval) (Option.map a.eval (some z)) (Option.map a.eval (some m))))):=by
      intro r ln c Q e1 hr
      refine .here h.st ?_ hr
      rw [hv,e1]
      simp only [Instr.sliceAt,Instr.slice,Sem.run_bind,run_underlying U,Result.andThen_ok,G ln c Q,BS E,Sem.run_pure]
      simp
     cases hR with
     | nil ho=>exact fin none 0 0 (Nat.le_refl _) rfl (by simpa using R.nil (fun id=>by simp))
     | @emp r _ ho=>exact fin (some r) 0 0 (Nat.le_refl _) rfl (.emp (fun id=>by simp))
     | @list b off c _ _ J us hc hm' hcell hu' ho =>
      exact fin _ _ c hc rfl (R.list (xs:=[]) 0 (fun _=>undef) (Nat.zero_le _) (Nat.zero_le _) (fun i hi=>absurd hi (by simp)) (fun i hi=>absurd hi (by simp)) rfl)
   | none =>
   obtain ⟨K,j,l,C,D,N,V⟩:=hob
   have hR:=Bj h K
   rw [hx0] at hR
   obtain ⟨i,U,_,_,E⟩:=G5 hp
   ·obtain ⟨d,g⟩:=Int.eq_ofNat_of_zero_le C
    obtain ⟨u,f⟩:=Int.eq_ofNat_of_zero_le (Int.le_trans C D)
    rw [g,f] at D
    rw [f] at N
    rw [g] at V
    rw [g,f]
    have O:d≤u:=by omega
    have F:u≤xs.length:=by omega
    simp only [Int.toNat_natCast]
    have aa:d=0∨∀ y∈xs,y.cells.length=sz:=V.imp (fun q=>by omega) id
    have go:∀ (r:Option Addr) (c:Nat),xs.length≤c→a.eval x = .slice r xs.length c →
      R w0 M w (.slice (if c=d then r else r.map (·.add (d*sz))) (u-d) (c-d)) (.list ((xs.take u).drop d) .none) →
      Yields' P w0 M st (.list ((xs.take u).drop d) .none) w (do pure (.value (← Instr.sliceAt t (a.eval x) (lo.map a.eval) (hi.map a.eval) (Option.map a.eval none)))):=by
     intro r c Y ev hr
     have G:=Qw (P:=P) h true xs.length c Y j l g f O F
     refine .here h.st ?_ hr
     rw [ev]
     simp only [Instr.sliceAt,Instr.slice,Sem.run_bind,run_underlying U,Result.andThen_ok,Option.map_none,G,BS E,Sem.run_pure]
    generalize hv:a.eval x=v at hR go
    have ae:=hR
    cases hR with
    | nil ho =>
     have e1:u=0:=by simpa using F
     have e2:d=0:=by omega
     subst e1;subst e2
     refine go none 0 (Nat.le_refl _) rfl ?_
     simpa using (R.nil (w0:=w0) (M:=M) (w:=w) (o := .none) (fun id=>by simp))
    | @emp r _ ho =>
     have e1:u=0:=by simpa using F
     have e2:d=0:=by omega
     subst e1;subst e2
     refine go (some r) 0 (Nat.le_refl _) rfl ?_
     simpa using (R.emp (w0:=w0) (M:=M) (w:=w) (a:=r) (o := .none) (fun id=>by simp))
    | @list b off c _ _ J us hc hm' hcell hu' ho =>
     refine go (some ⟨b,off,none⟩) c hc rfl ?_
     by_cases hcl:c=d
     ·have e1:u=d:=by omega
      have:(xs.take u).drop d=[]:=by rw [e1];simp
      rw [this,Ae hcl,e1,Nat.sub_self]
      exact R.empty _ _ _ (by omega)
     ·rw [Af hcl]
      simp only [Option.map_some,E4]
      exact ae.sub O F aa hcl
 ·exact hob.elim
theorem Ziw (h:Rel w0 n M e st a w) (x y:Operand) (ts:Array TypeId) (t:TypeId) (hx:AU e true x) (hy:AU e true y) (ix:EJ (Ar e x)=true) (iy:EJ (Ar e y)=true) :
  Yields' P w0 M st (.val (.int (Kp (Ar e x)) (if AO (Ar e y)<AO (Ar e x) then AO (Ar e y) else AO (Ar e x)))) w (do pure (.value (← Builtin.min_ ts t #[a.eval x,a.eval y]))):=by
 rw [((Bj h hx).int ix).1,((Bj h hy).int iy).1]
 exact .here h.st (by simp [Builtin.min_,Builtin.min2]) (.flat rfl)
theorem ZhX (h:Rel w0 n M e st a w) (x y:Operand) (ts:Array TypeId) (t:TypeId) (hx:AU e true x) (hy:AU e true y) (ix:EJ (Ar e x)=true) (iy:EJ (Ar e y)=true) :
  Yields' P w0 M st (.val (.int (Kp (Ar e x)) (if AO (Ar e x)<AO (Ar e y) then AO (Ar e y) else AO (Ar e x)))) w (do pure (.value (← Builtin.max_ ts t #[a.eval x,a.eval y]))):=by
 rw [((Bj h hx).int ix).1,((Bj h hy).int iy).1]
 exact .here h.st (by simp [Builtin.max_,Builtin.max2]) (.flat rfl)
end
section
variable {P:Program} {w0:World} {n:Nat} {M:Mem} {e:Env} {st:St} {a:Act} {w:World}
theorem RelSt.box_lt (h:RelSt w0 M st w) {l:Nat} (hl:l<M.N):M.bx l<w.heap.size:=by
 have a:l<st.boxes.length:=by rw [←h.N];exact hl
 obtain ⟨_,_,c,d,b,_⟩:=h.box l _ (List.getElem?_eq_getElem a)
 exact (Array.getElem?_eq_some_iff.1 b).1
theorem RelSt.row_lt (h:RelSt w0 M st w) {i:Nat} (hi:i<M.NR):M.blk i<w.heap.size:=by
 have a:i<st.rows.length:=by rw [←h.NR];exact hi
 exact (h.row i _ (List.getElem?_eq_getElem a)).lt
theorem RelSt.base_le (h:RelSt w0 M st w):w0.heap.size≤w.heap.size:=h.below.size
theorem RelSt.drew (h:RelSt w0 M st w):RelSt w0 M st w.drew∧Ext w0 M w M w.drew :=
 have b:Ext w0 M w M w.drew:=⟨Nat.le_refl _,fun _ _=>rfl,Nat.le_refl _,fun _ _=>⟨Nat.le_refl _,fun _=>⟨rfl,rfl,rfl⟩⟩,fun _ _ _ k e=>⟨e,k⟩,Nat.le_refl _,Nat.le_refl _,fun _ _=>rfl,fun _ _ _=>by omega,fun _ _ h _ _=>h⟩
 ⟨⟨h.below.drew,h.N,h.NR,h.top,h.inj,fun l cs d=>by
   obtain ⟨a1,a2,c,j,a3,a4,a5,a6⟩:=h.box l cs d
   exact ⟨a1,a2,c,j,a3,a4,a5,fun i f g=>(a6 i f g).mono b⟩,fun id x a=>(h.row id x a).keep b rfl rfl rfl rfl rfl (h.row id x a).ne rfl,h.rowinj,h.loop.mono b rfl fun _ _ h _=>h⟩,b⟩
def Mem.newTop (M:Mem) (b k:Nat):Mem:={ M with top:=fun x=>if x=b then k else M.top x }
theorem Pj (M':Mem) (o:Obj) (hN:M'.N=M.N∨M'.N=M.N+1) (hb:∀ l,l<M.N→M'.bx l=M.bx l) (hNR:M.NR≤M'.NR)
  (hr:∀ id,id<M.NR→M.fr id≤M'.fr id∧(M'.fr id=M.fr id→M'.blk id=M.blk id∧M'.cap id=M.cap id∧M'.rsz id=M.rsz id)) (ht:∀ b,b<w.heap.size→M.top b≤M'.top b) (hNL:M'.NL=M.NL:=by rfl) (hlb:M'.lb=M.lb:=by rfl) :
  Ext w0 M w M' (w.alloc o) :=
 ⟨by omega,hb,hNR,hr,fun b d v hi c=>by
  have a:=World.block_lt_of_cell? w _ c
  refine ⟨by rw [World.cell?_alloc_lt _ _ _ a];exact c,?_⟩
  rcases hi with hi | hi
  ·exact .inl hi
  ·exact .inr (Nat.lt_of_lt_of_le hi (ht b a)),by simp,by omega,fun _ _=>by rw [hlb],fun _ _ _=>by omega,fun b f e g _=>KeepsObj.alloc w o b f e g⟩
theorem BK (w:World) (o:Obj) {k:Nat} (h:k<w.heap.size):(w.alloc o).heap[k]? = w.heap[k]? := Below.heap_alloc w o k h
theorem RelSt.newTop (h:RelSt w0 M st w) (cs:Array Value) (ty:TypeId) (k:Nat) :
  RelSt w0 (M.newTop w.heap.size k) st (w.alloc (.cells cs ty))∧Ext w0 M w (M.newTop w.heap.size k) (w.alloc (.cells cs ty)):=by
 have g:∀ b,b<w.heap.size→(M.newTop w.heap.size k).top b=M.top b:=fun b f=>by simp [Mem.newTop];omega
 have e:Ext w0 M w (M.newTop w.heap.size k) (w.alloc (.cells cs ty)) :=
  Pj _ _ (.inl rfl) (fun _ _=>rfl) (Nat.le_refl _) (fun _ _=>⟨Nat.le_refl _,fun _=>⟨rfl,rfl,rfl⟩⟩) (fun b f=>by rw [g b f];exact Nat.le_refl _)
 refine ⟨⟨h.below.alloc h.base_le _,h.N,h.NR,fun b f=>?_,h.inj,fun l c m=>?_,fun id x a=>(h.row id x a).keep e rfl rfl rfl rfl (g _ (h.row id x a).lt) (h.row id x a).ne (BK _ _ (h.row id x a).lt),h.rowinj,h.loop.mono e rfl (KeepsObj.alloc _ _)⟩,e⟩
 ·simp at f
  have:(M.newTop w.heap.size k).top b=M.top b:=by simp [Mem.newTop];omega
  rw [this]
  exact h.top b (by omega)
 ·obtain ⟨a1,a2,n,j,a3,a4,a5,a6⟩:=h.box l c m
  have d:=(Array.getElem?_eq_some_iff.1 a3).1
  exact ⟨a1,by rw [show (M.newTop w.heap.size k).bx l=M.bx l from rfl,g _ d];exact a2,n,j,by rw [show (M.newTop w.heap.size k).bx l=M.bx l from rfl,BK _ _ d];exact a3,a4,a5,fun i o p=>(a6 i o p).mono e⟩
theorem RelSt.later (h:RelSt w0 M st w) {w':World} (hb:Below w.heap.size w w') (b k:Nat) (hw:w.heap.size≤b) (hk:b<w'.heap.size∨k=0) :
  RelSt w0 (M.newTop b k) st w'∧Ext w0 M w (M.newTop b k) w':=by
 have r:∀ x,x<w.heap.size→(M.newTop b k).top x=M.top x:=fun x j=>by simp [Mem.newTop];omega
 have p:∀ x,x<w.heap.size→w'.heap[x]? = w.heap[x]? := hb.block
 have g:KeepsObj w w':=fun x o f _=>(p x (Array.getElem?_eq_some_iff.1 f).1).trans f
 have j:Ext w0 M w (M.newTop b k) w' :=
  ⟨Nat.le_refl _,fun _ _=>rfl,Nat.le_refl _,fun _ _=>⟨Nat.le_refl _,fun _=>⟨rfl,rfl,rfl⟩⟩,fun x y v t n=>by
   have a:=World.block_lt_of_cell? w _ n
   refine ⟨?_,t.imp id fun q=>by rw [r x a];exact q⟩
   unfold World.cell? at n ⊢
   simp only [p x a] at n ⊢
   exact n,hb.size,Nat.le_refl _,fun _ _=>rfl,fun _ f m=>absurd m (Nat.not_lt.2 f),fun x o f m _=>g x o f m⟩
 refine ⟨⟨h.below.trans (hb.mono h.base_le),h.N,h.NR,fun x C=>?_,h.inj,fun l c u=>?_,fun id x d=>(h.row id x d).keep j rfl rfl rfl rfl (r _ (h.row id x d).lt) (h.row id x d).ne (p _ (h.row id x d).lt),h.rowinj,h.loop.mono j rfl g⟩,j⟩
 ·have:=hb.size
  by_cases c:x=b
  ·have e:(M.newTop b k).top x=k:=by simp [Mem.newTop,c]
   rw [e]
   rcases hk with hk | hk
   ·omega
   ·exact hk
  ·have e:(M.newTop b k).top x=M.top x:=by simp [Mem.newTop,c]
   rw [e]
   exact h.top x (by omega)
 ·obtain ⟨a1,a2,z,s,a3,a4,a5,a6⟩:=h.box l c u
  have a:=(Array.getElem?_eq_some_iff.1 a3).1
  exact ⟨a1,by rw [show (M.newTop b k).bx l=M.bx l from rfl,r _ a];exact a2,z,s,by rw [show (M.newTop b k).bx l=M.bx l from rfl,p _ a];exact a3,a4,a5,fun i f m=>(a6 i f m).mono j⟩
def Mem.newBox (M:Mem) (b:Nat):Mem:={ M with N:=M.N+1,bx:=fun l=>if l=M.N then b else M.bx l }
theorem RelSt.newBox (h:RelSt w0 M st w) (v:Value) (x:AV) (ty:TypeId) (hR:R w0 M w v x) (hn:Bc x=true) :
  RelSt w0 (M.newBox w.heap.size) { st with boxes:=st.boxes++[x.cells] } (w.alloc (.cells v.cells ty))∧Ext w0 M w (M.newBox w.heap.size) (w.alloc (.cells v.cells ty)) ∧
   R w0 (M.newBox w.heap.size) (w.alloc (.cells v.cells ty)) (.pointer (some ⟨w.heap.size,0,none⟩)) (.box st.boxes.length 0):=by
 have d:∀ l,l<M.N→(M.newBox w.heap.size).bx l=M.bx l:=fun l hl=>by simp [Mem.newBox];omega
 have a:(M.newBox w.heap.size).bx M.N=w.heap.size:=by simp [Mem.newBox]
 have m:Ext w0 M w (M.newBox w.heap.size) (w.alloc (.cells v.cells ty)) :=
  Pj _ _ (.inr rfl) d (Nat.le_refl _) (fun _ _=>⟨Nat.le_refl _,fun _=>⟨rfl,rfl,rfl⟩⟩) (fun b q=>Nat.le_refl _)
 have p:=hR.mono m
 refine ⟨⟨h.below.alloc h.base_le _,by simp [Mem.newBox,h.N],h.NR,fun b q=>h.top b (by simp at q;omega),fun l k hl f e=>?_,fun l c hl=>?_,fun id x j=>?_,h.rowinj,h.loop.mono m rfl (KeepsObj.alloc _ _)⟩,m,?_⟩
 ·have n:(M.newBox w.heap.size).N=M.N+1:=rfl
  rw [n] at hl f
  by_cases e1:l=M.N
  ·by_cases e2:k=M.N
   ·omega
   ·subst e1
    rw [a,d k (by omega)] at e
    have:=h.box_lt (l:=k) (by omega)
    omega
  ·by_cases e2:k=M.N
   ·subst e2
    rw [a,d l (by omega)] at e
    have:=h.box_lt (l:=l) (by omega)
    omega
   ·rw [d l (by omega),d k (by omega)] at e
    exact h.inj l k (by omega) (by omega) e
 ·by_cases e1:l=M.N
  ·subst e1
   simp only [h.N,List.getElem?_concat_length,Option.some.injEq] at hl
   subst hl
   rw [a]
   obtain ⟨hs,hc⟩:=p.cells
   refine ⟨h.base_le,h.top _ (Nat.le_refl _),v.cells,ty,heap_alloc_new w _,hs,hR.cellsOne (fun vs e=>by subst e;cases hn),hc⟩
  ·have f:l<M.N:=by
    have:l<(st.boxes++[x.cells]).length:=(Ag.1 hl).1
    have n:=h.N
    simp at this
    omega
   rw [List.getElem?_append_left (by rw [←h.N];exact f)] at hl
   obtain ⟨a1,a2,r,o,a3,a4,a5,a6⟩:=h.box l c hl
   have g:=(Array.getElem?_eq_some_iff.1 a3).1
   rw [d l f]
   exact ⟨a1,a2,r,o,by rw [BK _ _ g];exact a3,a4,a5,fun i s t=>(a6 i s t).mono m⟩
 ·have g:=(h.row id x j).lt
  refine (h.row id x j).keep m rfl rfl rfl rfl rfl (fun l hl=>?_) (BK _ _ g)
  by_cases e1:l=M.N
  ·subst e1
   rw [a]
   show w.heap.size≠M.blk id
   omega
  ·have n:(M.newBox w.heap.size).N=M.N+1:=rfl
   rw [d l (by omega)]
   exact (h.row id x j).ne l (by omega)
 ·have:=R.box (w0:=w0) (M:=M.newBox w.heap.size) (w:=w.alloc (.cells v.cells ty)) (l:=st.boxes.length) (off:=0) (by rw [←h.N];exact Nat.lt_succ_self _)
  rwa [←h.N,a,h.N] at this
theorem Gl {t:TypeId} {z:List AV} (h:CW P t=some z):∃ i v,P.info? t=some i∧i.zero=some v∧Px v=true∧v.cells.size=i.size∧z=(I0 v).cells:=by
 unfold CW at h
 split at h
 ·rename_i i hi
  split at h
  ·rename_i v hv
   split at h
   ·rename_i hc
    simp only [Bool.and_eq_true,beq_iff_eq] at hc
    exact ⟨i,v,hi,hv,hc.1,hc.2,(Option.some.inj h).symm⟩
   ·cases h
  ·cases h
 ·cases h
theorem N1 {v:Value} (h:Px v=true):Bc (I0 v)=true:=by
 have hc:∀ u,Bc (N6 u)=true:=fun u=>by unfold N6;split<;>rfl
 cases v<;>first | rfl | exact hc _
theorem Zet (h:Rel w0 n M e st a w) (t:TypeId) (hob:(Bi P e true st (.alloc t)).1) :
  Yields' P w0 M (Bi P e true st (.alloc t)).2.2 (Bi P e true st (.alloc t)).2.1 w (do pure (.value (← Instr.alloc t true (.tuple #[])))):=by
 unfold Bi at hob ⊢
 cases hz:CW P t with
 | none=>simp [hz] at hob
 | some z =>
  simp only [hz]
  obtain ⟨i,v,g,hv,b,hs,rfl⟩:=Gl hz
  obtain ⟨d,f,c⟩:=h.st.newBox v (I0 v) t (QJ b) (N1 b)
  refine .value ⟨_,_,_,?_,f,d,c⟩
  simp [Instr.alloc,zeroValue,typeInfo,g,hv,newVar,newRow]
theorem ZiF (h:Rel w0 n M e st a w) (t:TypeId) (x:Operand) (hob:(Bi P e true st (.box t x)).1) :
  Yields' P w0 M (Bi P e true st (.box t x)).2.2 (Bi P e true st (.box t x)).2.1 w (do pure (.value (← Instr.box t (a.eval x)))):=by
 obtain ⟨_,d,b⟩:=hob
 obtain ⟨f,g,c⟩:=h.st.newBox (a.eval x) (Ar e x) t (Bj h d) b
 refine .value ⟨_,_,_,?_,g,f,c⟩
 simp [Instr.box,newVar,newRow]
theorem Wu (vs:List Value):∀ (k:Nat) (cs:Array Value) (off:Nat),off+k+vs.length≤cs.size →
  ((vs.zipIdx k).foldl (fun cs (x:Value × Nat)=>cs.setIfInBounds (off+x.2) x.1) cs).size=cs.size ∧
  ∀ j,((vs.zipIdx k).foldl (fun cs (x:Value × Nat)=>cs.setIfInBounds (off+x.2) x.1) cs)[j]? = if off+k≤j∧j<off+k+vs.length then vs[j-(off+k)]? else cs[j]? := by
 induction vs with
 | nil=>intro k cs off h;exact ⟨rfl,fun j=>by simp;omega⟩
 | cons v vs ih =>
  intro k cs off h
  simp only [List.length_cons] at h
  simp only [List.zipIdx_cons,List.foldl_cons,List.length_cons]
  obtain ⟨c,b⟩:=ih (k+1) (cs.setIfInBounds (off+k) v) off (by simp;omega)
  refine ⟨by rw [c];simp,fun j=>?_⟩
  rw [b j]
  by_cases c1:off+(k+1)≤j∧j<off+(k+1)+vs.length
  ·rw [Ae c1,Ae (by omega),show j-(off+k)=(j-(off+(k+1)))+1 from by omega]
   simp
  ·rw [Af c1]
   by_cases c2:j=off+k
   ·subst c2
    have a:off+k<cs.size:=by omega
    rw [Ae (by omega)]
    simp [a]
   ·rw [Af (by omega),Array.getElem?_setIfInBounds_ne (by omega)]
theorem MA {l xs:List AV} {off:Nat} (h:off+xs.length≤l.length):(Dw l off xs).length=l.length:=by
 simp [Dw];omega
theorem ZaN {l xs:List AV} {off:Nat} (h:off+xs.length≤l.length) (j:Nat):(Dw l off xs)[j]? = if off≤j∧j<off+xs.length then xs[j-off]? else l[j]? := by
 unfold Dw
 rw [List.append_assoc,List.getElem?_append]
 simp only [List.length_take]
 have e:min off l.length=off:=by omega
 rw [e]
 by_cases c1:j<off
 ·rw [Ae c1,Af (by omega),List.getElem?_take,Ae c1]
 ·rw [Af c1,List.getElem?_append]
  by_cases c2:j-off<xs.length
  ·rw [Ae c2,Ae (by omega)]
  ·rw [Af c2,Af (by omega),List.getElem?_drop]
   congr 1
   omega
theorem P1 {l xs:List AV} {off:Nat} (h1:∀ x∈l,x.one=true) (h2:∀ x∈xs,x.one=true):∀ x∈Dw l off xs,x.one=true:=by
 intro x hx
 simp only [Dw,List.mem_append] at hx
 rcases hx with (hx | hx) | hx
 ·exact h1 x (List.mem_of_mem_take hx)
 ·exact h2 x hx
 ·exact h1 x (List.mem_of_mem_drop hx)
def RowR (w0:World) (M:Mem) (w:World) (cs:Array Value) (l:List AV):Prop:=cs.size=l.length∧∀ i (h1:i<cs.size) (h2:i<l.length),R w0 M w cs[i] l[i]
theorem RowR.get {cs:Array Value} {l:List AV} (h:RowR w0 M w cs l) {i:Nat} {v:Value} {x:AV} (hv:cs[i]? = some v) (hx:l[i]? = some x):R w0 M w v x:=by
 obtain ⟨a1,rfl⟩:=Array.getElem?_eq_some_iff.1 hv
 obtain ⟨a2,rfl⟩:=Ag.1 hx
 exact h.2 i a1 a2
theorem RowR.mk {cs:Array Value} {l:List AV} (hs:cs.size=l.length) (h:∀ (i:Nat) (v:Value) (x:AV),cs[i]? = some v→l[i]? = some x→R w0 M w v x):RowR w0 M w cs l :=
 ⟨hs,fun i a b=>h i _ _ (Array.getElem?_eq_getElem a) (List.getElem?_eq_getElem b)⟩
theorem RowR.put {cs cs':Array Value} {l:List AV} (h:RowR w0 M w cs l) {v:Value} {x:AV} (hR:R w0 M w v x) {off:Nat} (hoff:off+x.cells.length≤l.length) (hs:cs'.size=cs.size)
  (hg:∀ j,cs'[j]? = if off≤j∧j<off+v.cells.toList.length then v.cells.toList[j-off]? else cs[j]?):RowR w0 M w cs' (Dw l off x.cells):=by
 obtain ⟨d,e⟩:=hR.cells
 refine .mk (by rw [hs,MA hoff];exact h.1) (fun i u y a b=>?_)
 rw [hg i] at a
 rw [ZaN hoff] at b
 simp only [Array.length_toList] at a
 rw [←d] at b
 by_cases c:off≤i∧i<off+v.cells.size
 ·rw [Ae c] at a b
  rw [Array.getElem?_toList] at a
  exact RowR.get ⟨d,e⟩ a b
 ·rw [Af c] at a b
  exact h.get a b
theorem Xu (t:TypeId) (pl:Nat→Option (Nat × Nat)) (hpl:∀ i o s,J5 P t i=some (o,s)→pl i=some (o,s)) :
  ∀ (vs:List (Nat × Value)) (xs:List (Nat × AV)) (cs:Array Value) (l:List AV),vs.length=xs.length→(∀ (k:Nat) (p:Nat × Value) (q:Nat × AV),vs[k]? = some p→xs[k]? = some q→p.1=q.1∧R w0 M w p.2 q.2∧Bc q.2=true) →
   RowR w0 M w cs l→(∀ y∈l,y.one=true)→OE P t l.length xs→∃ cs',Instr.fill pl cs vs=some cs'∧RowR w0 M w cs' (QE P t l xs)∧(∀ y∈QE P t l xs,y.one=true)
 | [],[],cs,l,_,_,h,h1,_=>⟨cs,rfl,h,h1⟩
 | [],_::_,_,_,hl,_,_,_,_=>by cases hl
 | _::_,[],_,_,hl,_,_,_,_=>by cases hl
 | (i,v)::vs,(i',x)::xs,cs,l,hl,hp,h,h1,hf=>by
  obtain ⟨rfl,g,hn⟩:=hp 0 _ _ rfl rfl
  simp only at g hn
  simp only [OE] at hf
  obtain ⟨a,m⟩:=hf
  simp only [Instr.fill,QE]
  cases hpp:J5 P t i with
  | none=>simp [hpp] at a
  | some p =>
   obtain ⟨o,s⟩:=p
   simp only [hpp] at a ⊢
   obtain ⟨a1,a2⟩:=a
   obtain ⟨z,C⟩:=g.cells
   rw [hpl i o s hpp]
   have u:(decide (v.cells.size≠s)||decide (o+v.cells.size > cs.size))=false:=by have:=h.1;simp;omega
   simp only [u,Bool.false_eq_true,if_false]
   have d:=Wu v.cells.toList 0 cs o (by simp;have:=h.1;omega)
   have b:(v.cells.zipIdx.foldl (fun cs (c,j)=>cs.setIfInBounds (o+j) c) cs)=(v.cells.toList.zipIdx 0).foldl (fun cs (x:Value × Nat)=>cs.setIfInBounds (o+x.2) x.1) cs:=by
    rw [←Array.foldl_toList]
    simp
   rw [b]
   simp only [Nat.add_zero] at d
   have f:=h.put g (off:=o) (by omega) d.1 d.2
   refine Xu t pl hpl vs xs _ _ (by simpa using hl) (fun k p q n r=>hp (k+1) p q (by simpa using n) (by simpa using r)) f (P1 h1 (g.cellsOne (fun vs e=>by subst e;cases hn))) ?_
   rw [MA (by omega)]
   exact m
theorem ZN {α β:Type} (f:α→Sem β) (g:α→β):∀ (l:List α),(∀ x∈l,∀ w,(f x).run P w = .ok (g x) w)→∀ w,(l.mapM f).run P w = .ok (l.map g) w
 | [],_,w=>by simp
 | x::l,h,w=>by simp [h x (by simp),ZN f g l (fun y a=>h y (by simp [a])) w]
theorem Zcx {α β:Type} (f:α→Sem β) (g:α→β) (xs:Array α) (h:∀ x∈xs.toList,∀ w,(f x).run P w = .ok (g x) w) (w:World):(xs.mapM f).run P w = .ok (xs.map g) w:=by
 rw [Array.mapM_eq_mapM_toList]
 simp only [Sem.run_map,ZN f g xs.toList h w,Result.andThen_ok]
 congr 1
 apply Array.ext'
 simp
theorem PW:∀ (fs:List Field) (l:List (Nat × Nat)),QX P fs=some l →
  l=fs.map (fun f=>(f.offset,P.cellsOf f.type))∧∀ f∈fs,∀ w,(sizeOf f.type).run P w = .ok (P.cellsOf f.type) w
 | [],l,h=>by cases h;exact ⟨rfl,fun f hf=>by cases hf⟩
 | f::fs,l,h=>by
  simp only [QX] at h
  split at h
  ·rename_i i r hi hr
   cases h
   obtain ⟨b,c⟩:=PW fs r hr
   have a:P.cellsOf f.type=i.size:=by simp [Program.cellsOf,hi]
   refine ⟨by simp [a,←b],fun g hg w=>?_⟩
   rcases List.mem_cons.1 hg with rfl | hg
   ·simp [sizeOf,typeInfo,hi,a]
   ·exact c g hg w
  ·cases h
theorem Zc0 (h:Rel w0 n M e st a w) (t:TypeId) (ps:Array (Nat × Operand)) (hob:(Bi P e true st (.build t ps)).1) :
  Yields' P w0 M (Bi P e true st (.build t ps)).2.2 (Bi P e true st (.build t ps)).2.1 w (do pure (.value (← Instr.build t (ps.map fun (i,x)=>(i,a.eval x))))):=by
 unfold Bi at hob ⊢
 cases hz:CW P t with
 | none=>simp [hz] at hob
 | some z =>
  simp only [hz] at hob ⊢
  obtain ⟨N,D,E⟩:=hob
  obtain ⟨i,v,U,hv,V,hs,rfl⟩:=Gl hz
  have C:R w0 M w v (I0 v):=QJ V
  have j:RowR w0 M w v.cells (I0 v).cells:=C.cells
  have c:=C.cellsOne (fun vs e=>by have:=N1 V;rw [e] at this;cases this)
  have d:∀ (k:Nat) (p:Nat × Value) (q:Nat × AV),((ps.map fun (i,x)=>(i,a.eval x)).toList)[k]? = some p→(ps.toList.map fun p=>(p.1,Ar e p.2))[k]? = some q→p.1=q.1∧R w0 M w p.2 q.2∧Bc q.2=true:=by
   intro k p q g Y
   simp only [Array.toList_map,List.getElem?_map,Option.map_eq_some_iff] at g Y
   obtain ⟨O,Q,rfl⟩:=g
   obtain ⟨q0,h2,rfl⟩:=Y
   rw [Q] at h2
   cases h2
   have F:O∈ps.toList:=List.mem_of_getElem? Q
   exact ⟨rfl,Bj h (D O F).1,(D O F).2⟩
  have r:((ps.map fun (i,x)=>(i,a.eval x)).toList).length=(ps.toList.map fun p=>(p.1,Ar e p.2)).length:=by simp
  cases hpp:Ee P t with
  | some l =>
   unfold Ee at hpp
   split at hpp
   ·rename_i fs hu
    obtain ⟨e1,Z⟩:=PW _ _ hpp
    have b:∀ i o s,J5 P t i=some (o,s)→((fs.map fun f=>(f.offset,P.cellsOf f.type))[·]?) i=some (o,s):=by
     intro i o s g
     simp only [J5,Ee,hu,hpp] at g
     rw [e1] at g
     simpa using g
    obtain ⟨u,K,y,H⟩:=Xu t _ b _ _ v.cells _ r d j c E
    refine .here h.st (v := .agg u) ?_ (.agg y.1 H y.2)
    have F:=Zcx (P:=P) (fun (f:Field)=>(do pure (f.offset,←sizeOf f.type):Sem (Nat × Nat))) (fun f=>(f.offset,P.cellsOf f.type)) fs (fun f E w=>by simp [Z f E]) w
    simp only [Instr.build,zeroValue,typeInfo,Sem.run_bind,run_program,Result.andThen_ok,U,hv,Sem.run_pure,run_underlying hu,F,K]
   ·cases hpp
  | none =>
   cases ha:Gh P t with
   | none=>simp [hpp,ha] at N
   | some p =>
    obtain ⟨m,s,ag⟩:=p
    obtain ⟨el,hu,J⟩:=Ry ha
    have b:∀ i o G,J5 P t i=some (o,G)→(fun i=>some (i*s,s)) i=some (o,G):=by
     intro i o G g
     simpa [J5,hpp,ha] using g
    obtain ⟨u,K,y,H⟩:=Xu t _ b _ _ v.cells _ r d j c E
    refine .here h.st (v := .agg u) ?_ (.agg y.1 H y.2)
    simp only [Instr.build,zeroValue,typeInfo,Sem.run_bind,run_program,Result.andThen_ok,U,hv,Sem.run_pure,run_underlying hu,BS J,K]
theorem Vx (sz:Nat):∀ (vals:List Value) (k:Nat) (cs:Array Value),(∀ v∈vals,v.cells.size=sz)→(k+vals.length)*sz≤cs.size →
  ∃ cs',Instr.fill (fun i=>some (i*sz,sz)) cs ((vals.zipIdx k).map fun x=>(x.2,x.1))=some cs'∧cs'.size=cs.size∧(∀ j,j<k*sz→cs'[j]? = cs[j]?) ∧
   ∀ i v,vals[i]? = some v→∀ j,j<sz→cs'[(k+i)*sz+j]? = v.cells[j]?
 | [],k,cs,_,_=>⟨cs,rfl,rfl,fun _ _=>rfl,fun i v h=>by simp at h⟩
 | v::vals,k,cs,hv,hl=>by
  have f:=hv v (by simp)
  simp only [List.length_cons] at hl
  have d:(k+1)*sz≤cs.size:=Nat.le_trans (Nat.mul_le_mul_right _ (by omega)) hl
  rw [Nat.succ_mul] at d
  simp only [List.zipIdx_cons,List.map_cons,Instr.fill]
  have g:(decide (v.cells.size≠sz)||decide (k*sz+v.cells.size > cs.size))=false:=by simp;omega
  simp only [g,Bool.false_eq_true,if_false]
  have b:(v.cells.zipIdx.foldl (fun cs (c,j)=>cs.setIfInBounds (k*sz+j) c) cs)=(v.cells.toList.zipIdx 0).foldl (fun cs (x:Value × Nat)=>cs.setIfInBounds (k*sz+x.2) x.1) cs:=by
   rw [←Array.foldl_toList]
   simp
  have a:=Wu v.cells.toList 0 cs (k*sz) (by simp;omega)
  rw [b]
  simp only [Nat.add_zero,Array.length_toList,f] at a
  obtain ⟨cs',a1,a2,a3,a4⟩:=Vx sz vals (k+1) ((v.cells.toList.zipIdx 0).foldl (fun cs (x:Value × Nat)=>cs.setIfInBounds (k*sz+x.2) x.1) cs) (fun u hu=>hv u (by simp [hu])) (by rw [a.1];rw [show k+1+vals.length=k+(vals.length+1) from by omega];exact hl)
  refine ⟨cs',a1,by rw [a2,a.1],fun j e=>?_,fun i u hu j e=>?_⟩
  ·rw [a3 j (by rw [Nat.succ_mul];omega),a.2 j,Af (by omega)]
  ·cases i with
   | zero =>
    simp only [List.getElem?_cons_zero,Option.some.injEq] at hu
    subst hu
    simp only [Nat.add_zero]
    rw [a3 _ (by rw [Nat.succ_mul];omega),a.2,Ae (by omega),Array.getElem?_toList]
    congr 1
    omega
   | succ i =>
    have:=a4 i u (by simpa using hu) j e
    rw [←this,show k+(i+1)=k+1+i from by omega]
theorem WV {ps:List (Nat × Operand)} {m:Nat} (h:ps.map (·.1)=List.range m) (f:Operand→Value) :
  (ps.map fun p=>(p.1,f p.2))=((ps.map fun p=>f p.2).zipIdx 0).map fun x=>(x.2,x.1):=by
 have a:ps.length=m:=by simpa using congrArg List.length h
 apply List.ext_getElem?
 intro i
 simp only [List.getElem?_map,List.getElem?_zipIdx]
 cases hp:ps[i]? with
 | none=>simp
 | some p =>
  have b:i<m:=by rw [←a];exact (Ag.1 hp).1
  have:=congrArg (·[i]?) h
  simp [hp,b] at this
  simp [this]
theorem R.row {cs:Array Value} {ty:TypeId} {xs:List AV} {sz k:Nat} (us:Nat→Value) (hu:∀ i (hi:i<xs.length),(us i).cells.size=sz∧R w0 M w (us i) xs[i])
  (hc:∀ i,i<xs.length→∀ j,j<sz→cs[i*sz+j]? = (us i).cells[j]?) {cap:Nat} (hcap:xs.length≤cap) (hm:cap≤maxLen) {o:Own} (hk:xs.length*sz≤k) (M':Mem) (hM:M'.top w.heap.size=k)
  (hx:Ext w0 M w M' (w.alloc (.cells cs ty))) (ho:Zd4 M' w.heap.size 0 cap xs.length sz o) :
  R w0 M' (w.alloc (.cells cs ty)) (.slice (some ⟨w.heap.size,0,none⟩) xs.length cap) (.list xs o):=by
 refine .list sz us hcap hm (fun i hi=>⟨(hu i hi).1,fun j a=>⟨.inr ?_,?_⟩⟩) (fun i hi=>((hu i hi).2).mono hx) ho
 ·rw [hM]
  have:(i+1)*sz≤xs.length*sz:=Nat.mul_le_mul_right _ hi
  rw [Nat.succ_mul] at this
  omega
 ·rw [Nat.zero_add,World.cell?_alloc_new]
  exact hc i hi j a
theorem VW (h:Rel w0 n M e st a w) (t:TypeId) (m:Nat) (ps:Array (Nat × Operand)) (hmk:Jt e t=false) (hob:(Bi P e true st (.buildSlice t m ps)).1) :
  Yields' P w0 M (Bi P e true st (.buildSlice t m ps)).2.2 (Bi P e true st (.buildSlice t m ps)).2.1 w (do pure (.value (← Instr.buildSlice t m (ps.map fun (i,x)=>(i,a.eval x))))):=by
 unfold Bi at hob ⊢
 cases he:Kx P t with
 | none=>simp [he] at hob
 | some p =>
  obtain ⟨Q,sz,ag,U⟩:=p
  simp only [he,hmk] at hob ⊢
  obtain ⟨y,K,N,r,Y,D⟩:=hob
  obtain ⟨i,hu,hi,_,q⟩:=G5 he
  obtain ⟨z,F⟩:=Option.isSome_iff_exists.1 Y
  obtain ⟨i',v,G,hv,hc,hs,rfl⟩:=Gl F
  have J:ps.toList.length=m:=by simpa using congrArg List.length K
  have c:∀ p∈ps.toList,(a.eval p.2).cells.size=sz:=fun p C=>by
   rw [(Bj h (y p C)).cells.1]
   exact D _ (List.mem_map.2 ⟨p,C,rfl⟩)
  obtain ⟨zc,hzc⟩:∃ zc:Array Value,if m*sz=0 then zc = #[] else zc=v.cells:=by
   by_cases h0:m*sz=0
   ·exact ⟨#[],by rw [Ae h0]⟩
   ·exact ⟨v.cells,by rw [Af h0]⟩
  obtain ⟨s,a1,a2,a3,a4⟩:=Vx sz (ps.toList.map fun p=>a.eval p.2) 0 ((Array.range (m*sz)).map (zc[· % zc.size]!)) (fun u hu=>by obtain ⟨p,C,rfl⟩:=List.mem_map.1 hu;exact c p C) (by simp [J])
  obtain ⟨l,O⟩:=h.st.newTop s Q (m*sz)
  have b:((ps.toList.map fun p=>Ar e p.2).map AV.pub).length=m:=by simp [←J]
  have f:=R.row (us:=fun i=>((ps.toList.map fun p=>a.eval p.2).getD i undef)) (xs:=(ps.toList.map fun p=>Ar e p.2).map AV.pub) (cs:=s) (ty:=Q) (sz:=sz) (k:=m*sz) (cap:=m) (o := .full) ?hu ?hc (by rw [b];exact Nat.le_refl _) ?hm (by rw [b];exact Nat.le_refl _) (M.newTop w.heap.size (m*sz)) (by simp [Mem.newTop]) O b
  case hu =>
   intro k E
   have d:k<ps.toList.length:=by simpa using E
   have Z:(ps.toList.map fun p=>a.eval p.2).getD k undef=a.eval (ps.toList[k]).2:=by simp [List.getD,List.getElem?_eq_getElem d]
   rw [Z]
   refine ⟨c _ (List.getElem_mem _),?_⟩
   simp only [List.getElem_map]
   exact (Bj h (y _ (List.getElem_mem _))).pub
  case hc =>
   intro k E j V
   have d:k<ps.toList.length:=by simpa using E
   have:=a4 k (a.eval (ps.toList[k]).2) (by simp [List.getElem?_eq_getElem d]) j V
   rw [Nat.zero_add] at this
   rw [this]
   simp [List.getD,List.getElem?_eq_getElem d]
  case hm =>
   have:m*1≤m*sz:=Nat.mul_le_mul_left _ r
   simp [maxLen]
   omega
  rw [b] at f
  refine .value ⟨_,_,_,?_,O,l,f⟩
  have H:¬ (m*sz > 2 ^ 24):=by omega
  have g:(ps.map fun (i,x)=>(i,a.eval x)).toList=((ps.toList.map fun p=>a.eval p.2).zipIdx 0).map fun x=>(x.2,x.1):=by
   rw [Array.toList_map]
   exact WV K a.eval
  by_cases h0:m*sz=0
  ·rw [Ae h0] at hzc
   subst hzc
   simp only [Instr.buildSlice,Sem.run_bind,run_underlying hu,Result.andThen_ok,BS q,Af H,Ae h0,Sem.run_pure,g,a1,newRow,run_newObj]
   rfl
  ·rw [Af h0] at hzc
   subst hzc
   simp only [Instr.buildSlice,Sem.run_bind,run_underlying hu,Result.andThen_ok,BS q,Af H,Af h0,Sem.run_pure,zeroValue,typeInfo,run_program,G,hv,g,a1,newRow,run_newObj]
   rfl
theorem Below.setRow {B:Nat} {x y:World} (h:Below B x y) {g:Nat} (hg:B≤g) (cs:Array Value):Below B x (y.setRow g cs) :=
 h.trans ⟨rfl,rfl,rfl,by simp,fun k a=>setRow_other y g k cs (by omega)⟩
theorem KeepsObj.setRow {g:Nat} {c:Array Value} {ty:TypeId} (hg:w.heap[g]? = some (.cells c ty (0,0))) (c':Array Value):KeepsObj w (w.setRow g c'):=by
 intro b o h1 h2
 by_cases q:b=g
 ·subst q;rw [hg] at h1;cases h1;cases h2
 ·rw [setRow_other w g b c' q];exact h1
theorem La (M':Mem) (hN:M'.N=M.N) (hb:∀ l,l<M.N→M'.bx l=M.bx l) (hNR:M'.NR=M.NR)
  (hr:∀ id,id<M.NR→M.fr id≤M'.fr id∧(M'.fr id=M.fr id→M'.blk id=M.blk id∧M'.cap id=M.cap id∧M'.rsz id=M.rsz id)) (ht:∀ b,M.top b≤M'.top b)
  {g:Nat} {c c':Array Value} {ty:TypeId} (hg:w.heap[g]? = some (.cells c ty (0,0))) (hg0:w0.heap.size≤g) (hkeep:∀ j,j<M.top g→c'[j]? = c[j]?) (hNL:M'.NL=M.NL:=by rfl) (hlb:M'.lb=M.lb:=by rfl) :
  Ext w0 M w M' (w.setRow g c') :=
 ⟨by omega,hb,by omega,hr,fun b a v e d=>by
  refine ⟨?_,e.imp id (fun q=>Nat.lt_of_lt_of_le q (ht b))⟩
  by_cases hbg:b=g
  ·subst hbg
   have f:a<M.top b:=e.resolve_left (by omega)
   rw [cell_of_row w b a c ty _ hg] at d
   rw [cell_of_row _ b a c' ty _ (setRow_heap w b c c' ty _ hg),hkeep a f]
   exact d
  ·rw [cell_setRow_other w g c' ⟨b,a,none⟩ hbg]
   exact d,by simp,by omega,fun _ _=>by rw [hlb],fun _ _ _=>by omega,fun b o i h _=>KeepsObj.setRow hg c' b o i h⟩
theorem Zdx (h:Rel w0 n M e st a w) (t:TypeId) (x v:Operand) (hob:(Bi P e true st (.store t x v)).1) :
  Yields' P w0 M (Bi P e true st (.store t x v)).2.2 (Bi P e true st (.store t x v)).2.1 w (do Instr.storeAt t (a.eval x) (a.eval v);pure .skip):=by
 unfold Bi at hob ⊢
 cases ht:IX P t with
 | none=>simp [ht] at hob
 | some p =>
  obtain ⟨sz,ag⟩:=p
  simp only [ht] at hob ⊢
  obtain ⟨_,g,hv,hbx,hr,hn,hl,hle⟩:=hob
  have hRx:=Bj h g
  have m:=Bj h hv
  generalize Ar e x=X at hRx hbx hr hle ⊢
  generalize a.eval x=vx at hRx ⊢
  cases X with
  | box l off =>
   cases hRx with
   | box hlN =>
    have ae:l<st.boxes.length:=by simpa [DI] using hr
    obtain ⟨cs,hcs⟩:∃ cs,st.boxes[l]? = some cs:=⟨_,List.getElem?_eq_getElem ae⟩
    have aa:st.boxes.getD l []=cs:=by simp [List.getD,hcs]
    obtain ⟨U,Z,c,Q,D,b4,b5,b6⟩:=h.st.box l cs hcs
    simp only [Br,ET,aa] at hle
    simp only [UP,aa]
    obtain ⟨v1,v2⟩:=m.cells
    have v3:=m.cellsOne (fun vs e=>by rw [e] at hn;cases hn)
    have o:∀ u∈(a.eval v).cells.toList,u.oneCell'=true:=by
     intro u hu
     obtain ⟨k,G,rfl⟩:=List.getElem_of_mem hu
     simp only [Array.length_toList] at G
     rw [Array.getElem_toList]
     exact (v2 k G (by omega)).oneCell (v3 _ (List.getElem_mem _))
    have hst:=run_storeCells_at P (M.bx l) off Q (a.eval v).cells.toList 0 c w D (by simp;omega) o
    simp only [Nat.add_zero] at hst
    generalize hc':(c.toList.take off++(a.eval v).cells.toList++c.toList.drop (off+(a.eval v).cells.toList.length)).toArray=c' at hst
    have z:c'.size=c.size:=by rw [←hc'];simp;omega
    have s:∀ j,c'[j]? = if off≤j∧j<off+(a.eval v).cells.toList.length then (a.eval v).cells.toList[j-off]? else c[j]? := by
     intro j
     rw [←hc',List.getElem?_toArray,List.append_assoc,List.getElem?_append]
     simp only [List.length_take,Array.length_toList]
     have e:min off c.size=off:=by omega
     rw [e]
     by_cases c1:j<off
     ·rw [Ae c1,Af (by omega),List.getElem?_take,Ae c1,Array.getElem?_toList]
     ·rw [Af c1,List.getElem?_append]
      simp only [Array.length_toList]
      by_cases c2:j-off<(a.eval v).cells.size
      ·rw [Ae c2,Ae (by omega)]
      ·rw [Af c2,Af (by omega),List.getElem?_drop,Array.getElem?_toList]
       congr 1
       omega
    have g:Ext w0 M w M (w.setRow (M.bx l) c'):=La M rfl (fun _ _=>rfl) rfl (fun _ _=>⟨Nat.le_refl _,fun _=>⟨rfl,rfl,rfl⟩⟩) (fun _=>Nat.le_refl _) D U (fun j hj=>by rw [Z] at hj;omega)
    have f:RowR w0 M w c' (Dw cs off (Ar e v).cells):=RowR.put ⟨b4,b6⟩ m (by omega) z s
    refine ⟨undef,_,M,.inr ⟨?_,rfl⟩,g,⟨Below.setRow h.st.below U _,by simp [h.st.N],h.st.NR,fun b hb=>h.st.top b (by simpa using hb),h.st.inj,fun E Y hl'=>?_,fun id x y=>(h.st.row id x y).keep g rfl rfl rfl rfl rfl (h.st.row id x y).ne (setRow_other w _ _ _ (Ne.symm ((h.st.row id x y).ne l hlN))),h.st.rowinj,h.st.loop.mono g rfl (KeepsObj.setRow D _)⟩,Zbg⟩
    ·have e0:¬ ((a.eval v).cells.size≠sz):=by omega
     simp only [Instr.storeAt,Instr.sureAddr,Sem.run_bind,Sem.run_pure,Result.andThen_ok,storeVar,BS ht,Af e0,hst]
    ·by_cases ell:E=l
     ·subst ell
      rw [List.getElem?_set_self ae] at hl'
      cases hl'
      exact ⟨U,Z,c',Q,setRow_heap w _ c c' Q _ D,f.1,P1 b5 v3,fun i O F=>(f.2 i O F).mono g⟩
     ·rw [List.getElem?_set_ne (Ne.symm ell)] at hl'
      obtain ⟨d1,d2,d,V,d3,d4,d5,d6⟩:=h.st.box E Y hl'
      have r:E<M.N:=by rw [h.st.N];exact (Ag.1 hl').1
      have H:M.bx E≠M.bx l:=fun q=>ell (h.st.inj E l r hlN q)
      exact ⟨d1,d2,d,V,by rw [setRow_other w _ _ _ H];exact d3,d4,d5,fun i O F=>(d6 i O F).mono g⟩
  | vel id ver off =>
   cases hRx with
   | @vel _ _ _ ad y hver hh =>
    obtain ⟨ai,cs,J⟩:=SJ (show (EW st.rows id ver).isSome=true from hr)
    have f:=Ht J
    obtain ⟨f1,f2,U,Z,f5,f6,f7,c,Q,D,b4,aj,b5,b6⟩:=h.st.row id _ f
    have had:=hh f1.symm
    subst had
    simp only [Br,ET,J] at hle
    simp only [UP,J]
    obtain ⟨v1,v2⟩:=m.cells
    have v3:=m.cellsOne (fun vs e=>by rw [e] at hn;cases hn)
    have o:∀ u∈(a.eval v).cells.toList,u.oneCell'=true:=by
     intro u hu
     obtain ⟨k,G,rfl⟩:=List.getElem_of_mem hu
     simp only [Array.length_toList] at G
     rw [Array.getElem_toList]
     exact (v2 k G (by omega)).oneCell (v3 _ (List.getElem_mem _))
    have hst:=run_storeCells_at P (M.blk id) off Q (a.eval v).cells.toList 0 c w D (by simp;omega) o
    simp only [Nat.add_zero] at hst
    generalize hc':(c.toList.take off++(a.eval v).cells.toList++c.toList.drop (off+(a.eval v).cells.toList.length)).toArray=c' at hst
    have z:c'.size=c.size:=by rw [←hc'];simp;omega
    have s:∀ j,c'[j]? = if off≤j∧j<off+(a.eval v).cells.toList.length then (a.eval v).cells.toList[j-off]? else c[j]? := by
     intro j
     rw [←hc',List.getElem?_toArray,List.append_assoc,List.getElem?_append]
     simp only [List.length_take,Array.length_toList]
     have e:min off c.size=off:=by omega
     rw [e]
     by_cases c1:j<off
     ·rw [Ae c1,Af (by omega),List.getElem?_take,Ae c1,Array.getElem?_toList]
     ·rw [Af c1,List.getElem?_append]
      simp only [Array.length_toList]
      by_cases c2:j-off<(a.eval v).cells.size
      ·rw [Ae c2,Ae (by omega)]
      ·rw [Af c2,Af (by omega),List.getElem?_drop,Array.getElem?_toList]
       congr 1
       omega
    have g:Ext w0 M w M (w.setRow (M.blk id) c'):=La M rfl (fun _ _=>rfl) rfl (fun _ _=>⟨Nat.le_refl _,fun _=>⟨rfl,rfl,rfl⟩⟩) (fun _=>Nat.le_refl _) D U (fun j hj=>by rw [Z] at hj;omega)
    have ab:id<st.rows.length:=(Ag.1 f).1
    have ak:=MA (l:=cs) (xs:=(Ar e v).cells) (off:=off) (by omega)
    refine ⟨undef,_,M,.inr ⟨?_,rfl⟩,g,⟨Below.setRow h.st.below U _,h.st.N,by simp [h.st.NR],fun b hb=>h.st.top b (by simpa using hb),h.st.inj,fun E Y hl'=>?_,fun C x hid'=>?_,h.st.rowinj,h.st.loop.mono g rfl (KeepsObj.setRow D _)⟩,Zbg⟩
    ·have e0:¬ ((a.eval v).cells.size≠sz):=by omega
     simp only [Instr.storeAt,Instr.sureAddr,Sem.run_bind,Sem.run_pure,Result.andThen_ok,storeVar,BS ht,Af e0,hst]
    ·obtain ⟨d1,d2,d,V,d3,d4,d5,d6⟩:=h.st.box E Y hl'
     have r:E<M.N:=by rw [h.st.N];exact (Ag.1 hl').1
     exact ⟨d1,d2,d,V,by rw [setRow_other w _ _ _ (f5 E r)];exact d3,d4,d5,fun i O F=>(d6 i O F).mono g⟩
    ·by_cases ell:C=id
     ·subst ell
      rw [List.getElem?_set_self ab] at hid'
      cases hid'
      refine ⟨f1,f2,U,Z,f5,f6,f7,c',Q,setRow_heap w _ c c' Q _ D,z.trans b4,by omega,P1 b5 v3,fun i O F=>?_⟩
      have af:RowR w0 M w (c'.extract 0 cs.length) (Dw cs off (Ar e v).cells):=by
       have ah:RowR w0 M w (c.extract 0 cs.length) cs:=⟨by simp;omega,fun i O F=>by rw [Array.getElem_extract];simp only [Nat.zero_add];exact b6 i (by omega) F⟩
       refine RowR.put ah m (by omega) (by simp;omega) (fun j=>?_)
       simp only [Array.getElem?_extract,Nat.zero_add,s]
       by_cases q1:j<min cs.length c'.size
       ·rw [Ae (by omega)]
        by_cases q2:off≤j∧j<off+(a.eval v).cells.toList.length
        ·rw [Ae q2,Ae q2]
        ·rw [Af q2,Af q2,Ae (by omega)]
       ·rw [Af (by omega),Af (by simp;omega),Af (by omega)]
      have h3:i<(c'.extract 0 cs.length).size:=by simp;omega
      have:=(af.2 i h3 F).mono g
      rw [Array.getElem_extract] at this
      simpa using this
     ·rw [List.getElem?_set_ne (Ne.symm ell)] at hid'
      have G:=h.st.row C x hid'
      have K:C<M.NR:=by rw [h.st.NR];exact (Ag.1 hid').1
      have H:M.blk C≠M.blk id:=fun q=>ell (h.st.rowinj C id K y q)
      exact G.keep g rfl rfl rfl rfl rfl G.ne (setRow_other w _ _ _ H)
  | _=>cases hbx
end
section
variable {P:Program} {w0:World} {n:Nat} {M:Mem} {e:Env} {st:St} {a:Act} {w:World}
def flat (us:Nat→Value) (m:Nat):List Value:=(List.range m).flatMap fun i=>(us i).cells.toList
theorem Wi (us:Nat→Value) (m:Nat):flat us (m+1)=flat us m++(us m).cells.toList:=by
 simp [flat,List.range_succ]
theorem A2 {us:Nat→Value} {sz:Nat}:∀ {m:Nat},(∀ i,i<m→(us i).cells.size=sz)→(flat us m).length=m*sz
 | 0,_=>by simp [flat]
 | m+1,h=>by
  rw [Wi,List.length_append,A2 (fun i a=>h i (by omega)),Array.length_toList,h m (by omega),Nat.succ_mul]
theorem Jw {us:Nat→Value} {sz:Nat}:∀ {m:Nat},(∀ i,i<m→(us i).cells.size=sz)→∀ i,i<m→∀ j,j<sz→(flat us m)[i*sz+j]? = (us i).cells[j]?
 | 0,_,i,a,_,_=>absurd a (by omega)
 | m+1,h,i,a,j,hj=>by
  have b:=A2 (us:=us) (m:=m) (fun i a=>h i (by omega))
  rw [Wi,List.getElem?_append,b]
  by_cases c:i=m
  ·subst c
   rw [Af (by omega),show i*sz+j-i*sz=j from by omega,Array.getElem?_toList]
  ·have d:(i+1)*sz≤m*sz:=Nat.mul_le_mul_right _ (by omega)
   rw [Nat.succ_mul] at d
   rw [Ae (by omega)]
   exact Jw (fun i a=>h i (by omega)) i (by omega) j hj
theorem GF {us:Nat→Value} {sz m:Nat} (hs:∀ i,i<m→(us i).cells.size=sz) {b off:Nat} (hsz:0<sz) (hc:∀ i,i<m→∀ j,j<sz→w.cell? ⟨b,off+i*sz+j,none⟩=(us i).cells[j]?) :
  ∀ j u,(flat us m)[j]? = some u→w.cell? ((⟨b,off,none⟩:Addr).add j)=some u:=by
 intro j u d
 have k:=A2 hs
 have l:j<m*sz:=by rw [←k];exact (Ag.1 d).1
 have e:=Nat.div_add_mod j sz
 have h:j / sz<m:=(Nat.div_lt_iff_lt_mul hsz).2 l
 have a:=Nat.mod_lt j hsz
 have f:=Jw hs (j / sz) h (j % sz) a
 have g:=hc (j / sz) h (j % sz) a
 have c:j / sz*sz+j % sz=j:=by rw [Nat.mul_comm];exact e
 rw [c] at f
 rw [Nat.add_assoc,c] at g
 rw [E4,g,←f,d]
theorem R.list_open {v:Value} {xs:List AV} {o:Own} {sz:Nat} (h:R w0 M w v (.list xs o)) (hs:∀ y∈xs,y.cells.length=sz) :
  ∃ us:Nat→Value,(∀ i (hi:i<xs.length),(us i).cells.size=sz∧R w0 M w (us i) xs[i]) ∧
   (((v = .slice none 0 0∨∃ ad,v = .slice (some ad) 0 0)∧xs=[]∧∀ id,o ≠ .row id)∨∃ b off cap sz',v = .slice (some ⟨b,off,none⟩) xs.length cap∧xs.length≤cap∧cap≤maxLen∧Zd4 M b off cap xs.length sz' o ∧
    ∀ i,i<xs.length→∀ j,j<sz→w.cell? ⟨b,off+i*sz+j,none⟩=(us i).cells[j]?):=by
 cases h with
 | nil ho=>exact ⟨fun _=>undef,fun i hi=>absurd hi (by simp),.inl ⟨.inl rfl,rfl,ho⟩⟩
 | emp ho=>exact ⟨fun _=>undef,fun i hi=>absurd hi (by simp),.inl ⟨.inr ⟨_,rfl⟩,rfl,ho⟩⟩
 | @list b off cap _ _ sz' us hc hm hcell hu ho =>
  have a:∀ i (hi:i<xs.length),(us i).cells.size=sz:=fun i hi=>by rw [(hu i hi).cells.1];exact hs _ (List.getElem_mem _)
  refine ⟨us,fun i hi=>⟨a i hi,hu i hi⟩,.inr ⟨b,off,cap,sz',rfl,hc,hm,ho,fun i hi j c=>?_⟩⟩
  have e:sz'=sz:=by rw [←(hcell i hi).1,a i hi]
  subst e
  exact ((hcell i hi).2 j c).2
theorem Ud {us:Nat→Value} {xs:List AV} {sz:Nat} (hu:∀ i (hi:i<xs.length),(us i).cells.size=sz∧R w0 M w (us i) xs[i]) (hn:∀ y∈xs,Bc y=true):∀ u∈flat us xs.length,u.oneCell'=true:=by
 intro u g
 obtain ⟨i,hi,c⟩:=List.mem_flatMap.1 g
 have a:i<xs.length:=List.mem_range.1 hi
 obtain ⟨hs,f⟩:=hu i a
 obtain ⟨k,d,rfl⟩:=List.getElem_of_mem c
 simp only [Array.length_toList] at d
 rw [Array.getElem_toList]
 have b:=f.cellsOne (fun vs e=>by have:=hn _ (List.getElem_mem a);rw [e] at this;cases this)
 exact (f.cells.2 k d (by rw [←f.cells.1];exact d)).oneCell (b _ (List.getElem_mem _))
def Mem.addRow (M:Mem) (b cap k sz tp:Nat):Mem :=
  { M with NR:=M.NR+1,fr:=fun i=>if i=M.NR then k else M.fr i,blk:=fun i=>if i=M.NR then b else M.blk i,cap:=fun i=>if i=M.NR then cap else M.cap i,
           rsz:=fun i=>if i=M.NR then sz else M.rsz i,top:=fun x=>if x=b then tp else M.top x }
def Mem.growRow (M:Mem) (id b cap k tp:Nat):Mem :=
 { M with fr:=fun i=>if i=id then k else M.fr i,blk:=fun i=>if i=id then b else M.blk i,cap:=fun i=>if i=id then cap else M.cap i,top:=fun x=>if x=b then tp else M.top x }
theorem RelSt.addRow' (h:RelSt w0 M st w) {cs:Array Value} {ty:TypeId} {cap k sz tp:Nat} {x:RowA}
  (hnew:Ext w0 M w (M.addRow w.heap.size cap k sz tp) (w.alloc (.cells cs ty))→(∀ l,l<M.N→M.bx l≠w.heap.size)→RowOk w0 (M.addRow w.heap.size cap k sz tp) (w.alloc (.cells cs ty)) M.NR x) :
  RelSt w0 (M.addRow w.heap.size cap k sz tp) { st with rows:=st.rows++[x] } (w.alloc (.cells cs ty))∧Ext w0 M w (M.addRow w.heap.size cap k sz tp) (w.alloc (.cells cs ty)):=by
 have f:∀ b,b<w.heap.size→(M.addRow w.heap.size cap k sz tp).top b=M.top b:=fun b n=>by simp [Mem.addRow];omega
 have a:∀ i,i<M.NR→(M.addRow w.heap.size cap k sz tp).fr i=M.fr i∧(M.addRow w.heap.size cap k sz tp).blk i=M.blk i∧(M.addRow w.heap.size cap k sz tp).cap i=M.cap i∧(M.addRow w.heap.size cap k sz tp).rsz i=M.rsz i:=by
  intro i p
  have:¬ i=M.NR:=by omega
  simp [Mem.addRow,this]
 have m:Ext w0 M w (M.addRow w.heap.size cap k sz tp) (w.alloc (.cells cs ty)) :=
  Pj _ _ (.inl rfl) (fun _ _=>rfl) (Nat.le_succ _) (fun i p=>by obtain ⟨a1,a2,a3,a4⟩:=a i p;exact ⟨by omega,fun _=>⟨a2,a3,a4⟩⟩) (fun b n=>by rw [f b n];exact Nat.le_refl _)
 have q:∀ l,l<M.N→M.bx l≠w.heap.size:=fun l r=>by have:=h.box_lt r;omega
 refine ⟨⟨h.below.alloc h.base_le _,h.N,by simp [Mem.addRow,h.NR],fun b n=>?_,h.inj,fun l c r=>?_,fun id y hid=>?_,fun i j p v d=>?_,h.loop.mono m rfl (KeepsObj.alloc _ _)⟩,m⟩
 ·simp at n
  have:(M.addRow w.heap.size cap k sz tp).top b=M.top b:=by simp [Mem.addRow];omega
  rw [this]
  exact h.top b (by omega)
 ·obtain ⟨a1,a2,F,s,a3,a4,a5,a6⟩:=h.box l c r
  have g:=(Array.getElem?_eq_some_iff.1 a3).1
  exact ⟨a1,by rw [show (M.addRow w.heap.size cap k sz tp).bx l=M.bx l from rfl,f _ g];exact a2,F,s,by rw [show (M.addRow w.heap.size cap k sz tp).bx l=M.bx l from rfl,BK _ _ g];exact a3,a4,a5,fun i C G=>(a6 i C G).mono m⟩
 ·by_cases e1:id=M.NR
  ·subst e1
   simp only [h.NR,List.getElem?_concat_length,Option.some.injEq] at hid
   subst hid
   exact hnew m q
  ·have e:id<M.NR:=by
    have:id<(st.rows++[x]).length:=(Ag.1 hid).1
    have t:=h.NR
    simp at this
    omega
   rw [List.getElem?_append_left (by rw [←h.NR];exact e)] at hid
   have o:=h.row id y hid
   obtain ⟨D,E,u,z⟩:=a id e
   exact o.keep m D z E u (f _ o.lt) o.ne (BK _ _ o.lt)
 ·have t:(M.addRow w.heap.size cap k sz tp).NR=M.NR+1:=rfl
  rw [t] at p v
  have new:(M.addRow w.heap.size cap k sz tp).blk M.NR=w.heap.size:=by simp [Mem.addRow]
  by_cases e1:i=M.NR
  ·by_cases e2:j=M.NR
   ·omega
   ·subst e1
    rw [new,(a j (by omega)).2.1] at d
    have:=h.row_lt (i:=j) (by omega)
    omega
  ·by_cases e2:j=M.NR
   ·subst e2
    rw [new,(a i (by omega)).2.1] at d
    have:=h.row_lt (i:=i) (by omega)
    omega
   ·rw [(a i (by omega)).2.1,(a j (by omega)).2.1] at d
    exact h.rowinj i j (by omega) (by omega) d
theorem RelSt.addRow (h:RelSt w0 M st w) {cs:Array Value} {ty:TypeId} {cap k sz:Nat} (hm:cap≤maxLen) (hk:k≤cap) (hs:cs.size=cap*sz) :
  RelSt w0 (M.addRow w.heap.size cap k sz (k*sz)) { st with rows:=st.rows++[.grow k sz] } (w.alloc (.cells cs ty))∧Ext w0 M w (M.addRow w.heap.size cap k sz (k*sz)) (w.alloc (.cells cs ty)) :=
 h.addRow' fun _ a=>by
  have q:(M.addRow w.heap.size cap k sz (k*sz)).fr M.NR=k∧(M.addRow w.heap.size cap k sz (k*sz)).blk M.NR=w.heap.size∧(M.addRow w.heap.size cap k sz (k*sz)).cap M.NR=cap∧(M.addRow w.heap.size cap k sz (k*sz)).rsz M.NR=sz∧(M.addRow w.heap.size cap k sz (k*sz)).top w.heap.size=k*sz:=by simp [Mem.addRow]
  obtain ⟨e,f,b,c,d⟩:=q
  simp only [RowOk,e,f,b,c,d]
  exact ⟨trivial,trivial,h.base_le,trivial,a,hm,hk,cs,ty,heap_alloc_new w _,hs⟩
theorem RelSt.addVec (h:RelSt w0 M st w) {cs:Array Value} {ty:TypeId} {cap sz:Nat} {xs:List AV} (hm:cap≤maxLen) (hz:0<sz) (hs:cs.size=cap*sz) (hl:xs.length≤cs.size) (h1:∀ x∈xs,x.one=true) (hR:∀ (i:Nat) (v:Value) (x:AV),cs[i]? = some v→xs[i]? = some x→R w0 M w v x) :
  RelSt w0 (M.addRow w.heap.size cap 0 sz 0) { st with rows:=st.rows++[.vec 0 sz xs] } (w.alloc (.cells cs ty))∧Ext w0 M w (M.addRow w.heap.size cap 0 sz 0) (w.alloc (.cells cs ty)) :=
 h.addRow' fun g c=>by
  have q:(M.addRow w.heap.size cap 0 sz 0).fr M.NR=0∧(M.addRow w.heap.size cap 0 sz 0).blk M.NR=w.heap.size∧(M.addRow w.heap.size cap 0 sz 0).cap M.NR=cap∧(M.addRow w.heap.size cap 0 sz 0).rsz M.NR=sz∧(M.addRow w.heap.size cap 0 sz 0).top w.heap.size=0:=by simp [Mem.addRow]
  obtain ⟨j,k,d,e,f⟩:=q
  simp only [RowOk,j,k,d,e,f]
  exact ⟨trivial,trivial,h.base_le,trivial,c,hm,hz,cs,ty,heap_alloc_new w _,hs,hl,h1,fun i a b=>(hR i _ _ (Array.getElem?_eq_getElem a) (List.getElem?_eq_getElem b)).mono g⟩
theorem RelSt.growRow' (h:RelSt w0 M st w) {id:Nat} {x0 x:RowA} (hid:st.rows[id]? = some x0) {w':World} {b cap k tp:Nat} (hbelow:Below w0.heap.size w w')
  (hsize:w.heap.size≤w'.heap.size) (hbw:b<w'.heap.size) (hbox:∀ l,l<M.N→M.bx l≠b∧w'.heap[M.bx l]? = w.heap[M.bx l]?) (hrow:∀ i,i<M.NR→i≠id→M.blk i≠b∧w'.heap[M.blk i]? = w.heap[M.blk i]?)
  (hnew:RowOk w0 (M.growRow id b cap k tp) w' id x) (hx:Ext w0 M w (M.growRow id b cap k tp) w') (hko:KeepsObj w w') :
  RelSt w0 (M.growRow id b cap k tp) { st with rows:=st.rows.set id x } w':=by
 have e:id<st.rows.length:=(Ag.1 hid).1
 refine ⟨h.below.trans hbelow,h.N,by simp [Mem.growRow,h.NR],fun y z=>?_,h.inj,fun l c s=>?_,fun i y hi=>?_,fun i j hi n a=>?_,h.loop.mono hx rfl hko⟩
 ·have:(M.growRow id b cap k tp).top y=M.top y:=by simp [Mem.growRow];omega
  rw [this]
  exact h.top y (by omega)
 ·obtain ⟨a1,a2,E,p,a3,a4,a5,a6⟩:=h.box l c s
  have o:l<M.N:=by rw [h.N];exact (Ag.1 s).1
  obtain ⟨f,g⟩:=hbox l o
  refine ⟨a1,?_,E,p,by rw [show (M.growRow id b cap k tp).bx l=M.bx l from rfl,g];exact a3,a4,a5,fun i f g=>(a6 i f g).mono hx⟩
  show (M.growRow id b cap k tp).top (M.bx l)=0
  simp [Mem.growRow,f,a2]
 ·by_cases e1:i=id
  ·subst e1
   rw [List.getElem?_set_self e] at hi
   cases hi
   exact hnew
  ·rw [List.getElem?_set_ne (Ne.symm e1)] at hi
   have m:i<M.NR:=by rw [h.NR];exact (Ag.1 hi).1
   have r:=h.row i y hi
   obtain ⟨f,g⟩:=hrow i m e1
   have q:(M.growRow id b cap k tp).fr i=M.fr i∧(M.growRow id b cap k tp).blk i=M.blk i∧(M.growRow id b cap k tp).cap i=M.cap i∧(M.growRow id b cap k tp).rsz i=M.rsz i∧(M.growRow id b cap k tp).top (M.blk i)=M.top (M.blk i):=by simp [Mem.growRow,e1,f]
   obtain ⟨F,u,v,C,t⟩:=q
   exact r.keep hx F C u v t r.ne g
 ·have d:∀ j,(M.growRow id b cap k tp).blk j=if j=id then b else M.blk j:=fun j=>rfl
  rw [d,d] at a
  have D:(M.growRow id b cap k tp).NR=M.NR:=rfl
  rw [D] at hi n
  by_cases e1:i=id
  ·by_cases e2:j=id
   ·omega
   ·rw [Ae e1,Af e2] at a
    exact absurd a.symm (hrow j n e2).1
  ·by_cases e2:j=id
   ·rw [Af e1,Ae e2] at a
    exact absurd a (hrow i hi e1).1
   ·rw [Af e1,Af e2] at a
    exact h.rowinj i j hi n a
theorem RelSt.growRow (h:RelSt w0 M st w) {id:Nat} {k0 sz:Nat} (hid:st.rows[id]? = some (.grow k0 sz)) {w':World} {b cap k:Nat} (hb0:w0.heap.size≤b) (hbelow:Below w0.heap.size w w')
  (hsize:w.heap.size≤w'.heap.size) (hbw:b<w'.heap.size) (hm:cap≤maxLen) (hk:k≤cap) (hbox:∀ l,l<M.N→M.bx l≠b∧w'.heap[M.bx l]? = w.heap[M.bx l]?) (hrow:∀ i,i<M.NR→i≠id→M.blk i≠b∧w'.heap[M.blk i]? = w.heap[M.blk i]?)
  {cs:Array Value} {ty:TypeId} (hcs:w'.heap[b]? = some (.cells cs ty (0,0))) (hs:cs.size=cap*sz) (hx:Ext w0 M w (M.growRow id b cap k (k*sz)) w') (hko:KeepsObj w w') :
  RelSt w0 (M.growRow id b cap k (k*sz)) { st with rows:=st.rows.set id (.grow k sz) } w':=by
 refine h.growRow' hid hbelow hsize hbw hbox hrow ?_ hx hko
 have q:(M.growRow id b cap k (k*sz)).fr id=k∧(M.growRow id b cap k (k*sz)).blk id=b∧(M.growRow id b cap k (k*sz)).cap id=cap∧(M.growRow id b cap k (k*sz)).rsz id=M.rsz id∧(M.growRow id b cap k (k*sz)).top b=k*sz:=by simp [Mem.growRow]
 obtain ⟨f,g,a,d,e⟩:=q
 simp only [RowOk,f,g,a,d,e]
 exact ⟨trivial,(h.row id _ hid).2.1,hb0,trivial,fun l c=>(hbox l c).1,hm,hk,cs,ty,hcs,hs⟩
def Yh (us ux:Nat→Value) (k:Nat):Nat→Value:=fun i=>if i<k then us i else ux (i-k)
theorem Zaa {us ux:Nat→Value} {xs ys:List AV} {sz:Nat} {M':Mem} {w':World} (hx:Ext w0 M w M' w') (h1:∀ i (hi:i<xs.length),(us i).cells.size=sz∧R w0 M w (us i) xs[i]) (h2:∀ i (hi:i<ys.length),(ux i).cells.size=sz∧R w0 M w (ux i) ys[i]) :
  ∀ i (hi:i<(xs++ys.map AV.pub).length),(Yh us ux xs.length i).cells.size=sz∧R w0 M' w' (Yh us ux xs.length i) (xs++ys.map AV.pub)[i]:=by
 intro i hi
 unfold Yh
 by_cases c:i<xs.length
 ·rw [Ae c,List.getElem_append_left c]
  exact ⟨(h1 i c).1,((h1 i c).2).mono hx⟩
 ·simp at hi
  rw [Af c,List.getElem_append_right (by omega),List.getElem_map]
  exact ⟨(h2 _ (by omega)).1,((h2 _ (by omega)).2).pub.mono hx⟩
theorem Zc {us ux:Nat→Value} {k m sz:Nat} (hs:∀ i,i<k→(us i).cells.size=sz) (hx:∀ i,i<m→(ux i).cells.size=sz) (zs:List Value) :
  ∀ i,i<k+m→∀ j,j<sz→(flat us k++flat ux m++zs)[i*sz+j]? = (Yh us ux k i).cells[j]? := by
 intro i g j a
 have d:=A2 hs
 have f:=A2 hx
 rw [List.append_assoc,List.getElem?_append,d]
 unfold Yh
 by_cases c:i<k
 ·have q:(i+1)*sz≤k*sz:=Nat.mul_le_mul_right _ c
  rw [Nat.succ_mul] at q
  rw [Ae (by omega),Ae c]
  exact Jw hs i c j a
 ·have q:k*sz≤i*sz:=Nat.mul_le_mul_right _ (by omega)
  have b:(i-k+1)*sz≤m*sz:=Nat.mul_le_mul_right _ (by omega)
  rw [Nat.succ_mul] at b
  have e:i*sz=k*sz+(i-k)*sz:=by rw [←Nat.add_mul];congr 1;omega
  rw [Af (by omega),Af c,List.getElem?_append,f,Ae (by omega),show i*sz+j-k*sz=(i-k)*sz+j from by omega]
  exact Jw hx (i-k) (by omega) j a
theorem Zz (t ty el:TypeId) {sz:Nat} {ag:Bool} (ht:P.underlying t=some (.slice el)) (hty:IX P el=some (sz,ag)) (g k cap:Nat) (cur:Array Value) (te:TypeId) (hg:w.heap[g]? = some (.cells cur te (0,0)))
  {x:Value} {m:Nat} (hlen:(Builtin.lenOf x).run P w = .ok m w) (news:List Value) (hf:(Builtin.firstCells sz m x).run P w = .ok news.toArray w) (h1:∀ u∈news,u.oneCell'=true)
  (hroom:k+m≤cap) (hfit:k*sz+news.length≤cur.size) :
  (Builtin.append_ #[t,t] ty #[.slice (some ⟨g,0,none⟩) k cap,x]).run P w =
   .ok (.slice (some ⟨g,0,none⟩) (k+m) cap) (w.setRow g (cur.toList.take (k*sz)++news++cur.toList.drop (k*sz+news.length)).toArray):=by
 have b:=run_storeCells_at P g (k*sz) te news 0 cur w hg (by simpa using hfit) h1
 simp only [Nat.add_zero] at b
 obtain ⟨i,d,c,hsz,_,_⟩:=M4 hty
 subst hsz
 have a:(⟨g,0,none⟩:Addr).add (k*i.size)=⟨g,k*i.size,none⟩:=by rw [E4,Nat.zero_add]
 simp [Builtin.append_,run_underlying ht,sizeOf,typeInfo,c,hlen,hroom,hf,a,b]
theorem Np {ys:List AV} {sz:Nat} (hs:∀ y∈ys,y.cells.length=sz):(ys.flatMap fun y=>y.pub.cells).length=ys.length*sz:=by
 induction ys with
 | nil=>simp
 | cons y ys ih =>
  rw [List.flatMap_cons,List.length_append,ih (fun z a=>hs z (by simp [a])),AV.pub_cells_length,hs y (by simp),List.length_cons,Nat.succ_mul]
  omega
theorem Zed {sz:Nat}:∀ (ys:List AV),(∀ y∈ys,y.cells.length=sz)→∀ i y,ys[i]? = some y→∀ k,k<sz→(ys.flatMap fun y=>y.pub.cells)[i*sz+k]? = y.pub.cells[k]?
 | [],_,i,y,h,_,_=>by simp at h
 | x::ys,hs,0,y,h,k,hk=>by
  simp only [List.getElem?_cons_zero,Option.some.injEq] at h
  subst h
  rw [List.flatMap_cons,Nat.zero_mul,Nat.zero_add,List.getElem?_append_left (by rw [AV.pub_cells_length,hs x (by simp)];exact hk)]
 | x::ys,hs,i+1,y,h,k,hk=>by
  have a:x.pub.cells.length=sz:=by rw [AV.pub_cells_length];exact hs x (by simp)
  rw [List.flatMap_cons,List.getElem?_append_right (by rw [a,Nat.succ_mul];omega),a,show (i+1)*sz+k-sz=i*sz+k from by rw [Nat.succ_mul];omega]
  exact Zed ys (fun z b=>hs z (by simp [b])) i y (by simpa using h) k hk
theorem XF {ux:Nat→Value} {ys:List AV} (hu:∀ i (hi:i<ys.length),R w0 M w (ux i) ys[i]) (hn:∀ y∈ys,Bc y=true):∀ x∈ys.flatMap (fun y=>y.pub.cells),x.one=true:=by
 intro x c
 obtain ⟨y,b,a⟩:=List.mem_flatMap.1 c
 obtain ⟨i,hi,rfl⟩:=List.mem_iff_getElem.1 b
 refine ((hu i hi).pub).cellsOne (fun vs e=>?_) x a
 have:=hn _ b
 cases h:ys[i]<;>rw [h] at e this<;>first | (cases this;done) | (cases e;done)
theorem ZfP {ux:Nat→Value} {ys:List AV} {sz:Nat} (hz:0<sz) (hu:∀ i (hi:i<ys.length),(ux i).cells.size=sz∧R w0 M w (ux i) ys[i]) (hs:∀ y∈ys,y.cells.length=sz) {j:Nat} {v:Value} {x:AV} (hv:(flat ux ys.length)[j]? = some v) (hx:(ys.flatMap fun y=>y.pub.cells)[j]? = some x):R w0 M w v x:=by
 have h:j<ys.length*sz:=by rw [←Np hs];exact (Ag.1 hx).1
 have hi:j / sz<ys.length:=(Nat.div_lt_iff_lt_mul hz).2 h
 have c:=Nat.mod_lt j hz
 have e:j / sz*sz+j % sz=j:=by rw [Nat.mul_comm];exact Nat.div_add_mod j sz
 have a:=Jw (us:=ux) (sz:=sz) (fun i hi=>(hu i hi).1) (j / sz) hi (j % sz) c
 have b:=Zed ys hs (j / sz) _ (List.getElem?_eq_getElem hi) (j % sz) c
 rw [e] at a b
 rw [hv] at a
 rw [hx] at b
 obtain ⟨_,f⟩:=((hu _ hi).2).pub.cells
 obtain ⟨k,l⟩:=Array.getElem?_eq_some_iff.1 a.symm
 obtain ⟨d,g⟩:=Ag.1 b.symm
 rw [←l,←g]
 exact f _ k d
theorem W5 (h:Rel w0 n M e st a w) (s x:Operand) (t ty:TypeId) (hs:AU e true s) (hx:AU e true x) (hob:(BC P st t (Ar e s) (Ar e x)).1) :
  Yields' P w0 M (BC P st t (Ar e s) (Ar e x)).2.2 (BC P st t (Ar e s) (Ar e x)).2.1 w (do pure (.value (← Builtin.append_ #[t,t] ty #[a.eval s,a.eval x]))):=by
 have hRs:=Bj h hs
 have hRx:=Bj h hx
 generalize Ar e s=S at hRs hob ⊢
 generalize Ar e x=X at hRx hob ⊢
 generalize a.eval s=vs at hRs ⊢
 generalize a.eval x=vx at hRx ⊢
 unfold BC at hob ⊢
 cases he:Kx P t with
 | none=>simp [he] at hob
 | some p =>
  obtain ⟨el,sz,ag,bn⟩:=p
  simp only [he] at hob ⊢
  obtain ⟨f,hu,g,a1,a7⟩:=G5 he
  have r:f.size=sz:=by
   obtain ⟨i',d,h1,h2,_⟩:=M4 a7
   rw [g] at h1;cases h1;exact h2
  cases S with
  | list xs o =>
   cases o with
   | none=>exact hob.elim
   | full =>
   simp only at hob ⊢
   by_cases hl0:(A4 X).length=0
   ·rw [Ae hl0] at hob ⊢
    obtain ⟨lx,K⟩:=hob
    obtain ⟨ys,o',rfl⟩:=Ib lx
    simp only [A4] at hl0
    have:ys=[]:=List.length_eq_zero_iff.1 hl0
    subst this
    refine .here h.st (v:=vs) ?_ hRs
    have be:(Builtin.lenOf vx).run P w = .ok 0 w∧(Builtin.firstCells sz 0 vx).run P w = .ok #[] w:=by
     cases hRx with
     | nil _=>exact ⟨rfl,rfl⟩
     | emp _=>exact ⟨rfl,by simp [Builtin.firstCells,loadCells,loadCellsFrom]⟩
     | list=>exact ⟨rfl,by simp [Builtin.firstCells,loadCells,loadCellsFrom]⟩
    obtain ⟨bc,bd⟩:=be
    have a9:∀ (ad:Option Addr) (ln cap:Nat),ln≤cap→(Builtin.append_ #[t,t] ty #[.slice ad ln cap,vx]).run P w = .ok (.slice ad ln cap) w:=fun ad ln cap Z=>by
     cases ad with
     | none=>simp [Builtin.append_,run_underlying hu,sizeOf,typeInfo,g,r,bc,bd,Z]
     | some ad=>simp [Builtin.append_,run_underlying hu,sizeOf,typeInfo,g,r,bc,bd,Z,storeCells]
    cases hRs with
    | nil _=>exact a9 none 0 0 (Nat.le_refl _)
    | emp _=>exact a9 _ 0 0 (Nat.le_refl _)
    | list sz us hc=>exact a9 _ _ _ hc
   rw [Af hl0] at hob ⊢
   obtain ⟨lx,⟨K,hz,G,a0,cx⟩,cs⟩:=hob
   obtain ⟨ys,o',rfl⟩:=Ib lx
   simp only [A4] at *
   have hpos:0<ys.length:=by omega
   obtain ⟨z,aq⟩:=Option.isSome_iff_exists.1 hz
   obtain ⟨i',v,hi',hv,hc,aa,rfl⟩:=Gl aq
   rw [g] at hi';cases hi'
   obtain ⟨us,u1,u2⟩:=hRs.list_open cs
   obtain ⟨ux,x1,x2⟩:=hRx.list_open (fun y hy=>(cx y hy).1)
   have am:∀ i,i<xs.length→(us i).cells.size=sz:=fun i g=>(u1 i g).1
   have m:∀ i,i<ys.length→(ux i).cells.size=sz:=fun i g=>(x1 i g).1
   rcases x2 with ⟨_,q,_⟩ | ⟨bx,ox,cx',_,rfl,_,_,_,hcx⟩
   ·subst q;exact absurd hpos (by simp)
   have J:=GF (w:=w) m K hcx
   have O:xs.length+ys.length≤maxLen:=by simp [maxLen];omega
   have F:∀ (Q:Nat) (zs:List Value) (cells:Array Value),cells.toList=flat us xs.length++flat ux ys.length++zs→zs.length=(grownCap w (xs.length+ys.length) Q el-(xs.length+ys.length))*sz →
     (Builtin.append_ #[t,t] ty #[vs,.slice (some ⟨bx,ox,none⟩) ys.length cx']).run P w = .ok (.slice (some ⟨w.heap.size,0,none⟩) (xs.length+ys.length) (grownCap w (xs.length+ys.length) Q el)) (w.drew.alloc (.cells cells el)) →
     Yields' P w0 M { st with rows:=st.rows++[.grow (xs.length+ys.length) sz] } (.list (xs++ys.map AV.pub) (.row st.rows.length)) w (do pure (.value (← Builtin.append_ #[t,t] ty #[vs,.slice (some ⟨bx,ox,none⟩) ys.length cx']))):=by
    intro Q zs cells E a8 hrun
    obtain ⟨d1,d2⟩:=h.st.drew
    have af:=grownCap_ge w (xs.length+ys.length) Q el
    have Z:=grownCap_le_maxLen w (xs.length+ys.length) Q el O
    have H:cells.size=grownCap w (xs.length+ys.length) Q el*sz:=by
     have:cells.size=cells.toList.length:=by simp
     rw [this,E]
     simp only [List.length_append,A2 am,A2 m,a8]
     rw [←Nat.add_mul,←Nat.add_mul]
     congr 1
     omega
    obtain ⟨r1,r2⟩:=d1.addRow (cs:=cells) (ty:=el) (sz:=sz) Z af H
    have ah:=Zaa (w0:=w0) d2 u1 x1
    have D:(xs++ys.map AV.pub).length=xs.length+ys.length:=by simp
    have Y:=R.row (w0:=w0) (M:=M) (w:=w.drew) (us:=Yh us ux xs.length) (xs:=xs++ys.map AV.pub) (cs:=cells) (ty:=el) (sz:=sz) (k:=(xs.length+ys.length)*sz) (cap:=grownCap w (xs.length+ys.length) Q el) (o := .row st.rows.length) ah
     (fun i g j hj=>by
      rw [D] at g
      rw [←Array.getElem?_toList,E]
      exact Zc am m zs i g j hj) (by rw [D];exact af) Z (by rw [D];exact Nat.le_refl _) (M.addRow w.drew.heap.size (grownCap w (xs.length+ys.length) Q el) (xs.length+ys.length) sz ((xs.length+ys.length)*sz)) (by simp [Mem.addRow]) r2
     (by
      have hN:=h.st.NR
      refine ⟨by simp [Mem.addRow,hN],by rw [D];simp [Mem.addRow,hN],fun _=>by simp [Mem.addRow,hN]⟩)
    rw [D] at Y
    exact .value ⟨_,_,_,hrun,d2.trans r2,r1,Y⟩
   have ae:(flat ux ys.length).length=ys.length*f.size:=by rw [A2 m,r]
   have ai:(xs.length+ys.length)*f.bytes≤140737488355328:=by rw [a1];exact G
   rcases u2 with ⟨rfl | ⟨ad,rfl⟩,q,_⟩ | ⟨bs,os,cps,sz',rfl,_,_,ho,hcs'⟩
   ·subst q
    simp only [List.length_nil,Nat.zero_add] at *
    have hrun:=run_append_nil (P:=P) w t ty el f v hu g hv ⟨bx,ox,none⟩ ys.length cx' (flat ux ys.length) ae J hpos (by omega) (by omega)
    refine F 0 (Builtin.zeroCells v.cells (grownCap w ys.length 0 el-ys.length)).toList _ ?_ ?_ hrun
    ·simp [flat]
    ·simp only [Array.length_toList,size_zeroCells,aa,r]
   ·subst q
    simp only [List.length_nil,Nat.zero_add] at *
    have hrun:=run_append_grow (P:=P) w t ty el f v hu g hv ad 0 0 [] (by simp) (fun j u hu=>by simp at hu) ⟨bx,ox,none⟩ ys.length cx' (flat ux ys.length) ae J (by omega) (by rw [Nat.zero_add];omega) (growslice_fits (by omega) (by rw [Nat.zero_add];exact ai))
    simp only [Nat.zero_add] at hrun
    refine F 0 (Builtin.zeroCells v.cells (grownCap w ys.length 0 el-ys.length)).toList _ ?_ ?_ hrun
    ·simp [flat]
    ·simp only [Array.length_toList,size_zeroCells,aa,r]
   ·have hcap:xs.length=cps:=ho
    have ao:=GF (w:=w) am K hcs'
    have av:(flat us xs.length).length=xs.length*f.size:=by rw [A2 am,r]
    have hrun:=run_append_grow (P:=P) w t ty el f v hu g hv ⟨bs,os,none⟩ xs.length cps (flat us xs.length) av ao ⟨bx,ox,none⟩ ys.length cx' (flat ux ys.length) ae J (by omega) (by omega) (growslice_fits (by omega) ai)
    refine F cps (Builtin.zeroCells v.cells (grownCap w (xs.length+ys.length) cps el-(xs.length+ys.length))).toList _ ?_ ?_ hrun
    ·simp
    ·simp only [Array.length_toList,size_zeroCells,aa,r]
   | seed =>
   simp only at hob ⊢
   obtain ⟨lx,⟨K,hz,G,a0,cx⟩,bf,hpos⟩:=hob
   obtain ⟨ys,o',rfl⟩:=Ib lx
   have:xs=[]:=List.length_eq_zero_iff.1 bf
   subst this
   simp only [A4,Nat.zero_add] at *
   obtain ⟨z,aq⟩:=Option.isSome_iff_exists.1 hz
   obtain ⟨i',v,hi',hv,hc,aa,rfl⟩:=Gl aq
   rw [g] at hi';cases hi'
   obtain ⟨ux,x1,x2⟩:=hRx.list_open (fun y hy=>(cx y hy).1)
   have m:∀ i,i<ys.length→(ux i).cells.size=sz:=fun i g=>(x1 i g).1
   rcases x2 with ⟨_,q,_⟩ | ⟨bx,ox,cx',_,rfl,_,_,_,hcx⟩
   ·subst q;exact absurd hpos (by simp)
   have J:=GF (w:=w) m K hcx
   have O:ys.length≤maxLen:=by simp [maxLen];omega
   have ae:(flat ux ys.length).length=ys.length*f.size:=by rw [A2 m,r]
   have ai:ys.length*f.bytes≤140737488355328:=by rw [a1];exact G
   have F:∀ (Q:Nat) (zs:List Value) (cells:Array Value),cells.toList=flat ux ys.length++zs→zs.length=(grownCap w ys.length Q el-ys.length)*sz →
     (Builtin.append_ #[t,t] ty #[vs,.slice (some ⟨bx,ox,none⟩) ys.length cx']).run P w = .ok (.slice (some ⟨w.heap.size,0,none⟩) ys.length (grownCap w ys.length Q el)) (w.drew.alloc (.cells cells el)) →
     Yields' P w0 M { st with rows:=st.rows++[.vec 0 sz (ys.flatMap fun y=>y.pub.cells)] } (.vec st.rows.length 0 0 ys.length) w (do pure (.value (← Builtin.append_ #[t,t] ty #[vs,.slice (some ⟨bx,ox,none⟩) ys.length cx']))):=by
    intro Q zs cells E a8 hrun
    obtain ⟨d1,d2⟩:=h.st.drew
    have af:=grownCap_ge w ys.length Q el
    have Z:=grownCap_le_maxLen w ys.length Q el O
    have H:cells.size=grownCap w ys.length Q el*sz:=by
     have:cells.size=cells.toList.length:=by simp
     rw [this,E]
     simp only [List.length_append,A2 m,a8]
     rw [←Nat.add_mul]
     congr 1
     omega
    have a2:=Np (fun y hy=>(cx y hy).1)
    obtain ⟨r1,r2⟩:=d1.addVec (cs:=cells) (ty:=el) (sz:=sz) (xs:=ys.flatMap fun y=>y.pub.cells) Z K H (by rw [H,a2];exact Nat.mul_le_mul_right _ af) (XF (fun i g=>((x1 i g).2).mono d2) (fun y hy=>(cx y hy).2))
     (fun i v x ap ak=>by
      have bb:i<ys.length*sz:=by rw [←a2];exact (Ag.1 ak).1
      rw [←Array.getElem?_toList,E,List.getElem?_append_left (by rw [A2 m];exact bb)] at ap
      exact (ZfP K x1 (fun y hy=>(cx y hy).1) ap ak).mono d2)
    refine .value ⟨_,_,_,hrun,d2.trans r2,r1,?_⟩
    have hN:=h.st.NR
    refine .vec (by simp [Mem.addRow,hN]) (Nat.zero_le _) fun _=>⟨by simp [Mem.addRow,hN],by simp [Mem.addRow,hN],af⟩
   (cases hRs with
   | nil ho =>
    have hrun:=run_append_nil (P:=P) w t ty el f v hu g hv ⟨bx,ox,none⟩ ys.length cx' (flat ux ys.length) ae J hpos (by omega) (by omega)
    refine F 0 (Builtin.zeroCells v.cells (grownCap w ys.length 0 el-ys.length)).toList _ ?_ ?_ hrun
    ·simp
    ·simp only [Array.length_toList,size_zeroCells,aa,r]
   | @emp ad _ ho =>
    have hrun:=run_append_grow (P:=P) w t ty el f v hu g hv ad 0 0 [] (by simp) (fun j u hu=>by simp at hu) ⟨bx,ox,none⟩ ys.length cx' (flat ux ys.length) ae J (by omega) (by rw [Nat.zero_add];omega) (growslice_fits (by omega) (by rw [Nat.zero_add];exact ai))
    simp only [Nat.zero_add] at hrun
    refine F 0 (Builtin.zeroCells v.cells (grownCap w ys.length 0 el-ys.length)).toList _ ?_ ?_ hrun
    ·simp
    ·simp only [Array.length_toList,size_zeroCells,aa,r]
   | @list b off cap _ _ sz' us hc' hm' hcell hu' ho =>
    have hcap:(0:Nat)=cap:=ho
    subst hcap
    have hrun:=run_append_grow (P:=P) w t ty el f v hu g hv ⟨b,off,none⟩ 0 0 [] (by simp) (fun j u hu=>by simp at hu) ⟨bx,ox,none⟩ ys.length cx' (flat ux ys.length) ae J (by omega) (by rw [Nat.zero_add];omega) (growslice_fits (by omega) (by rw [Nat.zero_add];exact ai))
    simp only [Nat.zero_add] at hrun
    refine F 0 (Builtin.zeroCells v.cells (grownCap w ys.length 0 el-ys.length)).toList _ ?_ ?_ hrun
    ·simp
    ·simp only [Array.length_toList,size_zeroCells,aa,r])
   | row id =>
   simp only at hob ⊢
   obtain ⟨lx,⟨K,hz,G,a0,cx⟩,cs,aj⟩:=hob
   obtain ⟨ys,o',rfl⟩:=Ib lx
   simp only [A4] at *
   obtain ⟨z,aq⟩:=Option.isSome_iff_exists.1 hz
   obtain ⟨i',v,hi',hv,hc,aa,rfl⟩:=Gl aq
   rw [g] at hi';cases hi'
   obtain ⟨us,u1,u2⟩:=hRs.list_open cs
   obtain ⟨ux,x1,x2⟩:=hRx.list_open (fun y hy=>(cx y hy).1)
   have am:∀ i,i<xs.length→(us i).cells.size=sz:=fun i g=>(u1 i g).1
   have m:∀ i,i<ys.length→(ux i).cells.size=sz:=fun i g=>(x1 i g).1
   have U:id<M.NR:=by rw [h.st.NR];exact (Ag.1 aj).1
   obtain ⟨f1,f2,f3,f4,f5,f6,f7,cur,te,f8,f9⟩:=h.st.row id _ aj
   rcases u2 with ⟨_,_,q⟩ | ⟨bs,os,cps,sz',rfl,_,_,ho,hcs'⟩
   ·exact absurd rfl (q id)
   obtain ⟨_,_,bg⟩:=ho
   obtain ⟨e1,e2,e3,_⟩:=bg f1.symm
   subst e1;subst e2;subst e3
   have D:(xs++ys.map AV.pub).length=xs.length+ys.length:=by simp
   have a6:(Builtin.lenOf vx).run P w = .ok ys.length w:=by
    rcases x2 with ⟨rfl | ⟨_,rfl⟩,q,_⟩ | ⟨bx,ox,cx',_,rfl,_⟩
    ·subst q;rfl
    ·subst q;rfl
    ·rfl
   have ae:(flat ux ys.length).length=ys.length*f.size:=by rw [A2 m,r]
   have ar:(Builtin.firstCells sz ys.length vx).run P w = .ok (flat ux ys.length).toArray w:=by
    rcases x2 with ⟨rfl | ⟨_,rfl⟩,q,_⟩ | ⟨bx,ox,cx',_,rfl,_,_,_,hcx⟩
    ·subst q;rfl
    ·subst q;simp [Builtin.firstCells,loadCells,loadCellsFrom,flat]
    ·exact run_firstCells_some w sz ys.length ⟨bx,ox,none⟩ ys.length cx' (flat ux ys.length) (A2 m) (GF (w:=w) m K hcx)
   by_cases hroom:xs.length+ys.length≤M.cap id
   ·-- there is room
    have ay:xs.length*sz+(flat ux ys.length).length≤cur.size:=by rw [A2 m,f9,←Nat.add_mul];exact Nat.mul_le_mul_right _ hroom
    have hrun:=Zz (P:=P) (w:=w) t ty el hu a7 (M.blk id) xs.length (M.cap id) cur te f8 a6 (flat ux ys.length) ar (Ud x1 (fun y hy=>(cx y hy).2)) hroom ay
    generalize hc':(cur.toList.take (xs.length*sz)++flat ux ys.length++cur.toList.drop (xs.length*sz+(flat ux ys.length).length)).toArray=cur' at hrun
    have au:cur'.size=cur.size:=by rw [←hc'];simp;omega
    have az:∀ j,j<xs.length*sz→cur'[j]? = cur[j]? := by
     intro j hj
     rw [←hc',List.getElem?_toArray,List.append_assoc,List.getElem?_append_left (by simp;omega),List.getElem?_take,Ae hj,Array.getElem?_toList]
    have ba:∀ j,j<ys.length*sz→cur'[xs.length*sz+j]? = (flat ux ys.length)[j]? := by
     intro j hj
     have l2:=A2 m
     rw [←hc',List.getElem?_toArray,List.append_assoc,List.getElem?_append_right (by simp;omega)]
     simp only [List.length_take,Array.length_toList]
     have e:min (xs.length*sz) cur.size=xs.length*sz:=by omega
     rw [e,show xs.length*sz+j-xs.length*sz=j from by omega,List.getElem?_append_left (by rw [l2];exact hj)]
    have C:Ext w0 M w (M.growRow id (M.blk id) (M.cap id) (xs.length+ys.length) ((xs.length+ys.length)*sz)) (w.setRow (M.blk id) cur'):=by
     refine La (M:=M) (M.growRow id (M.blk id) (M.cap id) (xs.length+ys.length) ((xs.length+ys.length)*sz)) rfl (fun _ _=>rfl) rfl (fun i g=>?_) (fun b=>?_) f8 f3 (fun j hj=>az j (by rw [f4] at hj;exact hj))
     ·by_cases c:i=id
      ·subst c
       simp only [Mem.growRow,if_true,f1]
       exact ⟨by omega,fun _=>⟨trivial,trivial,trivial⟩⟩
      ·simp only [Mem.growRow,Af c]
       exact ⟨Nat.le_refl _,fun _=>⟨trivial,trivial,trivial⟩⟩
     ·simp only [Mem.growRow]
      split
      ·rename_i c
       rw [c,f4]
       exact Nat.mul_le_mul_right _ (by omega)
      ·exact Nat.le_refl _
    have ax:=h.st.row_lt U
    have ab:=h.st.growRow aj (w':=w.setRow (M.blk id) cur') (b:=M.blk id) (cap:=M.cap id) (k:=xs.length+ys.length) f3 (Below.setRow (Below.refl _ _) f3 _) (by simp) (by simpa using ax) f6 hroom
     (fun l hl=>⟨f5 l hl,setRow_other w _ _ _ (f5 l hl)⟩) (fun i g aw=>by
      have:M.blk i≠M.blk id:=fun q=>aw (h.st.rowinj i id g U q)
      exact ⟨this,setRow_other w _ _ _ this⟩) (setRow_heap w _ cur cur' te _ f8) (by rw [au];exact f9) C (KeepsObj.setRow f8 _)
    have ah:=Zaa (w0:=w0) C u1 x1
    have Y:=R.list (w0:=w0) (M:=M.growRow id (M.blk id) (M.cap id) (xs.length+ys.length) ((xs.length+ys.length)*sz)) (w:=w.setRow (M.blk id) cur') (b:=M.blk id) (off:=0) (cap:=M.cap id) (xs:=xs++ys.map AV.pub) (o := .row id) sz (Yh us ux xs.length) (by rw [D];exact hroom) f6
     (fun i g=>⟨(ah i g).1,fun j hj=>by
      rw [D] at g
      have q1:(i+1)*sz≤(xs.length+ys.length)*sz:=Nat.mul_le_mul_right _ g
      rw [Nat.succ_mul] at q1
      refine ⟨.inr ?_,?_⟩
      ·simp only [Mem.growRow,if_true]
       omega
      ·rw [Nat.zero_add,cell_of_row _ _ _ cur' te _ (setRow_heap w _ cur cur' te _ f8)]
       unfold Yh
       by_cases c:i<xs.length
       ·have q:(i+1)*sz≤xs.length*sz:=Nat.mul_le_mul_right _ c
        rw [Nat.succ_mul] at q
        have:=hcs' i c j hj
        rw [Nat.zero_add,cell_of_row _ _ _ cur te _ f8] at this
        rw [Ae c,az _ (by omega),this]
       ·have q:(i-xs.length+1)*sz≤ys.length*sz:=Nat.mul_le_mul_right _ (by omega)
        rw [Nat.succ_mul] at q
        have e:i*sz=xs.length*sz+(i-xs.length)*sz:=by rw [←Nat.add_mul];congr 1;omega
        rw [Af c,show i*sz+j=xs.length*sz+((i-xs.length)*sz+j) from by omega,ba _ (by omega)]
        exact Jw m _ (by omega) j hj⟩) (fun i g=>(ah i g).2)
     (by
      rw [D]
      refine ⟨U,by simp [Mem.growRow],fun _=>⟨by simp [Mem.growRow],rfl,by simp [Mem.growRow],?_⟩⟩
      simp [Mem.growRow,f2])
    rw [D] at Y
    exact .value ⟨_,_,_,hrun,C,ab,Y⟩
   ·-- a new row
    have hypos:0<ys.length:=by omega
    rcases x2 with ⟨_,q,_⟩ | ⟨bx,ox,cx',_,rfl,_,_,_,hcx⟩
    ·subst q;simp at hypos
    have J:=GF (w:=w) m K hcx
    have ao:=GF (w:=w) am K hcs'
    have av:(flat us xs.length).length=xs.length*f.size:=by rw [A2 am,r]
    have ai:(xs.length+ys.length)*f.bytes≤140737488355328:=by rw [a1];exact G
    have hrun:=run_append_grow (P:=P) w t ty el f v hu g hv ⟨M.blk id,0,none⟩ xs.length (M.cap id) (flat us xs.length) av ao ⟨bx,ox,none⟩ ys.length cx' (flat ux ys.length) ae J (by omega) (by omega) (growslice_fits (by omega) ai)
    have O:xs.length+ys.length≤maxLen:=by simp [maxLen];omega
    have af:=grownCap_ge w (xs.length+ys.length) (M.cap id) el
    have Z:=grownCap_le_maxLen w (xs.length+ys.length) (M.cap id) el O
    generalize hcl:((flat us xs.length).toArray++(flat ux ys.length).toArray++Builtin.zeroCells v.cells (grownCap w (xs.length+ys.length) (M.cap id) el-(xs.length+ys.length)))=cells at hrun
    have V:cells.toList=flat us xs.length++flat ux ys.length++(Builtin.zeroCells v.cells (grownCap w (xs.length+ys.length) (M.cap id) el-(xs.length+ys.length))).toList:=by rw [←hcl];simp
    generalize grownCap w (xs.length+ys.length) (M.cap id) el=gc at *
    have H:cells.size=gc*sz:=by
     have:cells.size=cells.toList.length:=by simp
     rw [this,V]
     simp only [List.length_append,A2 am,A2 m,Array.length_toList,size_zeroCells,aa,r]
     rw [←Nat.add_mul,←Nat.add_mul]
     congr 1
     omega
    obtain ⟨d1,d2⟩:=h.st.drew
    have C:Ext w0 M w.drew (M.growRow id w.drew.heap.size gc (xs.length+ys.length) ((xs.length+ys.length)*sz)) (w.drew.alloc (.cells cells el)):=by
     refine Pj _ _ (.inl rfl) (fun _ _=>rfl) (Nat.le_refl _) (fun i g=>?_) (fun b hb=>?_)
     ·by_cases c:i=id
      ·subst c
       simp only [Mem.growRow,if_true,f1]
       exact ⟨by omega,fun q=>absurd q (by omega)⟩
      ·simp only [Mem.growRow,Af c]
       exact ⟨Nat.le_refl _,fun _=>⟨trivial,trivial,trivial⟩⟩
     ·simp only [Mem.growRow]
      rw [Af (by omega)]
      exact Nat.le_refl _
    have ab:=d1.growRow aj (w':=w.drew.alloc (.cells cells el)) (b:=w.drew.heap.size) (cap:=gc) (k:=xs.length+ys.length) h.st.base_le ((Below.refl _ w.drew).alloc h.st.base_le _) (by simp) (by simp) Z af
     (fun l hl=>by have:=h.st.box_lt hl;exact ⟨fun q=>by simp at q;omega,BK _ _ this⟩) (fun i g aw=>by have:=h.st.row_lt g;exact ⟨fun q=>by simp at q;omega,BK _ _ this⟩) (heap_alloc_new w.drew _) H C (KeepsObj.alloc _ _)
    have ah:=Zaa (w0:=w0) d2 u1 x1
    have Y:=R.row (w0:=w0) (M:=M) (w:=w.drew) (us:=Yh us ux xs.length) (xs:=xs++ys.map AV.pub) (cs:=cells) (ty:=el) (sz:=sz) (k:=(xs.length+ys.length)*sz) (cap:=gc) (o := .row id) ah
     (fun i g j hj=>by
      rw [D] at g
      rw [←Array.getElem?_toList,V]
      exact Zc am m _ i g j hj) (by rw [D];exact af) Z (by rw [D];exact Nat.le_refl _) (M.growRow id w.drew.heap.size gc (xs.length+ys.length) ((xs.length+ys.length)*sz)) (by simp [Mem.growRow]) C
     (by
      refine ⟨U,by rw [D];simp [Mem.growRow],fun _=>⟨by simp [Mem.growRow],rfl,by simp [Mem.growRow],?_⟩⟩
      simp [Mem.growRow,f2])
    rw [D] at Y
    exact .value ⟨_,_,_,hrun,d2.trans C,ab,Y⟩
  | vec id ver o n' =>
   simp only at hob ⊢
   cases hvr:EW st.rows id ver with
   | none=>simp [hvr] at hob
   | some q =>
   obtain ⟨sz',cs⟩:=q
   simp only [hvr] at hob ⊢
   obtain ⟨lx,⟨K,hz,G,a0,cx⟩,rfl,rfl,bk⟩:=hob
   obtain ⟨ys,o',rfl⟩:=Ib lx
   simp only [A4] at *
   obtain ⟨z,aq⟩:=Option.isSome_iff_exists.1 hz
   obtain ⟨i',v,hi',hv,hc,aa,rfl⟩:=Gl aq
   rw [g] at hi';cases hi'
   have aj:=Ht hvr
   have U:id<M.NR:=by rw [h.st.NR];exact (Ag.1 aj).1
   obtain ⟨f1,f2,f3,f4,f5,f6,f7,cur,te,f8,f9,bl,bi,bh⟩:=h.st.row id _ aj
   cases hRs with
   | @vec _ _ _ _ p cap hid' hver hh =>
   obtain ⟨rfl,hcap,bm⟩:=hh f1.symm
   simp only [Nat.add_zero,Nat.zero_mul] at hcap ⊢
   subst hcap
   obtain ⟨ux,x1,x2⟩:=hRx.list_open (fun y hy=>(cx y hy).1)
   have m:∀ i,i<ys.length→(ux i).cells.size=sz':=fun i g=>(x1 i g).1
   have a6:(Builtin.lenOf vx).run P w = .ok ys.length w:=by
    rcases x2 with ⟨rfl | ⟨_,rfl⟩,q,_⟩ | ⟨bx,ox,cx',_,rfl,_⟩
    ·subst q;rfl
    ·subst q;rfl
    ·rfl
   have ae:(flat ux ys.length).length=ys.length*f.size:=by rw [A2 m,r]
   have ar:(Builtin.firstCells sz' ys.length vx).run P w = .ok (flat ux ys.length).toArray w:=by
    rcases x2 with ⟨rfl | ⟨_,rfl⟩,q,_⟩ | ⟨bx,ox,cx',_,rfl,_,_,_,hcx⟩
    ·subst q;rfl
    ·subst q;simp [Builtin.firstCells,loadCells,loadCellsFrom,flat]
    ·exact run_firstCells_some w sz' ys.length ⟨bx,ox,none⟩ ys.length cx' (flat ux ys.length) (A2 m) (GF (w:=w) m K hcx)
   have a2:=Np (fun y hy=>(cx y hy).1)
   have a5:=XF (fun i g=>(x1 i g).2) (fun y hy=>(cx y hy).2)
   have hcl:(cs.take (n'*sz')++ys.flatMap fun y=>y.pub.cells).length=(n'+ys.length)*sz':=by
    rw [List.length_append,a2,List.length_take,Nat.add_mul];omega
   have a4:∀ x∈cs.take (n'*sz')++ys.flatMap (fun y=>y.pub.cells),x.one=true:=by
    intro x hx
    rcases List.mem_append.1 hx with hx | hx
    ·exact bi x (List.mem_of_mem_take hx)
    ·exact a5 x hx
   -- what the new cells stand for,in whatever block they lie
   have E:∀ (cells:Array Value) (zs:List Value),cells.toList=cur.toList.take (n'*sz')++flat ux ys.length++zs→∀ (i:Nat) (v:Value) (x:AV),cells[i]? = some v→(cs.take (n'*sz')++ys.flatMap fun y=>y.pub.cells)[i]? = some x→R w0 M w v x:=by
    intro cells zs hcl' i v x ap ak
    have bb:i<(n'+ys.length)*sz':=by rw [←hcl];exact (Ag.1 ak).1
    rw [Nat.add_mul] at bb
    have bj:(cur.toList.take (n'*sz')).length=n'*sz':=by simp;omega
    rw [←Array.getElem?_toList,hcl',List.append_assoc] at ap
    by_cases q:i<n'*sz'
    ·rw [List.getElem?_append_left (by omega),List.getElem?_take,Ae q,Array.getElem?_toList] at ap
     rw [List.getElem?_append_left (by simp;omega),List.getElem?_take,Ae q] at ak
     obtain ⟨q1,rfl⟩:=Array.getElem?_eq_some_iff.1 ap
     obtain ⟨q2,rfl⟩:=Ag.1 ak
     exact bh i q1 q2
    ·rw [List.getElem?_append_right (by omega),bj,List.getElem?_append_left (by rw [A2 m];omega)] at ap
     rw [List.getElem?_append_right (by simp;omega)] at ak
     have e:(cs.take (n'*sz')).length=n'*sz':=by simp;omega
     rw [e] at ak
     exact ZfP K x1 (fun y hy=>(cx y hy).1) ap ak
   by_cases hroom:n'+ys.length≤M.cap id
   ·-- there is room
    have ay:n'*sz'+(flat ux ys.length).length≤cur.size:=by rw [A2 m,f9,←Nat.add_mul];exact Nat.mul_le_mul_right _ hroom
    have hrun:=Zz (P:=P) (w:=w) t ty el hu a7 (M.blk id) n' (M.cap id) cur te f8 a6 (flat ux ys.length) ar (Ud x1 (fun y hy=>(cx y hy).2)) hroom ay
    generalize hc':(cur.toList.take (n'*sz')++flat ux ys.length++cur.toList.drop (n'*sz'+(flat ux ys.length).length)).toArray=cur' at hrun
    have au:cur'.size=cur.size:=by rw [←hc'];simp;omega
    have C:Ext w0 M w (M.growRow id (M.blk id) (M.cap id) (ver+1) 0) (w.setRow (M.blk id) cur'):=by
     refine La (M:=M) (M.growRow id (M.blk id) (M.cap id) (ver+1) 0) rfl (fun _ _=>rfl) rfl (fun i g=>?_) (fun b=>?_) f8 f3 (fun j hj=>by rw [f4] at hj;omega)
     ·by_cases c:i=id
      ·subst c
       simp only [Mem.growRow,if_true,f1]
       exact ⟨by omega,fun q=>absurd q (by omega)⟩
      ·simp only [Mem.growRow,Af c]
       exact ⟨Nat.le_refl _,fun _=>⟨trivial,trivial,trivial⟩⟩
     ·simp only [Mem.growRow]
      split
      ·rename_i c
       rw [c,f4]
       exact Nat.le_refl _
      ·exact Nat.le_refl _
    have ax:=h.st.row_lt U
    have q:(M.growRow id (M.blk id) (M.cap id) (ver+1) 0).fr id=ver+1∧(M.growRow id (M.blk id) (M.cap id) (ver+1) 0).blk id=M.blk id∧(M.growRow id (M.blk id) (M.cap id) (ver+1) 0).cap id=M.cap id∧(M.growRow id (M.blk id) (M.cap id) (ver+1) 0).rsz id=M.rsz id∧(M.growRow id (M.blk id) (M.cap id) (ver+1) 0).top (M.blk id)=0:=by simp [Mem.growRow]
    obtain ⟨q1,q2,q3,q4,q5⟩:=q
    have ab:=h.st.growRow' aj (x := .vec (ver+1) sz' (cs.take (n'*sz')++ys.flatMap fun y=>y.pub.cells)) (w':=w.setRow (M.blk id) cur') (b:=M.blk id) (cap:=M.cap id) (k:=ver+1) (tp:=0) (Below.setRow (Below.refl _ _) f3 _) (by simp) (by simpa using ax)
     (fun l hl=>⟨f5 l hl,setRow_other w _ _ _ (f5 l hl)⟩) (fun i g aw=>by
      have:M.blk i≠M.blk id:=fun q=>aw (h.st.rowinj i id g U q)
      exact ⟨this,setRow_other w _ _ _ this⟩) (by
      simp only [RowOk,q1,q2,q3,q4,q5]
      exact ⟨trivial,f2,f3,trivial,f5,f6,K,cur',te,setRow_heap w _ cur cur' te _ f8,au.trans f9,by rw [hcl,au,f9];exact Nat.mul_le_mul_right _ hroom,a4,
       fun i a b=>(E cur' _ (by rw [←hc']) i _ _ (Array.getElem?_eq_getElem a) (List.getElem?_eq_getElem b)).mono C⟩) C (KeepsObj.setRow f8 _)
    exact .value ⟨_,_,_,hrun,C,ab,.vec U (by rw [q1];exact Nat.le_refl _) fun _=>⟨by rw [q2];simp,by rw [q3];rfl,hroom⟩⟩
   ·-- a new block
    have hypos:0<ys.length:=by omega
    rcases x2 with ⟨_,q,_⟩ | ⟨bx,ox,cx',_,rfl,_,_,_,hcx⟩
    ·subst q;simp at hypos
    have J:=GF (w:=w) m K hcx
    have ai:(n'+ys.length)*f.bytes≤140737488355328:=by rw [a1];exact G
    have ao:∀ (j:Nat) (u:Value),(cur.toList.take (n'*sz'))[j]? = some u→w.cell? ((⟨M.blk id,0,none⟩:Addr).add j)=some u:=by
     intro j u hj
     rw [List.getElem?_take] at hj
     split at hj
     ·rw [E4,Nat.zero_add,cell_of_row w _ j cur te _ f8,←Array.getElem?_toList];exact hj
     ·cases hj
    have av:(cur.toList.take (n'*sz')).length=n'*f.size:=by simp;rw [r];omega
    have hrun:=run_append_grow (P:=P) w t ty el f v hu g hv ⟨M.blk id,0,none⟩ n' (M.cap id) (cur.toList.take (n'*sz')) av ao ⟨bx,ox,none⟩ ys.length cx' (flat ux ys.length) ae J (by omega) (by omega) (growslice_fits (by omega) ai)
    have O:n'+ys.length≤maxLen:=by simp [maxLen];omega
    have af:=grownCap_ge w (n'+ys.length) (M.cap id) el
    have Z:=grownCap_le_maxLen w (n'+ys.length) (M.cap id) el O
    generalize hcl':((cur.toList.take (n'*sz')).toArray++(flat ux ys.length).toArray++Builtin.zeroCells v.cells (grownCap w (n'+ys.length) (M.cap id) el-(n'+ys.length)))=cells at hrun
    have V:cells.toList=cur.toList.take (n'*sz')++flat ux ys.length++(Builtin.zeroCells v.cells (grownCap w (n'+ys.length) (M.cap id) el-(n'+ys.length))).toList:=by rw [←hcl'];simp
    generalize grownCap w (n'+ys.length) (M.cap id) el=gc at *
    have H:cells.size=gc*sz':=by
     have:cells.size=cells.toList.length:=by simp
     rw [this,V]
     simp only [List.length_append,av,A2 m,Array.length_toList,size_zeroCells,aa,r]
     rw [←Nat.add_mul,←Nat.add_mul]
     congr 1
     omega
    obtain ⟨d1,d2⟩:=h.st.drew
    have C:Ext w0 M w.drew (M.growRow id w.drew.heap.size gc (ver+1) 0) (w.drew.alloc (.cells cells el)):=by
     refine Pj _ _ (.inl rfl) (fun _ _=>rfl) (Nat.le_refl _) (fun i g=>?_) (fun b hb=>?_)
     ·by_cases c:i=id
      ·subst c
       simp only [Mem.growRow,if_true,f1]
       exact ⟨by omega,fun q=>absurd q (by omega)⟩
      ·simp only [Mem.growRow,Af c]
       exact ⟨Nat.le_refl _,fun _=>⟨trivial,trivial,trivial⟩⟩
     ·simp only [Mem.growRow]
      rw [Af (by omega)]
      exact Nat.le_refl _
    have q:(M.growRow id w.drew.heap.size gc (ver+1) 0).fr id=ver+1∧(M.growRow id w.drew.heap.size gc (ver+1) 0).blk id=w.drew.heap.size∧(M.growRow id w.drew.heap.size gc (ver+1) 0).cap id=gc∧(M.growRow id w.drew.heap.size gc (ver+1) 0).rsz id=M.rsz id∧(M.growRow id w.drew.heap.size gc (ver+1) 0).top w.drew.heap.size=0:=by simp [Mem.growRow]
    obtain ⟨q1,q2,q3,q4,q5⟩:=q
    have a3:∀ l,l<M.N→M.bx l≠w.drew.heap.size:=fun l hl=>by have:=h.st.box_lt hl;intro q;simp at q;omega
    have ab:=d1.growRow' aj (x := .vec (ver+1) sz' (cs.take (n'*sz')++ys.flatMap fun y=>y.pub.cells)) (w':=w.drew.alloc (.cells cells el)) (b:=w.drew.heap.size) (cap:=gc) (k:=ver+1) (tp:=0) ((Below.refl _ w.drew).alloc h.st.base_le _) (by simp) (by simp)
     (fun l hl=>by have:=h.st.box_lt hl;exact ⟨a3 l hl,BK _ _ this⟩) (fun i g aw=>by have:=h.st.row_lt g;exact ⟨fun q=>by simp at q;omega,BK _ _ this⟩) (by
      simp only [RowOk,q1,q2,q3,q4,q5]
      exact ⟨trivial,f2,h.st.base_le,trivial,a3,Z,K,cells,el,heap_alloc_new w.drew _,H,by rw [hcl,H];exact Nat.mul_le_mul_right _ af,a4,
       fun i a b=>((E cells _ V i _ _ (Array.getElem?_eq_getElem a) (List.getElem?_eq_getElem b)).mono d2).mono C⟩) C (KeepsObj.alloc _ _)
    exact .value ⟨_,_,_,hrun,d2.trans C,ab,.vec U (by rw [q1];exact Nat.le_refl _) fun _=>⟨by rw [q2];simp,by rw [q3];rfl,af⟩⟩
  | _=>exact hob.elim
theorem Yields'.congr {s s':Sem Next} {st':St} {r:AV} (h:Yields' P w0 M st' r w s) (e:s'.run P w=s.run P w):Yields' P w0 M st' r w s':=by
 obtain ⟨v,c,M',a,b⟩:=h
 exact ⟨v,c,M',by rw [e];exact a,b⟩
theorem LK (b:Builtin) (args:Array Operand) (ts:Array TypeId) (dst:Option Tmp) (type:TypeId) (pos:String) (after:Array Edge) (guard:Option (Nat × Bool)) (s:Sem Value)
  (hb:∀ cs,builtin b ts type cs (args.map a.eval)=(do pure (.value (← s)):Sem Next)) :
  (execOp a.eval ⟨dst,.call ⟨.builtin b,args,ts⟩,type,pos,after,guard⟩).run P w=((do pure (.value (← s)):Sem Next)).run P w:=by
 simp only [execOp,resolve,invoke,Sem.run_bind,Sem.run_pure,Result.andThen_ok]
 rw [hb]
 simp
theorem SV {t:TypeId} (h:I5 P t=true):∃ el,P.underlying t=some (.slice el)∧P.underlying el=some (.int .u8)∧IX P el=some (1,false):=by
 unfold I5 at h
 split at h
 ·rename_i el h1
  simp only [Bool.and_eq_true] at h
  obtain ⟨h2,h3⟩:=h
  refine ⟨el,h1,?_,?_⟩
  ·split at h2
   ·assumption
   ·cases h2
  ·split at h3
   ·assumption
   ·cases h3
 ·cases h
theorem Zi (r:Int):(Utf8.encode r).size≤4:=by
 unfold Utf8.encode
 dsimp only
 (repeat' split)<;>simp [ByteArray.size]
theorem Zam (h:Rel w0 n M e st a w) (s d:TypeId) (x:Operand) (hob:(Bi P e true st (.convert s d x)).1) :
  Yields' P w0 M (Bi P e true st (.convert s d x)).2.2 (Bi P e true st (.convert s d x)).2.1 w (do pure (.value (← convert s d (a.eval x)))):=by
 unfold Bi at hob ⊢
 cases hs:NZ P s with
 | some k1 =>
  cases hd:NZ P d with
  | some k =>
   simp only [hs,hd] at hob ⊢
   obtain ⟨r,hi,Z⟩:=hob
   obtain ⟨V,_⟩:=(Bj h r).int hi
   rw [V]
   refine .here h.st (v := .int k (AO (Ar e x))) ?_ (.flat rfl)
   simp [convert,run_underlying (RE hs),run_underlying (RE hd),Conv.intToInt,MJ Z]
  | none =>
   simp only [hs,hd] at hob ⊢
   obtain ⟨r,hi,O⟩:=hob
   obtain ⟨V,_⟩:=(Bj h r).int hi
   rw [V]
   exact .here h.st (run_convert_int_string w s d _ _ (by rw [RE hs];rfl) (FO O)) (.flat (Ad (Nat.le_trans (Zi _) (by decide))))
 | none =>
  simp only [hs] at hob ⊢
  by_cases z:(EG P s&&EG P d)=true
  ·simp only [z,if_true] at hob ⊢
   simp only [Bool.and_eq_true] at z
   obtain ⟨r,hi⟩:=hob
   have hR:=Bj h r
   refine .here h.st (v:=a.eval x) ?_ hR
   obtain ⟨q,hq⟩:∃ q,Ar e x = .val (.string q):=by
    cases hv:Ar e x<;>rw [hv] at hi<;>try cases hi
    rename_i v
    cases v<;>first | exact ⟨_,rfl⟩ | cases hi
   rw [hq] at hR
   obtain ⟨ev,_⟩:=hR.val_inv
   rw [ev]
   simp [convert,run_underlying (FO z.1),run_underlying (FO z.2)]
  ·simp only [z,if_false,Bool.false_eq_true] at hob ⊢
   by_cases hc2:(I5 P s&&EG P d)=true
   ·simp only [hc2,if_true] at hob ⊢
    simp only [Bool.and_eq_true] at hc2
    obtain ⟨m,H,G,aa⟩:=SV hc2.1
    split at hob
    ·rename_i id ver o n' hx0
     cases hvr:EW st.rows id ver with
     | none=>simp [hvr] at hob
     | some q =>
     obtain ⟨ab,cs⟩:=q
     simp only [hvr] at hob ⊢
     obtain ⟨r,rfl,ah,c,g⟩:=hob
     have hR:=Bj h r
     rw [hx0] at hR
     obtain ⟨f1,f2,f3,f4,f5,f6,f7,K,te,f8,f9,aj,ai,Y⟩:=h.st.row id _ (Ht hvr)
     obtain ⟨v,hev⟩:∃ v,a.eval x=v:=⟨_,rfl⟩
     rw [hev] at hR ⊢
     cases hR with
     | @vec _ _ _ _ p cap hid hver hh =>
     obtain ⟨rfl,C,ak⟩:=hh f1.symm
     have hl:((cs.drop o).take n').length=n':=by simp;omega
     have f:(GZ ((cs.drop o).take n')).size=n':=by simp [GZ,ByteArray.size];omega
     have t:IV (.string (GZ ((cs.drop o).take n')))=true:=by simp [IV,maxLen,f];exact c
     have:=run_convert_bytes_back (P:=P) w s d m ⟨M.blk id,o*M.rsz id,none⟩ cap (((cs.drop o).take n').map fun x=>UInt8.ofNat (AO x).toNat) H G (FO hc2.2) (fun j F=>by
      have E:j<n':=by rw [List.length_map,hl] at F;exact F
      have Q:((cs.drop o).take n')[j]'(by omega)=cs[o+j]'(by omega):=by simp
      have hq:=g _ (List.getElem_mem (l:=(cs.drop o).take n') (n:=j) (by omega))
      rw [Q] at hq
      have hr:=Y (o+j) (by omega) (by omega)
      rw [E4,f2,Nat.mul_one,cell_of_row w _ (o+j) K te _ f8,Array.getElem?_eq_getElem (show o+j<K.size by omega)]
      simp only [List.getElem_map,Q]
      generalize cs[o+j]'(by omega)=y at hq hr
      cases y with
      | val u =>
       cases u<;>try exact hq.elim
       rename_i k n
       cases k<;>try exact hq.elim
       obtain ⟨n0,n1⟩:0≤n∧n≤255:=hq
       rw [hr.val_inv.1]
       simp only [AO]
       have:(UInt8.ofNat n.toNat).toNat=n.toNat:=by simp;omega
       rw [this]
       simp
       omega
      | _=>exact hq.elim)
     rw [List.length_map,hl] at this
     exact .here h.st (v := .string (GZ ((cs.drop o).take n'))) this (.flat t)
    rename_i hx0
    obtain ⟨r,hi,c,g⟩:=hob
    have hR:=Bj h r
    obtain ⟨xs,o,ae⟩:=Ib hi
    rw [ae] at hR c g ⊢
    simp only [A4] at c g ⊢
    have U:∀ y∈xs,y.cells.length=1:=fun y hy=>by
     have:=g y hy
     cases y<;>first | rfl | exact this.elim
    obtain ⟨us,h1,h2⟩:=hR.list_open U
    have f:(GZ xs).size=xs.length:=by simp [GZ,ByteArray.size]
    have t:IV (.string (GZ xs))=true:=by simp [IV,maxLen,f];exact c
    rcases h2 with ⟨ev | ⟨ad,ev⟩,rfl,_⟩ | ⟨b,off,cap,ab,ev,_,_,_,hcell⟩
    ·rw [ev]
     have:=run_convert_bytes_nil (P:=P) w s m H G 0 0 d (FO hc2.2)
     exact .here h.st (v := .string ByteArray.empty) this (.flat rfl)
    ·rw [ev]
     have:=run_convert_bytes_back (P:=P) w s d m ad 0 [] H G (FO hc2.2) (fun j F=>absurd F (by simp))
     exact .here h.st (v := .string ByteArray.empty) this (.flat rfl)
    ·rw [ev]
     have hb:∀ i (hi:i<xs.length),∃ n:Int,0≤n∧n≤255∧xs[i] = .val (.int .u8 n)∧us i = .int .u8 n:=fun i hi=>by
      have hq:=g _ (List.getElem_mem hi)
      have hr:=(h1 i hi).2
      cases hv:xs[i] with
      | val u =>
       rw [hv] at hq hr
       cases u<;>try exact hq.elim
       rename_i k n
       cases k<;>try exact hq.elim
       exact ⟨n,hq.1,hq.2,rfl,hr.val_inv.1⟩
      | _=>rw [hv] at hq;exact hq.elim
     have:=run_convert_bytes_back (P:=P) w s d m ⟨b,off,none⟩ cap (xs.map fun x=>UInt8.ofNat (AO x).toNat) H G (FO hc2.2) (fun j F=>by
      have E:j<xs.length:=by simpa using F
      obtain ⟨n,n0,n1,Q,e2⟩:=hb j E
      have z:=hcell j E 0 (by omega)
      rw [e2] at z
      simp only [Nat.mul_one,Nat.add_zero] at z
      rw [E4,z]
      simp only [List.getElem_map,Q,AO,Value.cells]
      have:(UInt8.ofNat n.toNat).toNat=n.toNat:=by simp;omega
      rw [this]
      simp
      omega)
     simp only [List.length_map] at this
     exact .here h.st (v := .string (GZ xs)) this (.flat t)
   ·simp only [hc2,if_false,Bool.false_eq_true] at hob ⊢
    by_cases hc3:(EG P s&&I5 P d)=true
    ·simp only [hc3,if_true] at hob ⊢
     simp only [Bool.and_eq_true] at hc3
     obtain ⟨m,H,G,aa⟩:=SV hc3.2
     obtain ⟨_,r,hi⟩:=hob
     have hR:=Bj h r
     obtain ⟨q,hq⟩:∃ q,Ar e x = .val (.string q):=by
      cases hv:Ar e x<;>rw [hv] at hi<;>try cases hi
      rename_i v
      cases v<;>first | exact ⟨_,rfl⟩ | cases hi
     rw [hq] at hR ⊢
     obtain ⟨ev,t⟩:=hR.val_inv
     rw [ev]
     simp only [Zes]
     have ag:q.size≤maxLen:=by simpa [IV] using t
     have N:=Lib.run_convert_string_bytes (P:=P) w s d m q (FO hc3.1) H G
     have J:Below w.heap.size w (Lib.bytesWorld w m q):=⟨rfl,rfl,rfl,by rw [Lib.bytesWorld_size];omega,fun k Z=>Lib.bytesWorld_at_old w m q k Z⟩
     obtain ⟨r1,r2⟩:=h.st.later J w.heap.size q.size (Nat.le_refl _) (.inl (by rw [Lib.bytesWorld_size];omega))
     have C:=grownCap_ge w q.size 0 m
     have D:=grownCap_le_maxLen w q.size 0 m ag
     have c:(Ha q.data.toList).length=q.size:=by simp [Ha]
     refine .value ⟨_,_,_,N,r2,r1,?_⟩
     have:=R.list (w0:=w0) (M:=M.newTop w.heap.size q.size) (w:=Lib.bytesWorld w m q) (b:=w.heap.size) (off:=0) (cap:=grownCap w q.size 0 m) (xs:=Ha q.data.toList) (o := .none) 1 (fun i => .int .u8 (q.data.toList.getD i 0).toNat)
      (by rw [c];exact C) D (fun i hi=>⟨rfl,fun j F=>⟨.inr (by rw [c] at hi;simp [Mem.newTop];omega),by
       rw [c] at hi
       have hj0:j=0:=by omega
       subst hj0
       simp only [Nat.mul_one,Nat.zero_add,Nat.add_zero]
       rw [Lib.bytesWorld_cell w m q i hi]
       rfl⟩⟩) (fun i hi=>by
       have af:i<q.data.toList.length:=by rw [c] at hi;exact hi
       simp only [Ha,List.getElem_map]
       rw [show q.data.toList.getD i 0=q.data.toList[i] from by simp [List.getD,List.getElem?_eq_getElem af]]
       exact .flat rfl) trivial
     rw [c] at this
     exact this
    ·simp only [hc3] at hob
     exact hob.elim
theorem IY {z:List AV} {sz:Nat} (hz:z.length=sz):∀ (m j:Nat) (x:AV),((List.replicate m z).flatten)[j]? = some x→0<sz∧z[j % sz]? = some x
 | 0,j,x,h=>by simp at h
 | m+1,j,x,h=>by
  rw [List.replicate_succ,List.flatten_cons] at h
  by_cases c:j<z.length
  ·rw [List.getElem?_append_left c] at h
   exact ⟨by omega,by rw [Nat.mod_eq_of_lt (by omega)];exact h⟩
  ·rw [List.getElem?_append_right (by omega)] at h
   obtain ⟨b,a⟩:=IY hz m _ x h
   refine ⟨b,?_⟩
   rw [hz] at a
   rw [←a]
   congr 1
   rw [←Nat.mod_eq_sub_mod (by omega)]
theorem Yg (h:Rel w0 n M e st a w) (t:TypeId) (len cap:Operand) (hob:(Bi P e true st (.makeSlice t len cap)).1) :
  Yields' P w0 M (Bi P e true st (.makeSlice t len cap)).2.2 (Bi P e true st (.makeSlice t len cap)).2.1 w (do pure (.value (← Instr.makeSlice t (a.eval len) (a.eval cap)))):=by
 unfold Bi at hob ⊢
 cases he:Kx P t with
 | none=>simp [he] at hob
 | some p =>
 obtain ⟨el,sz,ag,am⟩:=p
 cases hz:CW P el with
 | none=>simp [he,hz] at hob
 | some z =>
 simp only [he,hz] at hob ⊢
 obtain ⟨_,hl,hc,il,ic,h0,h1,ab,ak,V,C,af⟩:=hob
 obtain ⟨H,hu,r,ad,ai⟩:=G5 he
 have aa:H.size=sz:=by
  obtain ⟨i',d,h1,h2,_⟩:=M4 ai
  rw [r] at h1;cases h1;exact h2
 obtain ⟨i',v,hi',hv,s,ao,rfl⟩:=Gl hz
 rw [r] at hi';cases hi'
 obtain ⟨ae,_⟩:=(Bj h hl).int il
 obtain ⟨ah,_⟩:=(Bj h hc).int ic
 generalize AO (Ar e len)=l at *
 generalize AO (Ar e cap)=c at *
 obtain ⟨E,rfl⟩:=Int.eq_ofNat_of_zero_le h0
 obtain ⟨g,rfl⟩:=Int.eq_ofNat_of_zero_le (Int.le_trans h0 h1)
 have b:=run_make (P:=P) w t el H v hu r hv (Kp (Ar e len)) (Kp (Ar e cap)) E g h0 h1 (by rw [ad,Int.mul_comm];omega) (by omega)
 rw [←ae,←ah] at b
 simp only [Int.toNat_natCast,aa] at b
 have F:g≤maxLen:=by unfold maxLen;omega
 have N:=size_madeCells v.cells (g*sz)
 have f:RowR w0 M w v.cells (I0 v).cells:=(QJ s).cells
 have G:=(QJ (w0:=w0) (M:=M) (w:=w) s).cellsOne (fun vs e=>by have:=N1 s;rw [e] at this;cases this)
 by_cases hl0:(E:Int)=0
 ·rw [Ae hl0,Ae hl0]
  have:E=0:=by omega
  subst this
  obtain ⟨r1,r2⟩:=h.st.addRow (cs:=madeCells v.cells (g*sz)) (ty:=el) (k:=0) (sz:=sz) F (Nat.zero_le _) N
  refine .value ⟨_,_,_,b,r2,r1,?_⟩
  have O:=h.st.NR
  exact R.list (xs:=[]) sz (fun _=>undef) (Nat.zero_le _) F (fun i r=>absurd r (by simp)) (fun i r=>absurd r (by simp)) ⟨by simp [Mem.addRow,O],by simp [Mem.addRow,O],fun _=>by simp [Mem.addRow,O]⟩
 ·rw [Af hl0,Af hl0]
  by_cases hmk0:Jt e t=true
  case neg =>
   rw [Af hmk0,Af hmk0]
   obtain rfl:sz=1:=by
    rcases af with q | q | q
    ·exact absurd q hl0
    ·exact absurd q hmk0
    ·exact q
   have y:v.cells.size=1:=by rw [f.1,C]
   obtain ⟨u,hu0⟩:∃ u,v.cells[0]? = some u:=⟨_,Array.getElem?_eq_getElem (by omega)⟩
   have Q:(I0 v).cells[0]? = some (Yx (I0 v).cells 0):=by
    rw [List.getElem?_eq_getElem (by omega)]
    simp [Yx,List.getD,List.getElem?_eq_getElem (show 0<(I0 v).cells.length by omega)]
   have Y:R w0 M w u (Yx (I0 v).cells 0):=f.get hu0 Q
   have K:(Yx (I0 v).cells 0).one=true:=G _ (List.mem_of_getElem? Q)
   have J:u.cells = #[u]:=(Y.cells_one K).1
   obtain ⟨U,D⟩:=h.st.newTop (madeCells v.cells (g*1)) el (g*1)
   have m:(List.replicate E (Yx (I0 v).cells 0)).length=E:=List.length_replicate
   have hR:=R.row (us:=fun _=>u) (xs:=List.replicate E (Yx (I0 v).cells 0)) (cs:=madeCells v.cells (g*1)) (ty:=el) (sz:=1) (k:=g*1) (cap:=g) (o := .none)
    (fun i r=>⟨by rw [J];rfl,by rw [List.getElem_replicate];exact Y⟩)
    (fun i r j hj=>by
     have hi':i<E:=by rw [m] at r;exact r
     have:i*1+j<g*1:=by omega
     have h3:(madeCells v.cells (g*1))[i*1+j]? = some v.cells[(i*1+j) % v.cells.size]! := by
      simp only [madeCells,Array.getElem?_map,Array.getElem?_range,Ae this,Option.map_some]
     obtain rfl:j=0:=by omega
     rw [h3,y,Nat.mod_one,J,getElem!_pos v.cells 0 (by omega)]
     rw [Array.getElem?_eq_getElem (by omega)] at hu0
     simpa using hu0)
    (by rw [m];omega) F (by rw [m];omega) (M.newTop w.heap.size (g*1)) (by simp [Mem.newTop]) D trivial
   rw [m] at hR
   exact .value ⟨_,_,_,b,D,U,hR⟩
  rw [Ae hmk0,Ae hmk0]
  obtain ⟨r1,r2⟩:=h.st.addVec (cs:=madeCells v.cells (g*sz)) (ty:=el) (cap:=g) (sz:=sz) (xs:=(List.replicate E (I0 v).cells).flatten) F V N
   (by rw [N];simp only [List.length_flatten,List.map_replicate,List.sum_replicate_nat,C];exact Nat.mul_le_mul_right _ (by omega))
   (fun x D=>by
    obtain ⟨q,hq,D⟩:=List.mem_flatten.1 D
    rw [List.eq_of_mem_replicate hq] at D
    exact G x D)
   (fun i u x aj D=>by
    obtain ⟨_,h2⟩:=IY C E i x D
    have h3:u=v.cells[i % v.cells.size]! := by
     obtain ⟨q1,q2⟩:=Array.getElem?_eq_some_iff.1 aj
     rw [←q2];simp [madeCells]
    have y:v.cells.size=sz:=by rw [f.1,C]
    have h4:v.cells[i % sz]? = some u:=by
     have Z:i % sz<v.cells.size:=by rw [y];exact Nat.mod_lt _ V
     rw [h3,y,getElem!_pos v.cells (i % sz) Z,Array.getElem?_eq_getElem Z]
    exact f.get h4 h2)
  refine .value ⟨_,_,_,b,r2,r1,?_⟩
  have O:=h.st.NR
  exact .vec (by simp [Mem.addRow,O]) (Nat.zero_le _) fun _=>⟨by simp [Mem.addRow,O],by simp [Mem.addRow,O],by omega⟩
theorem Zj (h:Rel w0 n M e st a w) (t:TypeId) (m:Nat) (ps:Array (Nat × Operand)) (hmk:Jt e t=true) (hob:(Bi P e true st (.buildSlice t m ps)).1) :
  Yields' P w0 M (Bi P e true st (.buildSlice t m ps)).2.2 (Bi P e true st (.buildSlice t m ps)).2.1 w (do pure (.value (← Instr.buildSlice t m (ps.map fun (i,x)=>(i,a.eval x))))):=by
 unfold Bi at hob ⊢
 cases he:Kx P t with
 | none=>simp [he] at hob
 | some p =>
  obtain ⟨el,sz,ag,ad⟩:=p
  simp only [he,hmk] at hob ⊢
  obtain ⟨_,J,hr,ab,b,hz,l,O⟩:=hob
  obtain ⟨i,K,g,_,G⟩:=G5 he
  obtain ⟨z,V⟩:=Option.isSome_iff_exists.1 hz
  obtain ⟨i',v,s,hv,hc,hs,rfl⟩:=Gl V
  have hl:ps.toList.length=m:=by simpa using congrArg List.length hr
  have c:∀ p∈ps.toList,(a.eval p.2).cells.size=sz:=fun p N=>by
   rw [(Bj h (J p N)).cells.1]
   exact l _ (List.mem_map.2 ⟨p,N,rfl⟩)
  obtain ⟨zc,hzc⟩:∃ zc:Array Value,if m*sz=0 then zc = #[] else zc=v.cells:=by
   by_cases h0:m*sz=0
   ·exact ⟨#[],by rw [Ae h0]⟩
   ·exact ⟨v.cells,by rw [Af h0]⟩
  obtain ⟨C,a1,a2,a3,a4⟩:=Vx sz (ps.toList.map fun p=>a.eval p.2) 0 ((Array.range (m*sz)).map (zc[· % zc.size]!)) (fun u K=>by obtain ⟨p,N,rfl⟩:=List.mem_map.1 K;exact c p N) (by simp [hl])
  have hm:m≤maxLen:=by
   have:m*1≤m*sz:=Nat.mul_le_mul_left _ b
   simp [maxLen];omega
  let us:Nat→Value:=fun i=>(ps.toList.map fun p=>a.eval p.2).getD i undef
  have r:∀ i (g:i<(ps.toList.map fun p=>Ar e p.2).length),(us i).cells.size=sz∧R w0 M w (us i) (ps.toList.map fun p=>Ar e p.2)[i]:=fun i g=>by
   have s:i<ps.toList.length:=by simpa using g
   have U:i<ps.size:=by simpa using s
   have e1:us i=a.eval (ps.toList[i]).2:=by simp [us,List.getD,Array.getElem?_eq_getElem U]
   rw [e1]
   refine ⟨c _ (List.getElem_mem _),?_⟩
   simp only [List.getElem_map]
   exact Bj h (J _ (List.getElem_mem _))
  have o:(ps.toList.map fun p=>Ar e p.2).length=m:=by simp [←hl]
  have H:=Np (ys:=ps.toList.map fun p=>Ar e p.2) (sz:=sz) l
  rw [o] at H
  have d:C.size=m*sz:=by rw [a2];simp
  have q:∀ j,j<m*sz→(flat us m)[j]? = C[j]? := fun j hj=>by
   have hk:j / sz<m:=(Nat.div_lt_iff_lt_mul b).2 hj
   have D:=Nat.mod_lt j b
   have ej:j / sz*sz+j % sz=j:=by rw [Nat.mul_comm];exact Nat.div_add_mod j sz
   have f:=Jw (us:=us) (m:=m) (sz:=sz) (fun i g=>(r i (by rw [o];exact g)).1) (j / sz) hk (j % sz) D
   rw [ej] at f
   have Y:j / sz<ps.toList.length:=by omega
   have Q:j / sz<ps.size:=by simpa using Y
   have f2:=a4 (j / sz) (us (j / sz)) (by simp [us,List.getD,Array.getElem?_eq_getElem Q]) (j % sz) D
   rw [Nat.zero_add,ej] at f2
   rw [f,f2]
  obtain ⟨F,hx⟩:=h.st.addVec (cs:=C) (ty:=el) (cap:=m) (sz:=sz) (xs:=(ps.toList.map fun p=>Ar e p.2).flatMap fun y=>y.pub.cells) hm b d (by rw [H,d];exact Nat.le_refl _) (XF (fun i g=>(r i g).2) O)
   (fun i v x k aa=>by
    have g:i<m*sz:=by rw [←d];exact (Array.getElem?_eq_some_iff.1 k).1
    rw [←q i g] at k
    rw [←o] at k
    exact ZfP b r l k aa)
  have Z:=h.st.NR
  refine .value ⟨.slice (some ⟨w.heap.size,0,none⟩) m m,_,_,?_,hx,F,.vec (by simp [Mem.addRow,Z]) (Nat.zero_le _) fun _=>⟨by simp [Mem.addRow,Z],by simp [Mem.addRow,Z],Nat.le_refl _⟩⟩
  have e0:¬ (m*sz > 2 ^ 24):=by omega
  have E:(ps.map fun (i,x)=>(i,a.eval x)).toList=((ps.toList.map fun p=>a.eval p.2).zipIdx 0).map fun x=>(x.2,x.1):=by
   rw [Array.toList_map]
   exact WV hr a.eval
  by_cases h0:m*sz=0
  ·rw [Ae h0] at hzc
   subst hzc
   simp only [Instr.buildSlice,Sem.run_bind,run_underlying K,Result.andThen_ok,BS G,Af e0,Ae h0,Sem.run_pure,E,a1,newRow,run_newObj]
   rfl
  ·rw [Af h0] at hzc
   subst hzc
   simp only [Instr.buildSlice,Sem.run_bind,run_underlying K,Result.andThen_ok,BS G,Af e0,Af h0,Sem.run_pure,zeroValue,typeInfo,run_program,s,hv,E,a1,newRow,run_newObj]
   rfl
theorem Zer (h:Rel w0 n M e st a w) (o:Oper) (hob:(Bi P e true st o.op).1) :
  Yields' P w0 M (Bi P e true st o.op).2.2 (Bi P e true st o.op).2.1 w (execOp a.eval o):=by
 obtain ⟨p,op,g,q,j,k⟩:=o
 cases op with
 | move x=>exact LN h.st rfl (Bj h hob)
 | assign x=>exact LN h.st rfl (Bj h hob)
 | pick c x y=>exact Zgr h c x y hob
 | alloc t=>exact Zet h t hob
 | box t x=>exact ZiF h t x hob
 | build t ps=>exact Zc0 h t ps hob
 | buildSlice t m ps =>
  cases hmk:Jt e t with
  | false=>exact VW h t m ps hmk hob
  | true=>exact Zj h t m ps hmk hob
 | load t x =>
  have:=Zf5 h t x hob
  have e:(Bi P e true st (.load t x)).2.2=st:=by simp only [Bi];split<;>rfl
  simp only [e]
  exact this
 | store t x v=>exact Zdx h t x v hob
 | nilCheck x=>exact Zg h ⟨p,.nilCheck x,g,q,j,k⟩ x rfl hob
 | binOp op t x y u=>exact Zee h op t x y u hob
 | unOp op t x=>exact Zgh h op t x hob
 | convert s d x=>exact Zam h s d x hob
 | makeFunc f fi cap =>
  cases f with
  | func f=>exact ZZ h f fi cap hob
  | _=>exact hob.elim
 | slice t x lo hi mx=>exact ZdJ h t x lo hi mx hob
 | makeSlice t len cap=>exact Yg h t len cap hob
 | fieldAddr t x f=>exact XY h t x f hob
 | field t x f=>exact ZdT h t x f hob
 | indexAddr t x i=>exact XN h t x i hob
 | index t x i=>exact Zeb h t x i hob
 | extract x i=>exact Zaf h x i hob
 | call c =>
  obtain ⟨callee,l,C⟩:=c
  cases callee with
  | builtin b =>
   cases b with
   | len =>
    simp only [Bi] at hob ⊢
    split at hob
    ·rename_i x t hx ht
     obtain ⟨r,z⟩:=hob
     have ea:l = #[x]:=Array.toList_inj.1 (by simpa using hx)
     have et:C = #[t]:=Array.toList_inj.1 (by simpa using ht)
     subst ea;subst et
     exact (ZhT h x t g r z).congr (LK .len #[x] #[t] p g q j k _ (fun _=>by simp [builtin]))
    ·exact hob.elim
   | append =>
    simp only [Bi] at hob ⊢
    split at hob
    ·rename_i s x t t' hx ht
     obtain ⟨_,r,z,rfl,D⟩:=hob
     have ea:l = #[s,x]:=Array.toList_inj.1 (by simpa using hx)
     have et:C = #[t,t]:=Array.toList_inj.1 (by simpa using ht)
     subst ea;subst et
     exact (W5 h s x t g r z D).congr (LK .append #[s,x] #[t,t] p g q j k _ (fun _=>by simp [builtin]))
    ·exact hob.elim
   | min =>
    simp only [Bi] at hob ⊢
    split at hob
    ·rename_i x y hx
     obtain ⟨r,z,D,E,_⟩:=hob
     have ea:l = #[x,y]:=Array.toList_inj.1 (by simpa using hx)
     subst ea
     exact (Ziw h x y C g r z D E).congr (LK .min #[x,y] C p g q j k _ (fun _=>by simp [builtin]))
    ·exact hob.elim
   | max =>
    simp only [Bi] at hob ⊢
    split at hob
    ·rename_i x y hx
     obtain ⟨r,z,D,E⟩:=hob
     have ea:l = #[x,y]:=Array.toList_inj.1 (by simpa using hx)
     subst ea
     exact (ZhX h x y C g r z D E).congr (LK .max #[x,y] C p g q j k _ (fun _=>by simp [builtin]))
    ·exact hob.elim
   | _=>exact hob.elim
  | _=>exact hob.elim
 | _=>exact hob.elim
end
def FW (ro:Option Nat):Fence:={ Fence.wide with round:=ro }
theorem WA (ro:Option Nat) (f:FuncId):(FW ro).fn f:=trivial
theorem VG (ro:Option Nat):(FW ro).depth.isSome=true→∀ n,1≤n:=fun h=>by cases h
theorem VQ {ro:Option Nat} {n:Nat} {P:Program} {f:FuncId} {args:Array Value} {w:World} {Q:Ending→World→Prop} (h:Calls P f args w Q):CallsIn (FW ro) n P f args w Q:=by
 cases ro with
 | none=>exact callsIn_wide.2 h
 | some l=>exact CallsIn.inRound (F:=Fence.wide) l (callsIn_wide.2 h)
theorem Ti {n:Nat} {P:Program} {f:FuncId} {args:Array Value} {w:World} {Q:Ending→World→Prop} (h:CallsIn (FW none) n P f args w Q):Calls P f args w Q:=callsIn_wide.1 h
def KN (P:Program) (f:FuncId):Prop:=∀ args w,(callFunc f args).run P w = .ok (.enter f args) w
def Comes' (w0:World) (M:Mem) (w:World) (Post:AV→St→Prop) (en:Ending) (w':World):Prop :=
 ∃ v M' r st',en = .returned v∧Post r st'∧Ext w0 M w M' w'∧RelSt w0 M' st' w'∧R w0 M' w' v r
def ACalls (P:Program) (w0:World) (f:FuncId) (args:List AV) (st:St) (Post:AV→St→Prop):Prop :=
 KN P f∧∀ (M:Mem) (w:World) (vals:Array Value),RelSt w0 M st w→RowR w0 M w vals args→Calls P f vals w (Comes' w0 M w Post)
theorem Comes'.mono {w0:World} {M:Mem} {w:World} {Post Post':AV→St→Prop} (hp:∀ r s,Post r s→Post' r s) {en:Ending} {w':World} (h:Comes' w0 M w Post en w'):Comes' w0 M w Post' en w' :=
 let ⟨v,M',r,st',a1,a2,a3,a4,a5⟩:=h;⟨v,M',r,st',a1,hp _ _ a2,a3,a4,a5⟩
theorem ACalls.mono {P:Program} {w0:World} {f:FuncId} {args:List AV} {st:St} {Post Post':AV→St→Prop} (h:ACalls P w0 f args st Post) (hp:∀ r s,Post r s→Post' r s):ACalls P w0 f args st Post' :=
 ⟨h.1,fun M w a c b=>(h.2 M w a c b).mono fun _ _ h=>h.mono hp⟩
def Vg (P:Program) (w0:World) (k:Nat) (args:List AV) (st:St) (Post:AV→St→Prop):Prop :=
 ∀ (M:Mem) (w:World) (vals:Array Value),RelSt w0 M st w→RowR w0 M w vals args →
  ∃ fn tmps asg body,(Instr.yield (M.lb k) vals).run P w = .ok (.round (M.lb k) fn tmps asg body) w∧∀ n,RoundIn Fence.wide n P (M.lb k) fn tmps asg body w (Comes' w0 M w Post)
def Pe (P:Program) (w0:World) (fv:AV) (args:List AV) (st:St) (Post:AV→St→Prop):Prop :=
 match fv with
 | .clo f cs=>ACalls P w0 f (args++cs) st Post
 | .yld k=>Vg P w0 k args st Post
 | _=>False
def Lx (e:Env) (dst:Option Nat) (c:Bool) (v:AV):Env :=
 match dst with
 | some d=>(d,c,v)::e
 | none=>e
def L2 (n:Nat):Option Nat→Prop
 | some d=>d<n
 | none=>True
def DK (all:List Oper) (e:Env):Option (Nat × Bool)→Bool
 | none=>true
 | some (j,want)=>match (all[j]?).bind (·.dst) with
  | some d=>match D2 e d with
   | some (cj,.val (.bool b))=>cj&&(b == want)
   | _=>false
  | none=>false
def LQ (all:List Oper) (e:Env):Option (Nat × Bool)→Prop
 | none=>True
 | some (j,_)=>match (all[j]?).bind (·.dst) with
  | some d=>match D2 e d with
   | some (_,v)=>VY v=true
   | none=>False
  | none=>False
def JZ:List Operand→List Nat
 | []=>[]
 | .tmp t::r=>t::JZ r
 | _::r=>JZ r
def Zdi (all:List Oper):Option (Nat × Bool)→List Nat
 | none=>[]
 | some (j,_)=>((all[j]?).bind (·.dst)).toList
def SQ (all:List Oper) (o:Oper):List Nat:=1000000::(JZ o.op.operands.toList++Zdi all o.guard)
def DN (d:Bool) (all:List Oper) (o:Oper) (e:Env):Env:=if d then DD (SQ all o) e else e
def LF (P:Program) (w0:World) (c d:Bool) (fv:AV) (args:List AV) (st:St) (k:AV→St→Prop):Prop :=
 (∃ v,(c=true→Pe P w0 fv args st fun r s=>r=v∧s=st)∧k v st) ∨
 (d=false∧∃ Post,(c=true→Pe P w0 fv args st Post)∧∀ v st',(c=true→Post v st')→(c=false→st'=st)→k v st')
theorem ON {P:Program} {w0:World} {c d:Bool} {f:FuncId} {cs args:List AV} {st:St} {k:AV→St→Prop} (v:AV)
  (h:ACalls P w0 f (args++cs) st fun r s=>r=v∧s=st) (hk:k v st):LF P w0 c d (.clo f cs) args st k := .inl ⟨v,fun _=>h,hk⟩
theorem UY {P:Program} {w0:World} {f:FuncId} {cs args:List AV} {st:St} {k:AV→St→Prop} (Post:AV→St→Prop)
  (h:ACalls P w0 f (args++cs) st Post) (hk:∀ v s,Post v s→k v s):LF P w0 true false (.clo f cs) args st k := .inr ⟨rfl,Post,fun _=>h,fun v s a _=>hk v s (a rfl)⟩
theorem Zy {P:Program} {w0:World} {c:Bool} {i:Nat} {args:List AV} {st:St} {k:AV→St→Prop} (Post:AV→St→Prop)
  (h:c=true→Vg P w0 i args st Post) (hk:∀ v s,(c=true→Post v s)→(c=false→s=st)→k v s):LF P w0 c false (.yld i) args st k := .inr ⟨rfl,Post,h,hk⟩
def argP (e:Env) (x:AV):AV:=if Jt e 0=true then x else x.pub
theorem R.argP {w0:World} {M:Mem} {w:World} {v:Value} {x:AV} (e:Env) (h:R w0 M w v x):R w0 M w v (Go.Ev.argP e x):=by
 unfold Go.Ev.argP
 split
 ·exact h
 ·exact h.pub
def evS (P:Program) (w0:World) (n:Nat) (d:Bool) (all:List Oper) (R:List Oper→Env→St→Prop) (K:Env→St→Prop):List Oper→Env→St→Prop
 | [],e,st=>K e st
 | o::os,e,st =>
  LQ all (DN d all o e) o.guard∧L2 n o.dst ∧
  match o.op with
  | .call ⟨.value f,args,_⟩ =>
   (DK all (DN d all o e) o.guard=true→AU (DN d all o e) true f∧∀ x∈args.toList,AU (DN d all o e) true x) ∧
   LF P w0 (DK all (DN d all o e) o.guard) d (Ar (DN d all o e) f) (args.toList.map fun x=>argP (DN d all o e) (Ar (DN d all o e) x)) st
    fun v st'=>R os (Lx e o.dst (DK all (DN d all o e) o.guard) v) st'
  | op=>match Bi P (DN d all o e) (DK all (DN d all o e) o.guard) st op with
   | (ob,v,st')=>(DK all (DN d all o e) o.guard=true→ob)∧((DK all (DN d all o e) o.guard=false∨d=true)→st'=st)∧evS P w0 n d all R K os (Lx e o.dst (DK all (DN d all o e) o.guard) v) st'
def Zl (P:Program) (w0:World) (n:Nat) (d:Bool) (all:List Oper) (K:Env→St→Prop):Nat→List Oper→Env→St→Prop
 | 0,_,_,_=>False
 | c+1,os,e,st=>evS P w0 n d all (Zl P w0 n d all K c) K os e st
theorem Am {P:Program} {w0:World} {n:Nat} {d:Bool} {all:List Oper} {K:Env→St→Prop} {c:Nat} {os:List Oper} {e:Env} {st:St}:Zl P w0 n d all K (c+1) os e st=evS P w0 n d all (Zl P w0 n d all K c) K os e st:=rfl
def LD:Op→Bool
 | .call ⟨.value _,_,_⟩=>true
 | _=>false
theorem WH {P:Program} {w0:World} {n:Nat} {d:Bool} {all:List Oper} {R:List Oper→Env→St→Prop} {K:Env→St→Prop} {o:Oper} {os:List Oper} {e:Env} {st:St} (hc:¬ LD o.op=true) :
  evS P w0 n d all R K (o::os) e st=(LQ all (DN d all o e) o.guard∧L2 n o.dst∧match Bi P (DN d all o e) (DK all (DN d all o e) o.guard) st o.op with
   | (ob,v,st')=>(DK all (DN d all o e) o.guard=true→ob)∧((DK all (DN d all o e) o.guard=false∨d=true)→st'=st)∧evS P w0 n d all R K os (Lx e o.dst (DK all (DN d all o e) o.guard) v) st'):=by
 obtain ⟨dst,op,c,g,a,guard⟩:=o
 cases op with
 | call cc =>
  obtain ⟨callee,b,h⟩:=cc
  cases callee with
  | value f=>exact absurd rfl hc
  | _=>rfl
 | _=>rfl
section
variable {P:Program} {w0:World} {n:Nat} {M:Mem} {e:Env} {st:St} {a:Act} {w:World}
theorem RH (h:Rel w0 n M e st a w) (ro:Option Nat) (m:Nat) (o:Oper) (hob:(Bi P e true st o.op).1) (Q:Exit→Act→World→Prop) (K:Act→World→Prop)
  (hK:∀ v w' M',Ext w0 M w M' w'→RelSt w0 M' (Bi P e true st o.op).2.2 w'→R w0 M' w' v (Bi P e true st o.op).2.1→K (a.put o.dst v) w'):o.wpIn (FW ro) m P a w K Q:=by
 have hd:∀ c,o.op ≠ .defer c:=by
  intro c j
  rw [j] at hob
  exact hob
 obtain ⟨v,w',M',b,g,i,d⟩:=Zer (P:=P) h o hob
 refine ⟨fun f _=>WA ro f,?_⟩
 have hs:Oper.semAt (FW ro).round a.eval o=execOp a.eval o:=by
  cases ro with
  | none=>rfl
  | some l=>exact Oper.semAt_some l a.eval o hd
 rw [hs]
 rcases b with b | ⟨b,rfl⟩
 ·rw [b];exact hK v w' M' g i d
 ·rw [b];exact hK _ w' M' g i d
theorem Yt {v:Value} {f:FuncId} {xs:List AV} (h:R w0 M w v (.clo f xs)):∃ cs,v = .func (.func f) #[] cs∧RowR w0 M w cs xs:=by
 cases h with
 | clo hl h=>exact ⟨_,rfl,hl,h⟩
theorem Zf8 {v:Value} {k:Nat} (h:R w0 M w v (.yld k)):v = .func (.yield (M.lb k)) #[] #[]:=by
 cases h with
 | yld hk=>rfl
theorem Zgo (h:Rel w0 n M e st a w) {args:Array Operand} (hargs:∀ x∈args.toList,AU e true x):RowR w0 M w (args.map a.eval) (args.toList.map fun x=>argP e (Ar e x)):=by
 refine .mk (by simp) (fun i u y hu hy=>?_)
 by_cases c:i<args.size
 ·simp only [Array.getElem?_map,Array.getElem?_eq_getElem c,Option.map_some,Option.some.injEq] at hu
  simp only [List.getElem?_map,Array.getElem?_toList,Array.getElem?_eq_getElem c,Option.map_some,Option.some.injEq] at hy
  subst hu;subst hy
  exact (Bj h (hargs _ (by simp))).argP e
 ·simp [Array.getElem?_eq_none (Nat.le_of_not_lt c)] at hu
theorem RowR.append {cs ds:Array Value} {xs ys:List AV} (h:RowR w0 M w cs xs) (k:RowR w0 M w ds ys):RowR w0 M w (cs++ds) (xs++ys):=by
 refine .mk (by simp [h.1,k.1]) (fun i u y a b=>?_)
 by_cases c:i<cs.size
 ·rw [Array.getElem?_append_left c] at a
  rw [List.getElem?_append_left (h.1▸c)] at b
  exact h.get a b
 ·rw [Array.getElem?_append_right (by omega)] at a
  rw [List.getElem?_append_right (by have:=h.1;omega)] at b
  rw [h.1] at a
  exact k.get a b
theorem Lj (h:Rel w0 n M e st a w) (ro:Option Nat) (m:Nat) {dst:Option Tmp} {f:Operand} {args:Array Operand} {ts:Array TypeId} {type:TypeId} {pos:String} {after:Array Edge} {guard:Option (Nat × Bool)}
  (hf:AU e true f) (hargs:∀ x∈args.toList,AU e true x) {Post:AV→St→Prop} (hv:Pe P w0 (Ar e f) (args.toList.map fun x=>argP e (Ar e x)) st Post) (Q:Exit→Act→World→Prop) (K:Act→World→Prop)
  (hK:∀ r s,Post r s→∀ v w' M',Ext w0 M w M' w'→RelSt w0 M' s w'→R w0 M' w' v r→K (a.put dst v) w') :
  (⟨dst,.call ⟨.value f,args,ts⟩,type,pos,after,guard⟩:Oper).wpIn (FW ro) m P a w K Q:=by
 have i:=Zgo h hargs
 have p:=Bj h hf
 refine ⟨fun f _=>WA ro f,?_⟩
 have hs:Oper.semAt (FW ro).round a.eval ⟨dst,.call ⟨.value f,args,ts⟩,type,pos,after,guard⟩=execOp a.eval ⟨dst,.call ⟨.value f,args,ts⟩,type,pos,after,guard⟩:=by
  cases ro with
  | none=>rfl
  | some l=>exact Oper.semAt_some l a.eval _ (fun c hh=>by cases hh)
 rw [hs]
 cases hx:Ar e f with
 | clo g xs =>
  rw [hx] at p hv
  obtain ⟨cs,ef,t⟩:=Yt p
  have b:(execOp a.eval ⟨dst,.call ⟨.value f,args,ts⟩,type,pos,after,guard⟩).run P w = .ok (.enter g (args.map a.eval++cs)) w:=by
   simp [execOp,resolve,ef,Deferred.ofValue,invoke,hv.1 (args.map a.eval++cs) w]
  rw [b]
  refine ⟨fun q=>VG ro q m,VQ ((hv.2 M w _ h.st (i.append t)).mono ?_)⟩
  rintro en w' ⟨C,M',r,s,rfl,z,D,E,y⟩
  exact hK r s z C w' M' D E y
 | yld k =>
  rw [hx] at p hv
  have ef:=Zf8 p
  obtain ⟨H,j,u,o,G,d⟩:=hv M w _ h.st i
  have b:(execOp a.eval ⟨dst,.call ⟨.value f,args,ts⟩,type,pos,after,guard⟩).run P w = .ok (.round (M.lb k) H j u o) w:=by
   simp [execOp,resolve,ef,Deferred.ofValue,invoke,G]
  rw [b]
  refine ⟨fun q=>VG ro q m,?_⟩
  have:=d (m-1)
  refine RoundIn.mono (F:=FW ro) (by cases ro<;>exact this) ?_
  rintro en w' ⟨C,M',r,s,rfl,z,D,E,y⟩
  exact hK r s z C w' M' D E y
 | _=>rw [hx] at hv;exact hv.elim
theorem Lo (a:Act) (dst:Option Nat) (v:Value) (s:Nat) (hd:L2 a.tmps.size dst):(a.put dst v).tmps.getD s undef=if dst=some s then v else a.tmps.getD s undef:=by
 cases dst with
 | none=>simp [Act.put]
 | some d =>
  simp only [L2] at hd
  simp only [Act.put,Option.some.injEq]
  by_cases c:d=s
  ·subst c
   simp [hd]
  ·rw [Af c]
   simp [Array.getElem?_setIfInBounds_ne c]
theorem Q1 (a:Act) (dst:Option Nat) (v:Value):(a.put dst v).tmps.size=a.tmps.size:=by cases dst<;>simp [Act.put]
theorem KX (a:Act) (dst:Option Nat) (v:Value):(a.put dst v).defers=a.defers:=by cases dst<;>rfl
theorem Rel.put (h:Rel w0 n M e st a w) {M':Mem} {w':World} {st':St} (hx:Ext w0 M w M' w') (hst:RelSt w0 M' st' w') {dst:Option Nat} (hd:L2 n dst) {c:Bool} {v:Value} {r:AV} (hv:entryOk w0 M' w' v (c,r)) :
  Rel w0 n M' (Lx e dst c r) st' (a.put dst v) w':=by
 refine ⟨hst,by rw [Q1];exact h.size,fun s x hs=>?_⟩
 rw [Lo a dst v s (by rw [h.size];exact hd)]
 cases dst with
 | none=>exact (h.env s x hs).mono hx
 | some d =>
  simp only [Lx,D2] at hs
  simp only [Option.some.injEq]
  by_cases q:d=s
  ·rw [Ae q] at hs ⊢
   cases hs
   exact hv
  ·rw [Af q] at hs ⊢
   exact (h.env s x hs).mono hx
theorem Yr {ops:Array Oper} {ts:Array Value} {j d:Nat} (h:(ops[j]?).bind (·.dst)=some d):yielded ops ts j=match ts.getD d undef with | .bool b=>some b | _=>none:=by
 unfold yielded
 simp only [h]
 rw [Array.getD_eq_getD_getElem?]
 change (match ts[(d:Nat)]? with | some (.bool b)=>some b | _=>none)=_
 cases ts[(d:Nat)]? with
 | none=>rfl
 | some v=>cases v<;>rfl
theorem OW (h:Rel w0 n M e st a w) {all:List Oper} {o:Oper} (hg:LQ all e o.guard):Region.wanted o (yielded all.toArray a.tmps)=DK all e o.guard:=by
 unfold Region.wanted DK
 cases hgd:o.guard with
 | none=>rfl
 | some p =>
  obtain ⟨j,want⟩:=p
  rw [hgd] at hg
  simp only [LQ] at hg
  have g:(all.toArray[j]?).bind (·.dst)=(all[j]?).bind (·.dst):=by simp
  dsimp only
  cases hd:(all[j]?).bind (·.dst) with
  | none=>simp [hd] at hg
  | some d =>
   rw [Yr (g.trans hd)]
   simp only [hd] at hg ⊢
   cases hl:D2 e d with
   | none=>simp [hl] at hg
   | some x =>
    obtain ⟨cj,v⟩:=x
    simp only [hl] at hg ⊢
    have c:=h.env d _ hl
    cases v with
    | val u =>
     cases u<;>try cases hg
     rename_i b
     unfold entryOk at c
     cases cj with
     | true =>
      rw [Ae rfl] at c
      obtain ⟨f,_⟩:=c.val_inv
      rw [f]
      cases b<;>cases want<;>rfl
     | false =>
      rw [Af (by simp)] at c
      rw [c]
      rfl
    | _=>cases hg
def Zd7 (e' e:Env):Prop:=∀ s x,D2 e' s=some x→D2 e s=some x
theorem Rel.sub {e':Env} (h:Rel w0 n M e st a w) (hs:Zd7 e' e):Rel w0 n M e' st a w:=⟨h.st,h.size,fun s x b=>h.env s x (hs s x b)⟩
theorem Jk:∀ (K:List Nat) (e:Env) (s:Nat) (x:Bool × AV),D2 (DD K e) s=some x→D2 e s=some x
 | [],_,_,_,h=>by simp [DD,D2] at h
 | k::K,e,s,x,h=>by
  simp only [DD] at h
  cases hk:D2 e k with
  | none =>
   simp only [hk] at h
   exact Jk K e s x h
  | some y =>
   obtain ⟨c,v⟩:=y
   simp only [hk,D2] at h
   by_cases q:k=s
   ·rw [Ae q] at h
    subst q
    rw [hk];exact h
   ·rw [Af q] at h
    exact Jk K e s x h
theorem Bm (K:List Nat) (e:Env):Zd7 (DD K e) e:=Jk K e
theorem Nh:∀ (K:List Nat) (e:Env) (s:Nat) (x:Bool × AV),D2 (DD K e) s=some x→s∈K
 | [],_,_,_,h=>by simp [DD,D2] at h
 | k::K,e,s,x,h=>by
  simp only [DD] at h
  cases hk:D2 e k with
  | none =>
   simp only [hk] at h
   exact List.mem_cons_of_mem _ (Nh K e s x h)
  | some y =>
   obtain ⟨c,v⟩:=y
   simp only [hk,D2] at h
   by_cases q:k=s
   ·exact q▸List.mem_cons_self
   ·rw [Af q] at h
    exact List.mem_cons_of_mem _ (Nh K e s x h)
theorem ZcZ (d:Bool) (all:List Oper) (o:Oper) (e:Env):Zd7 (DN d all o e) e:=by
 unfold DN
 split
 ·exact Bm _ _
 ·exact fun _ _ h=>h
theorem Sm (ro:Option Nat) (m:Nat) (d:Bool) (all:List Oper) (KK:Env→St→Prop) (Q:Exit→Act→World→Prop):∀ (c:Nat) (os:List Oper) (e:Env) (st:St) (a:Act) (w:World) (M:Mem),Rel w0 n M e st a w →
  Zl P w0 n d all KK c os e st→(∀ e' st' a' w' M',KK e' st'→Rel w0 n M' e' st' a' w'→Ext w0 M w M' w'→a'.defers=a.defers→Q .normal a' w')→wpListIn (FW ro) m P all.toArray Q os a w
 | 0,_,_,_,_,_,_,_,h,_=>h.elim
 | c+1,os,e,st,a,w,M,hr,h,y=>by
  have D:∀ (os:List Oper) (e:Env) (st:St) (a:Act) (w:World) (M:Mem),Rel w0 n M e st a w→evS P w0 n d all (Zl P w0 n d all KK c) KK os e st →
    (∀ e' st' a' w' M',KK e' st'→Rel w0 n M' e' st' a' w'→Ext w0 M w M' w'→a'.defers=a.defers→Q .normal a' w')→wpListIn (FW ro) m P all.toArray Q os a w:=by
   intro os
   induction os with
   | nil=>exact fun e st a w M hr h y=>y e st a w M h hr (.refl _ _ _) rfl
   | cons o os ih =>
    intro e st a w M hr h y
    have hv:=ZcZ d all o e
    have j:=hr.sub hv
    by_cases hc:LD o.op=true
    ·obtain ⟨dst,op,type,pos,after,guard⟩:=o
     cases op<;>try cases hc
     rename_i cc
     obtain ⟨callee,args,ts⟩:=cc
     cases callee<;>try cases hc
     rename_i f
     simp only [evS] at h
     obtain ⟨E,hd,x,z⟩:=h
     unfold wpListIn
     rw [OW j E]
     have b:∀ v s,Zl P w0 n d all KK c os (Lx e dst (DK all (DN d all ⟨dst,.call ⟨.value f,args,ts⟩,type,pos,after,guard⟩ e) guard) v) s→∀ u w' M',Ext w0 M w M' w'→RelSt w0 M' s w' →
       entryOk w0 M' w' u (DK all (DN d all ⟨dst,.call ⟨.value f,args,ts⟩,type,pos,after,guard⟩ e) guard,v)→wpListIn (FW ro) m P all.toArray Q os (a.put dst u) w':=by
      intro v s C u w' M' hx hst hu
      exact Sm ro m d all KK Q c os _ _ _ _ M' (hr.put hx hst hd hu) C (fun e' st' a' p t k i H G=>y e' st' a' p t k i (hx.trans H) (G.trans (KX a dst u)))
     cases hcc:DK all (DN d all ⟨dst,.call ⟨.value f,args,ts⟩,type,pos,after,guard⟩ e) guard with
     | true =>
      rw [hcc] at x z b
      obtain ⟨N,J⟩:=x rfl
      rw [Ae rfl]
      rcases z with ⟨v,k,i⟩ | ⟨_,Post,k,i⟩
      ·refine Lj j ro m N J (k rfl) Q _ (fun r s F u w' M' hx hst hu=>?_)
       obtain ⟨rfl,rfl⟩:=F
       exact b _ _ i u w' M' hx hst hu
      ·exact Lj j ro m N J (k rfl) Q _ (fun r s F u w' M' hx hst hu=>b _ _ (i r s (fun _=>F) (fun q=>by cases q)) u w' M' hx hst hu)
     | false =>
      rw [hcc] at x z b
      rw [Af (by simp)]
      refine ⟨fun g _=>WA ro g,?_⟩
      rcases z with ⟨v,k,i⟩ | ⟨_,Post,k,i⟩
      ·exact b _ _ i undef w M (.refl _ _ _) hr.st rfl
      ·exact b .junk st (i .junk st (fun q=>by cases q) (fun _=>rfl)) undef w M (.refl _ _ _) hr.st rfl
    ·rw [WH hc] at h
     obtain ⟨E,hd,x,K,l⟩:=h
     unfold wpListIn
     rw [OW j E]
     have b:∀ u w' M',Ext w0 M w M' w'→RelSt w0 M' (Bi P (DN d all o e) (DK all (DN d all o e) o.guard) st o.op).2.2 w' →
       entryOk w0 M' w' u (DK all (DN d all o e) o.guard,(Bi P (DN d all o e) (DK all (DN d all o e) o.guard) st o.op).2.1)→wpListIn (FW ro) m P all.toArray Q os (a.put o.dst u) w':=by
      intro u w' M' hx hst hu
      exact ih _ _ _ _ M' (hr.put hx hst hd hu) l (fun e' st' a' p t k i H G=>y e' st' a' p t k i (hx.trans H) (G.trans (KX a o.dst u)))
     cases hcc:DK all (DN d all o e) o.guard with
     | true =>
      rw [hcc] at x b
      rw [Ae rfl]
      exact RH j ro m o (x rfl) Q _ (fun v w' M' hx hst hv=>b v w' M' hx hst hv)
     | false =>
      rw [hcc] at K b
      rw [Af (by simp)]
      refine ⟨fun g _=>WA ro g,b undef w M (.refl _ _ _) ?_ rfl⟩
      have q:(Bi P (DN d all o e) false st o.op).2.2=st:=K (.inl rfl)
      rw [q]
      exact hr.st
  exact D os e st a w M hr h y
end
end Go.Ev
