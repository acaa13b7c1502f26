/-
  Part 1 of the proof: rules and walks that the claim's last text uses.
-/
import Derived.Below
import Derived.Laws.BytesArg
import Derived.Laws.IdiomStrings
import Derived.Laws.MakeOwn
import Derived.Laws.Rows
import Derived.Laws.Runes
import Derived.Laws.Small
import Derived.Laws.StructEq
import Derived.Lib.ConvBytes
import Derived.Lib.Strings
import Derived.Orders
import Derived.RangeFuncNested
import Derived.RangeFuncRecord
import Derived.WalkKit
set_option linter.unusedSimpArgs false
set_option linter.unusedVariables false
set_option maxRecDepth 100000
set_option maxHeartbeats 4000000
namespace Go
theorem Aa {a b:Prop} (h:a) (k:b):a∧b:=⟨h,k⟩
theorem Ab.{u,v} {α:Type u} {β:Type v} (a:α) (f:α→Option β):(some a).bind f=f a:=rfl
theorem Ac {p:Prop} [Decidable p] (h:¬p):decide p=false:=decide_eq_false h
theorem Ad {p:Prop} [Decidable p] (h:p):decide p=true:=decide_eq_true h
theorem Ae.{u} {c:Prop} {h:Decidable c} (hc:c) {α:Sort u} {t e:α}:ite c t e=t:=if_pos hc
theorem Af.{u} {c:Prop} {h:Decidable c} (hc:¬c) {α:Sort u} {t e:α}:ite c t e=e:=if_neg hc
theorem Ag.{u} {α:Type u} {a:α} {l:List α} {i:Nat}:l[i]?=some a↔∃ h:i<l.length,l[i]=a:=List.getElem?_eq_some_iff
end Go
namespace Go.Ev
open Go Go.RowKit
inductive Own where
 | none | full | seed | row (id:Nat)
 deriving DecidableEq
inductive AV where
 | val (v:Value)
 | list (xs:List AV) (o:Own)
 | elem (x:AV) (off:Nat)
 | box (l off:Nat)
 | clo (f:FuncId) (caps:List AV)
 | agg (cs:List AV)
 | tup (vs:List AV)
 | yld (k:Nat)
 | vec (id ver o n:Nat)
 | vel (id ver off:Nat)
abbrev AV.junk:AV := .tup []
instance:Inhabited AV:=⟨.junk⟩
def AV.cells:AV→List AV
 | .agg cs=>cs
 | x=>[x]
def AV.one:AV→Bool
 | .agg _ | .tup _=>false
 | _=>true
def IB:Value→Bool
 | .bool _ | .int _ _ | .float _ _ | .pointer none | .nilFunc | .nilIface | .map none=>true
 | .string s=>decide (s.size≤maxLen)
 | _=>false
structure LoopA where
 e:List (Nat × Bool × AV)
 n:Nat
 ps:Array Tmp
 asg:Code
 body:Code
 st:LoopState
 pend:Option Code
inductive RowA where
 | grow (n sz:Nat)
 | vec (ver sz:Nat) (cells:List AV)
 | dead (ver:Nat)
structure St where
 boxes:List (List AV)
 rows:List RowA
 loops:List LoopA
structure Mem where
 N:Nat
 NR:Nat
 bx:Nat→Nat
 top:Nat→Nat
 fr:Nat→Nat
 blk:Nat→Nat
 cap:Nat→Nat
 rsz:Nat→Nat
 NL:Nat
 lb:Nat→Nat
def Mem.imm (M:Mem) (w0:World) (b off:Nat):Prop:=b<w0.heap.size∨off<M.top b
def ZdM (M:Mem) (b off cap n sz:Nat):Own→Prop
 | .none=>True
 | .full | .seed=>n=cap
 | .row id=>id<M.NR∧n≤M.fr id∧(n=M.fr id→b=M.blk id∧off=0∧cap=M.cap id∧sz=M.rsz id)
inductive R (w0:World) (M:Mem) (w:World):Value→AV→Prop
 | flat {v:Value} (h:IB v=true):R w0 M w v (.val v)
 | agg {cs:Array Value} {xs:List AV} (hl:cs.size=xs.length) (h1:∀ x∈xs,x.one=true) (h:∀ i (h1:i<cs.size) (h2:i<xs.length),R w0 M w cs[i] xs[i]):R w0 M w (.agg cs) (.agg xs)
 | tup {cs:Array Value} {xs:List AV} (hl:cs.size=xs.length) (h:∀ i (h1:i<cs.size) (h2:i<xs.length),R w0 M w cs[i] xs[i]):R w0 M w (.tuple cs) (.tup xs)
 | nil {o:Own} (ho:∀ id,o ≠ .row id):R w0 M w (.slice none 0 0) (.list [] o)
 | emp {a:Addr} {o:Own} (ho:∀ id,o ≠ .row id):R w0 M w (.slice (some a) 0 0) (.list [] o)
 | list {b off cap:Nat} {xs:List AV} {o:Own} (sz:Nat) (us:Nat→Value) (hc:xs.length≤cap) (hm:cap≤maxLen)
   (hcell:∀ i,i<xs.length→(us i).cells.size=sz∧∀ j,j<sz→M.imm w0 b (off+i*sz+j)∧w.cell? ⟨b,off+i*sz+j,none⟩=(us i).cells[j]?)
   (hu:∀ i (hi:i<xs.length),R w0 M w (us i) xs[i]) (ho:ZdM M b off cap xs.length sz o):R w0 M w (.slice (some ⟨b,off,none⟩) xs.length cap) (.list xs o)
 | elem {b off:Nat} {x:AV} (u:Value) (k:Nat) (hcell:∀ j,j<u.cells.size→M.imm w0 b (off+j)∧w.cell? ⟨b,off+j,none⟩=u.cells[j]?) (hu:R w0 M w u x) :
   R w0 M w (.pointer (some ⟨b,off+k,none⟩)) (.elem x k)
 | box {l off:Nat} (hl:l<M.N):R w0 M w (.pointer (some ⟨M.bx l,off,none⟩)) (.box l off)
 | clo {f:FuncId} {cs:Array Value} {xs:List AV} (hl:cs.size=xs.length) (h:∀ i (h1:i<cs.size) (h2:i<xs.length),R w0 M w cs[i] xs[i]):R w0 M w (.func (.func f) #[] cs) (.clo f xs)
 | yld {k:Nat} (hk:k<M.NL):R w0 M w (.func (.yield (M.lb k)) #[] #[]) (.yld k)
 | vec {id ver o n:Nat} {p:Option Addr} {cap:Nat} (hi:id<M.NR) (hv:ver≤M.fr id) (h:ver=M.fr id→p=some ⟨M.blk id,o*M.rsz id,none⟩∧cap+o=M.cap id∧n≤cap):R w0 M w (.slice p n cap) (.vec id ver o n)
 | vel {id ver off:Nat} {a:Addr} (hi:id<M.NR) (hv:ver≤M.fr id) (h:ver=M.fr id→a=⟨M.blk id,off,none⟩):R w0 M w (.pointer (some a)) (.vel id ver off)
structure Ext (w0:World) (M:Mem) (w:World) (M':Mem) (w':World):Prop where
 N:M.N≤M'.N
 bx:∀ l,l<M.N→M'.bx l=M.bx l
 NR:M.NR≤M'.NR
 rows:∀ id,id<M.NR→M.fr id≤M'.fr id∧(M'.fr id=M.fr id→M'.blk id=M.blk id∧M'.cap id=M.cap id∧M'.rsz id=M.rsz id)
 cell:∀ b off v,M.imm w0 b off→w.cell? ⟨b,off,none⟩=some v→w'.cell? ⟨b,off,none⟩=some v∧M'.imm w0 b off
 size:w.heap.size≤w'.heap.size
 NL:M.NL≤M'.NL
 lb:∀ k,k<M.NL→M'.lb k=M.lb k
 lnew:∀ k,M.NL≤k→k<M'.NL→w.heap.size≤M'.lb k
 objs:∀ b o,w.heap[b]? = some o→o.isCells=false→(∀ k,k<M.NL→M.lb k≠b)→w'.heap[b]? = some o
def KeepsObj (w w':World):Prop:=∀ (b:Nat) (o:Obj),w.heap[b]? = some o→o.isCells=false→w'.heap[b]? = some o
theorem KeepsObj.refl (w:World):KeepsObj w w:=fun _ _ h _=>h
theorem KeepsObj.trans {a b c:World} (h:KeepsObj a b) (k:KeepsObj b c):KeepsObj a c:=fun i o e d=>k i o (h i o e d) d
theorem KeepsObj.alloc (w:World) (o:Obj):KeepsObj w (w.alloc o):=fun b _ h _=>(Below.heap_alloc w o b (Array.getElem?_eq_some_iff.1 h).1).trans h
theorem Ext.refl (w0:World) (M:Mem) (w:World):Ext w0 M w M w :=
 ⟨Nat.le_refl _,fun _ _=>rfl,Nat.le_refl _,fun _ _=>⟨Nat.le_refl _,fun _=>⟨rfl,rfl,rfl⟩⟩,fun _ _ _ h k=>⟨k,h⟩,Nat.le_refl _,Nat.le_refl _,fun _ _=>rfl,fun _ _ _=>by omega,fun _ _ h _ _=>h⟩
theorem Ext.trans {w0:World} {M1 M2 M3:Mem} {w1 w2 w3:World} (h:Ext w0 M1 w1 M2 w2) (k:Ext w0 M2 w2 M3 w3):Ext w0 M1 w1 M3 w3 where
 N:=Nat.le_trans h.N k.N
 bx:=fun l m=>(k.bx l (Nat.lt_of_lt_of_le m h.N)).trans (h.bx l m)
 NR:=Nat.le_trans h.NR k.NR
 rows:=fun id f=>by
  obtain ⟨a1,a2⟩:=h.rows id f
  obtain ⟨u,D⟩:=k.rows id (Nat.lt_of_lt_of_le f h.NR)
  refine ⟨Nat.le_trans a1 u,fun e=>?_⟩
  have t:M2.fr id=M1.fr id:=by omega
  have s:M3.fr id=M2.fr id:=by omega
  obtain ⟨r,C,y⟩:=a2 t
  obtain ⟨x,q,z⟩:=D s
  exact ⟨x.trans r,q.trans C,z.trans y⟩
 cell:=fun b d v a E=>by
  obtain ⟨w,p⟩:=h.cell b d v a E
  exact k.cell b d v p w
 size:=Nat.le_trans h.size k.size
 NL:=Nat.le_trans h.NL k.NL
 lb:=fun i a=>(k.lb i (Nat.lt_of_lt_of_le a h.NL)).trans (h.lb i a)
 lnew:=fun i g j=>by
  by_cases c:i<M2.NL
  ·rw [k.lb i c];exact h.lnew i g c
  ·exact Nat.le_trans h.size (k.lnew i (by omega) j)
 objs:=fun b o g j n=>k.objs b o (h.objs b o g j n) j fun i a=>by
  by_cases c:i<M1.NL
  ·rw [h.lb i c];exact n i c
  ·have:=h.lnew i (by omega) a
   have:=(Array.getElem?_eq_some_iff.1 g).1
   omega
theorem Pe {u:Value} {j:Nat} (h:j<u.cells.size):∃ v,u.cells[j]? = some v:=⟨_,Array.getElem?_eq_getElem h⟩
theorem R.mono {w0:World} {M M':Mem} {w w':World} (hx:Ext w0 M w M' w') {v:Value} {x:AV} (h:R w0 M w v x):R w0 M' w' v x:=by
 induction h with
 | flat h=>exact .flat h
 | agg hl r _ ih=>exact .agg hl r ih
 | tup hl _ ih=>exact .tup hl ih
 | nil ho=>exact .nil ho
 | emp ho=>exact .emp ho
 | @list b off cap xs o sz us hc hm hcell _ ho ih =>
  refine .list sz us hc hm (fun i d=>⟨(hcell i d).1,fun j l=>?_⟩) ih ?_
  ·obtain ⟨f,g⟩:=(hcell i d).2 j l
   obtain ⟨v,hv⟩:=Pe (u:=us i) (j:=j) (by rw [(hcell i d).1];exact l)
   obtain ⟨s,y⟩:=hx.cell _ _ v f (g.trans hv)
   exact ⟨y,s.trans hv.symm⟩
  ·cases o with
   | none=>trivial
   | full=>exact ho
   | seed=>exact ho
   | row id =>
    obtain ⟨r,F,E⟩:=ho
    obtain ⟨m,q⟩:=hx.rows id r
    refine ⟨Nat.lt_of_lt_of_le r hx.NR,Nat.le_trans F m,fun e=>?_⟩
    have D:M'.fr id=M.fr id:=by omega
    obtain ⟨a,b,c⟩:=q D
    rw [a,b,c]
    exact E (by omega)
 | @elem b off x u k hcell _ ih =>
  refine .elem u k (fun j l=>?_) ih
  obtain ⟨f,g⟩:=hcell j l
  obtain ⟨v,hv⟩:=Pe (u:=u) (j:=j) l
  obtain ⟨s,y⟩:=hx.cell _ _ v f (g.trans hv)
  exact ⟨y,s.trans hv.symm⟩
 | box hl=>rw [←hx.bx _ hl];exact .box (Nat.lt_of_lt_of_le hl hx.N)
 | clo hl _ ih=>exact .clo hl ih
 | yld hk=>rw [←hx.lb _ hk];exact .yld (Nat.lt_of_lt_of_le hk hx.NL)
 | @vec id ver o n p cap d hv h =>
  obtain ⟨m,q⟩:=hx.rows id d
  refine .vec (Nat.lt_of_lt_of_le d hx.NR) (Nat.le_trans hv m) (fun e=>?_)
  obtain ⟨t,z,C⟩:=q (by omega)
  rw [t,z,C]
  exact h (by omega)
 | @vel id ver off a d hv h =>
  obtain ⟨m,q⟩:=hx.rows id d
  refine .vel (Nat.lt_of_lt_of_le d hx.NR) (Nat.le_trans hv m) (fun e=>?_)
  obtain ⟨t,z,C⟩:=q (by omega)
  rw [t]
  exact h (by omega)
theorem R.cells {w0:World} {M:Mem} {w:World} {v:Value} {x:AV} (h:R w0 M w v x) :
  v.cells.size=x.cells.length∧∀ i (h1:i<v.cells.size) (h2:i<x.cells.length),R w0 M w v.cells[i] x.cells[i]:=by
 have one:∀ (u:Value) (y:AV),u.cells = #[u]→y.cells=[y]→R w0 M w u y →
   u.cells.size=y.cells.length∧∀ i (h1:i<u.cells.size) (h2:i<y.cells.length),R w0 M w u.cells[i] y.cells[i]:=by
  intro u y a b c
  rw [a,b]
  refine ⟨rfl,fun i h1 h2=>?_⟩
  have:i=0:=by simp at h2;exact h2
  subst this
  exact c
 cases h with
 | agg hl _ h=>exact ⟨hl,h⟩
 | flat hf=>exact one _ _ (by cases v<;>first | rfl | simp [IB] at hf) rfl (.flat hf)
 | tup hl h=>exact one _ _ rfl rfl (.tup hl h)
 | nil ho=>exact one _ _ rfl rfl (.nil ho)
 | emp ho=>exact one _ _ rfl rfl (.emp ho)
 | list sz us hc hm hcell a ho=>exact one _ _ rfl rfl (.list sz us hc hm hcell a ho)
 | elem u k hcell a=>exact one _ _ rfl rfl (.elem u k hcell a)
 | box hl=>exact one _ _ rfl rfl (.box hl)
 | clo hl h=>exact one _ _ rfl rfl (.clo hl h)
 | yld hk=>exact one _ _ rfl rfl (.yld hk)
 | vec hi hv h=>exact one _ _ rfl rfl (.vec hi hv h)
 | vel hi hv h=>exact one _ _ rfl rfl (.vel hi hv h)
theorem R.oneCell {w0:World} {M:Mem} {w:World} {v:Value} {x:AV} (h:R w0 M w v x) (hx:x.one=true):v.oneCell'=true:=by
 cases h with
 | agg=>cases hx
 | flat hf=>cases v<;>first | rfl | simp [IB] at hf
 | tup=>cases hx
 | _=>rfl
theorem R.cellsOne {w0:World} {M:Mem} {w:World} {v:Value} {x:AV} (h:R w0 M w v x) (ht:∀ vs,x ≠ .tup vs):∀ c∈x.cells,c.one=true:=by
 cases h with
 | agg hl h1 h=>exact h1
 | tup=>exact absurd rfl (ht _)
 | _=>intro c hc;simp only [AV.cells,List.mem_singleton] at hc;subst hc;rfl
theorem R.isAgg {w0:World} {M:Mem} {w:World} {v:Value} {xs:List AV} (h:R w0 M w v (.agg xs)):∃ cs,v = .agg cs:=by
 cases h with
 | agg hl h1 h=>exact ⟨_,rfl⟩
theorem R.cells_one {w0:World} {M:Mem} {w:World} {v:Value} {x:AV} (h:R w0 M w v x) (hx:x.one=true):v.cells = #[v]∧x.cells=[x]:=by
 cases h with
 | agg=>cases hx
 | flat hf=>exact ⟨by cases v<;>first | rfl | simp [IB] at hf,rfl⟩
 | tup=>cases hx
 | _=>exact ⟨rfl,rfl⟩
def AV.pubCell:AV→AV
 | .list xs _ => .list xs .none
 | x=>x
def AV.pub:AV→AV
 | .agg cs => .agg (cs.map AV.pubCell)
 | .list xs _ => .list xs .none
 | x=>x
theorem R.pubCell {w0:World} {M:Mem} {w:World} {v:Value} {x:AV} (h:R w0 M w v x):R w0 M w v x.pubCell:=by
 cases h with
 | nil ho=>exact .nil (fun id=>by simp)
 | emp ho=>exact .emp (fun id=>by simp)
 | list sz us hc hm hcell hu ho=>exact .list sz us hc hm hcell hu trivial
 | flat hf=>exact .flat hf
 | agg hl h1 h=>exact .agg hl h1 h
 | tup hl h=>exact .tup hl h
 | elem u k hcell hu=>exact .elem u k hcell hu
 | box hl=>exact .box hl
 | clo hl h=>exact .clo hl h
 | yld hk=>exact .yld hk
 | vec hi hv h=>exact .vec hi hv h
 | vel hi hv h=>exact .vel hi hv h
theorem AV.one_pubCell (x:AV):x.pubCell.one=x.one:=by cases x<;>rfl
theorem R.pub {w0:World} {M:Mem} {w:World} {v:Value} {x:AV} (h:R w0 M w v x):R w0 M w v x.pub:=by
 cases h with
 | nil ho=>exact .nil (fun id=>by simp)
 | emp ho=>exact .emp (fun id=>by simp)
 | list sz us hc hm hcell hu ho=>exact .list sz us hc hm hcell hu trivial
 | flat hf=>exact .flat hf
 | agg hl h1 h=>exact .agg (by simpa using hl) (fun x d=>by obtain ⟨y,c,rfl⟩:=List.mem_map.1 d;rw [AV.one_pubCell];exact h1 y c) (fun i a b=>by simp only [List.getElem_map];exact (h i a (by simpa using b)).pubCell)
 | tup hl h=>exact .tup hl h
 | elem u k hcell hu=>exact .elem u k hcell hu
 | box hl=>exact .box hl
 | clo hl h=>exact .clo hl h
 | yld hk=>exact .yld hk
 | vec hi hv h=>exact .vec hi hv h
 | vel hi hv h=>exact .vel hi hv h
theorem AV.pub_cells_length (x:AV):x.pub.cells.length=x.cells.length:=by cases x<;>simp [AV.pub,AV.cells]
def IW (P:Program) (t:TypeId):Option (Nat × Bool) :=
 match P.info? t,P.underlying t with
 | some i,some d=>some (i.size,match d with | .struct _ | .array _ _=>true | _=>false)
 | _,_=>none
def Fh (P:Program) (t:TypeId) (f:Nat):Option (Nat × Nat × Bool) :=
 match P.underlying t with
 | some (.struct fs)=>match fs[f]? with
  | some x=>(IW P x.type).map fun (s,a)=>(x.offset,s,a)
  | none=>none
 | _=>none
def Kq (P:Program) (t:TypeId):Option (TypeId × Nat × Bool × Nat) :=
 match P.underlying t with
 | some (.slice e)=>match P.info? e,IW P e with
  | some i,some (s,a)=>some (e,s,a,i.bytes)
  | _,_=>none
 | _=>none
def Gu (P:Program) (t:TypeId):Option (Nat × Nat × Bool) :=
 match P.underlying t with
 | some (.array n e)=>(IW P e).map fun (s,a)=>(n,s,a)
 | _=>none
def EL (P:Program) (t:TypeId):Bool :=
 match P.underlying t with | some .string=>true | _=>false
def I9 (P:Program) (t:TypeId):Bool :=
 match P.underlying t with
 | some (.slice e)=>(match P.underlying e with | some (.int .u8)=>true | _=>false)&&(match IW P e with | some (1,false)=>true | _=>false)
 | _=>false
def NH (P:Program) (t:TypeId):Option IntKind :=
 match P.underlying t with | some (.int k)=>some k | _=>none
def Nk:Value→AV
 | .slice none 0 0 => .list [] .full
 | v => .val v
def IX:Value→AV
 | .agg cs => .agg (cs.toList.map Nk)
 | v=>Nk v
def Qe:Value→Bool
 | .slice none 0 0=>true
 | v=>IB v
def Pv:Value→Bool
 | .agg cs=>cs.toList.all Qe
 | v=>Qe v
def C5 (P:Program) (t:TypeId):Option (List AV) :=
 match P.info? t with
 | some i=>match i.zero with
  | some z=>if Pv z&&z.cells.size == i.size then some (IX z).cells else none
  | none=>none
 | none=>none
abbrev Env:=List (Nat × Bool × AV)
def D2:Env→Nat→Option (Bool × AV)
 | [],_=>none
 | (k,c,v)::r,s=>if k=s then some (c,v) else D2 r s
def Dz:List Nat→Env→Env
 | [],_=>[]
 | s::K,e=>match D2 e s with
  | some (c,v)=>(s,c,v)::Dz K e
  | none=>Dz K e
def Ar (e:Env):Operand→AV
 | .tmp t=>match D2 e t with | some (_,v)=>v | none => .junk
 | .const v=>IX v
 | .func f => .clo f []
 | .global _ => .junk
def AP (e:Env) (c:Bool):Operand→Prop
 | .tmp t=>match D2 e t with | some (c',_)=>(c=true→c'=true) | none=>False
 | .const v=>Pv v=true
 | .func _=>True
 | .global _=>False
def J3:AV→Bool
 | .val (.bool b)=>b
 | _=>false
def VY:AV→Bool
 | .val (.bool _)=>true
 | _=>false
def AV.sel (t:Bool):AV→AV→AV
 | .val (.bool x),.val (.bool y) => .val (.bool (if t then x else y))
 | a,b=>if t then a else b
def DG (l:List AV) (off:Nat) (xs:List AV):List AV:=l.take off++xs++l.drop (off+xs.length)
def Yb (l:List AV) (i:Nat):AV:=l.getD i .junk
def QI (P:Program):List Field→Option (List (Nat × Nat))
 | []=>some []
 | f::fs=>match P.info? f.type,QI P fs with
  | some i,some r=>some ((f.offset,i.size)::r)
  | _,_=>none
def D9 (P:Program) (t:TypeId):Option (List (Nat × Nat)) :=
 match P.underlying t with
 | some (.struct fs)=>QI P fs.toList
 | _=>none
def JX (P:Program) (t:TypeId) (i:Nat):Option (Nat × Nat) :=
 match D9 P t with
 | some l=>l[i]?
 | none=>match Gu P t with
  | some (_,s,_)=>some (i*s,s)
  | none=>none
def QY (P:Program) (t:TypeId):List AV→List (Nat × AV)→List AV
 | cs,[]=>cs
 | cs,(i,x)::r=>match JX P t i with
  | some (o,_)=>QY P t (DG cs o x.cells) r
  | none=>cs
def Oq (P:Program) (t:TypeId):Nat→List (Nat × AV)→Prop
 | _,[]=>True
 | n,(i,x)::r=>(match JX P t i with
  | some (o,s)=>x.cells.length=s∧o+s≤n
  | none=>False)∧Oq P t n r
def A5:AV→Bool
 | .tup _=>false
 | _=>true
def GM:AV→Bool
 | .agg _=>true
 | _=>false
def inK:IntKind→Int→Prop
 | .i8,n => -128≤n∧n≤127
 | .i16,n => -32768≤n∧n≤32767
 | .i32,n => -2147483648≤n∧n≤2147483647
 | .i64,n => -9223372036854775808≤n∧n≤9223372036854775807
 | .u8,n=>0≤n∧n≤255
 | .u16,n=>0≤n∧n≤65535
 | .u32,n=>0≤n∧n≤4294967295
 | .u64,n=>0≤n∧n≤18446744073709551615
def Cb (x y:ByteArray):Bool:=x.data.toList == y.data.toList
def WT (x y:ByteArray):Bool:=Op.bytesLess x.data.toList y.data.toList
def evBin:BinOp→Value→Value→Prop × Value
 | .add,.int k a,.int k' b=>(k=k'∧inK k (a+b),.int k (a+b))
 | .sub,.int k a,.int k' b=>(k=k'∧inK k (a-b),.int k (a-b))
 | .mul,.int k a,.int k' b=>(k=k'∧inK k (a*b),.int k (a*b))
 | .quo,.int k a,.int k' b=>(k=k'∧b≠0∧inK k (a.tdiv b),.int k (a.tdiv b))
 | .rem,.int k a,.int k' b=>(k=k'∧b≠0,.int k (a.tmod b))
 | .eql,.int k a,.int k' b=>(k=k',.bool (decide (a=b)))
 | .neq,.int k a,.int k' b=>(k=k',.bool (!decide (a=b)))
 | .lss,.int k a,.int k' b=>(k=k',.bool (decide (a<b)))
 | .leq,.int k a,.int k' b=>(k=k',.bool (decide (a≤b)))
 | .gtr,.int k a,.int k' b=>(k=k',.bool (decide (b<a)))
 | .geq,.int k a,.int k' b=>(k=k',.bool (decide (b≤a)))
 | .add,.string x,.string y=>(x.size+y.size≤9223372036854775807,.string (x++y))
 | .eql,.string x,.string y=>(True,.bool (Cb x y))
 | .neq,.string x,.string y=>(True,.bool (!Cb x y))
 | .lss,.string x,.string y=>(True,.bool (WT x y))
 | .leq,.string x,.string y=>(True,.bool (WT x y||Cb x y))
 | .gtr,.string x,.string y=>(True,.bool (!(WT x y||Cb x y)))
 | .geq,.string x,.string y=>(True,.bool (!WT x y))
 | .shr,.int k a,.int _ b=>(b=1∧0≤a,.int k (a / 2))
 | _,_,_=>(False,undef)
def evBB:BinOp→Bool→Bool→Prop × Bool
 | .eql,a,b=>(True,a == b)
 | .neq,a,b=>(True,a != b)
 | _,_,_=>(False,false)
def M5 (P:Program) (t:TypeId):Bool :=
 match P.underlying t with | some .bool=>true | _=>false
def Ld (P:Program) (t:TypeId):AV→AV→Prop
 | .val (.int k _),.val (.int k' _)=>(NH P t).isSome=true∧k=k'
 | .val (.string _),.val (.string _)=>EL P t=true
 | .val (.bool _),.val (.bool _)=>M5 P t=true
 | _,_=>False
def eqCell:AV→AV→Bool
 | .val (.int _ a),.val (.int _ b)=>decide (a=b)
 | .val (.string a),.val (.string b)=>Cb a b
 | .val (.bool a),.val (.bool b)=>a == b
 | _,_=>false
def OD:List AV→List AV→Bool
 | [],[]=>true
 | x::xs,y::ys=>eqCell x y&&OD xs ys
 | _,_=>false
def W6 (P:Program):List Field→Nat→List AV→List AV→Prop
 | [],_,[],[]=>True
 | f::fs,i,x::xs,y::ys=>f.name ≠ "_" ∧ f.offset=i∧IW P f.type=some (1,false)∧Ld P f.type x y∧W6 P fs (i+1) xs ys
 | _,_,_,_=>False
def eqT (P:Program) (t:TypeId):Option (List Field) :=
 match P.underlying t with
 | some (.struct fs)=>if P.stoodInHeld t=false∧P.eqGuardType P.depth t=false then some fs.toList else none
 | _=>none
def OC (P:Program) (op:BinOp) (t:TypeId) (xs ys:List AV):Prop × Bool :=
 match eqT P t,op with
 | some fs,.eql=>(W6 P fs 0 xs ys,OD xs ys)
 | some fs,.neq=>(W6 P fs 0 xs ys,!OD xs ys)
 | _,_=>(False,false)
def ML:AV→List AV
 | .agg xs=>xs
 | _=>[]
def evUn:UnOp→Value→Prop × Value
 | .not,.bool b=>(True,.bool (!b))
 | .neg,.int k a=>(inK k (0-a),.int k (0-a))
 | _,_=>(False,undef)
def ID:AV→Value
 | .val v=>v
 | _=>undef
def GV:AV→Bool
 | .val _=>true
 | _=>false
def AO:AV→Int
 | .val (.int _ n)=>n
 | _=>0
def J9:AV→IntKind
 | .val (.int k _)=>k
 | _ => .i64
def EK:AV→Bool
 | .val (.int _ _)=>true
 | _=>false
def AY:AV→List AV
 | .list xs _=>xs
 | _=>[]
def CE:AV→Bool
 | .list _ _=>true
 | _=>false
def N6:AV→Bool
 | .val (.string _)=>true
 | _=>false
def ZcU:AV→ByteArray
 | .val (.string s)=>s
 | _ => .empty
def TZ:AV→Prop
 | .val (.int .u8 n)=>0≤n∧n≤255
 | _=>False
def G3 (xs:List AV):ByteArray:=⟨(xs.map fun x=>UInt8.ofNat (AO x).toNat).toArray⟩
def G2 (l:List UInt8):List AV:=l.map fun b => .val (.int .u8 b.toNat)
def EW (rows:List RowA) (id ver:Nat):Option (Nat × List AV) :=
 match rows[id]? with
 | some (.vec v sz cs)=>if v=ver then some (sz,cs) else none
 | _=>none
def Bq (st:St):AV→List AV
 | .box l _=>st.boxes.getD l []
 | .elem x _=>x.cells
 | .vel id ver _=>match EW st.rows id ver with | some (_,cs)=>cs | none=>[]
 | _=>[]
def ES:AV→Nat
 | .box _ o=>o
 | .elem _ o=>o
 | .vel _ _ o=>o
 | _=>0
def DK (st:St):AV→Bool
 | .box l _=>decide (l<st.boxes.length)
 | .elem (.tup _) _=>false
 | .elem _ _=>true
 | .vel id ver _=>(EW st.rows id ver).isSome
 | _=>false
def RF (x:AV) (n:Nat):AV :=
 match x with
 | .box l o => .box l (o+n)
 | .elem y o => .elem y (o+n)
 | .vel id ver o => .vel id ver (o+n)
 | x=>x
def PP (agg:Bool) (cs:List AV) (off sz:Nat):AV:=if agg then .agg ((cs.drop off).take sz) else Yb cs off
def TX (st:St) (a:AV) (xs:List AV):St :=
 match a with
 | .box l o=>{ st with boxes:=st.boxes.set l (DG (st.boxes.getD l []) o xs) }
 | .vel id ver o=>match EW st.rows id ver with
  | some (sz,cs)=>{ st with rows:=st.rows.set id (.vec ver sz (DG cs o xs)) }
  | none=>st
 | _=>st
def OB:AV→Bool
 | .box _ _=>true
 | .vel _ _ _=>true
 | _=>false
def Tf (P:Program) (t:TypeId) (x:AV):Prop × AV :=
 match x with
 | .val (.string s)=>(EL P t=true,.val (.int .i64 s.size))
 | .list xs _=>((Kq P t).isSome=true,.val (.int .i64 xs.length))
 | .vec _ _ _ n=>((Kq P t).isSome=true,.val (.int .i64 n))
 | _=>(False,.junk)
def CP (P:Program) (el sz by8:Nat) (n:Nat) (xs:List AV):Prop :=
 0<sz∧(C5 P el).isSome=true∧(n+xs.length)*by8≤140737488355328∧n+xs.length≤4611686018427387904∧(∀ y∈xs,y.cells.length=sz∧A5 y=true)
def BA (P:Program) (st:St) (t:TypeId) (s x:AV):Prop × AV × St :=
 match Kq P t with
 | some (el,sz,_,by8) =>
  match s with
  | .list ys .full=>if (AY x).length=0 then (CE x=true∧0<sz,.list ys .full,st)
   else (CE x=true∧CP P el sz by8 ys.length (AY x)∧(∀ y∈ys,y.cells.length=sz),.list (ys++(AY x).map AV.pub) (.row st.rows.length),{ st with rows:=st.rows++[.grow (ys.length+(AY x).length) sz] })
  | .list ys (.row id)=>(CE x=true∧CP P el sz by8 ys.length (AY x)∧(∀ y∈ys,y.cells.length=sz)∧st.rows[id]? = some (.grow ys.length sz),.list (ys++(AY x).map AV.pub) (.row id),{ st with rows:=st.rows.set id (.grow (ys.length+(AY x).length) sz) })
  | .list ys .seed=>(CE x=true∧CP P el sz by8 0 (AY x)∧ys.length=0∧0<(AY x).length,.vec st.rows.length 0 0 (AY x).length,{ st with rows:=st.rows++[.vec 0 sz ((AY x).flatMap fun y=>y.pub.cells)] })
  | .vec id ver o n=>match EW st.rows id ver with
   | some (sz',cs)=>(CE x=true∧CP P el sz by8 n (AY x)∧sz'=sz∧o=0∧n*sz≤cs.length,.vec id (ver+1) 0 (n+(AY x).length),{ st with rows:=st.rows.set id (.vec (ver+1) sz (cs.take (n*sz)++(AY x).flatMap fun y=>y.pub.cells)) })
   | none=>(False,.junk,st)
  | _=>(False,.junk,st)
 | none=>(False,.junk,st)
def DJ (e:Env) (d:Int):Option Operand→Int
 | some y=>AO (Ar e y)
 | none=>d
def N1 (e:Env) (c:Bool):Option Operand→Prop
 | some y=>AP e c y∧EK (Ar e y)=true
 | none=>True
def Up (st:St) (x:Prop × AV × St):Prop × AV × St:=(x.1,x.2.1,st)
def Jo (e:Env) (t:TypeId):Bool :=
 match D2 e (1000000+t) with
 | some _=>true
 | none=>false
def Be (P:Program) (e:Env) (c:Bool) (st:St):Op→Prop × AV × St
 | .move x | .assign x=>(AP e c x,Ar e x,st)
 | .pick b x y=>(AP e c b∧VY (Ar e b)=true∧(c=true→J3 (Ar e b)=true→AP e true x)∧(c=true→J3 (Ar e b)=false→AP e true y),AV.sel (J3 (Ar e b)) (Ar e x) (Ar e y),st)
 | .alloc t=>match C5 P t with
  | some z=>(c=true,.box st.boxes.length 0,{ st with boxes:=st.boxes++[z] })
  | none=>(False,.junk,st)
 | .box _ x=>(c=true∧AP e c x∧A5 (Ar e x)=true,.box st.boxes.length 0,{ st with boxes:=st.boxes++[(Ar e x).cells] })
 | .build t ps=>match C5 P t with
  | some z=>(((D9 P t).isSome=true∨(Gu P t).isSome=true)∧(∀ p∈ps.toList,AP e c p.2∧A5 (Ar e p.2)=true)∧Oq P t z.length (ps.toList.map fun p=>(p.1,Ar e p.2)),.agg (QY P t z (ps.toList.map fun p=>(p.1,Ar e p.2))),st)
  | none=>(False,.junk,st)
 | .buildSlice t n ps =>
  let vs:=ps.toList.map fun p=>Ar e p.2
  match Kq P t with
  | some (el,sz,_,_)=>match Jo e t with
   | false=>((∀ p∈ps.toList,AP e c p.2)∧ps.toList.map (·.1)=List.range n∧n*sz≤16777216∧0<sz∧(C5 P el).isSome=true∧(∀ x∈vs,x.cells.length=sz),.list (vs.map AV.pub) .full,st)
   | true=>(c=true∧(∀ p∈ps.toList,AP e c p.2)∧ps.toList.map (·.1)=List.range n∧n*sz≤16777216∧0<sz∧(C5 P el).isSome=true∧(∀ x∈vs,x.cells.length=sz)∧(∀ x∈vs,A5 x=true),.vec st.rows.length 0 0 n,{ st with rows:=st.rows++[.vec 0 sz (vs.flatMap fun x=>x.pub.cells)] })
  | none=>(False,.junk,st)
 | .load t a=>match IW P t with
  | some (sz,ag)=>(AP e c a∧DK st (Ar e a)=true∧ES (Ar e a)+sz≤(Bq st (Ar e a)).length∧(ag=true∨sz=1),PP ag (Bq st (Ar e a)) (ES (Ar e a)) sz,st)
  | none=>(False,.junk,st)
 | .store t a v=>match IW P t with
  | some (sz,_)=>(c=true∧AP e c a∧AP e c v∧OB (Ar e a)=true∧DK st (Ar e a)=true∧A5 (Ar e v)=true∧(Ar e v).cells.length=sz∧ES (Ar e a)+sz≤(Bq st (Ar e a)).length,.junk,TX st (Ar e a) (Ar e v).cells)
  | none=>(False,.junk,st)
 | .nilCheck x=>(AP e c x∧DK st (Ar e x)=true,Ar e x,st)
 | .binOp op t x y _=>if VY (Ar e x)&&VY (Ar e y) then (AP e c x∧AP e c y∧M5 P t=true∧(evBB op (J3 (Ar e x)) (J3 (Ar e y))).1,.val (.bool (evBB op (J3 (Ar e x)) (J3 (Ar e y))).2),st)
  else if GM (Ar e x)&&GM (Ar e y) then (AP e c x∧AP e c y∧(OC P op t (ML (Ar e x)) (ML (Ar e y))).1,.val (.bool (OC P op t (ML (Ar e x)) (ML (Ar e y))).2),st)
  else (AP e c x∧AP e c y∧GV (Ar e x)=true∧GV (Ar e y)=true∧(evBin op (ID (Ar e x)) (ID (Ar e y))).1,.val (evBin op (ID (Ar e x)) (ID (Ar e y))).2,st)
 | .unOp op _ x=>(AP e c x∧GV (Ar e x)=true∧(evUn op (ID (Ar e x))).1,.val (evUn op (ID (Ar e x))).2,st)
 | .convert s d x=>match NH P s,NH P d with
  | some _,some k=>(AP e c x∧EK (Ar e x)=true∧inK k (AO (Ar e x)),.val (.int k (AO (Ar e x))),st)
  | some _,none=>(AP e c x∧EK (Ar e x)=true∧EL P d=true,.val (.string (Utf8.encode (AO (Ar e x)))),st)
  | none,_=>if EL P s&&EL P d then (AP e c x∧N6 (Ar e x)=true,Ar e x,st)
   else if I9 P s&&EL P d then match Ar e x with
    | .vec id ver o n=>match EW st.rows id ver with
     | some (sz',cs)=>(AP e c x∧sz'=1∧o+n≤cs.length∧n≤9223372036854775807∧(∀ y∈(cs.drop o).take n,TZ y),.val (.string (G3 ((cs.drop o).take n))),st)
     | none=>(False,.junk,st)
    | _=>(AP e c x∧CE (Ar e x)=true∧(AY (Ar e x)).length≤9223372036854775807∧(∀ y∈AY (Ar e x),TZ y),.val (.string (G3 (AY (Ar e x)))),st)
   else if EL P s&&I9 P d then (c=true∧AP e c x∧N6 (Ar e x)=true,.list (G2 (ZcU (Ar e x)).data.toList) .none,st)
   else (False,.junk,st)
 | .makeFunc (.func f) fi cap=>(fi.size=0∧(∀ x∈cap.toList,AP e c x),.clo f (cap.toList.map (Ar e)),st)
 | .makeSlice t len cap=>match Kq P t with
  | some (el,sz,_,by8)=>match C5 P el with
   | some z=>(c=true∧AP e c len∧AP e c cap∧EK (Ar e len)=true∧EK (Ar e cap)=true∧0≤AO (Ar e len)∧AO (Ar e len)≤AO (Ar e cap)∧AO (Ar e cap)*by8≤140737488355328∧AO (Ar e cap)≤4611686018427387904∧0<sz∧z.length=sz∧(AO (Ar e len)=0∨Jo e t=true∨sz=1),
     if AO (Ar e len)=0 then .list [] (.row st.rows.length) else if Jo e t=true then .vec st.rows.length 0 0 (AO (Ar e len)).toNat else .list (List.replicate (AO (Ar e len)).toNat (Yb z 0)) .none,
     if AO (Ar e len)=0 then { st with rows:=st.rows++[.grow 0 sz] } else if Jo e t=true then { st with rows:=st.rows++[.vec 0 sz ((List.replicate (AO (Ar e len)).toNat z).flatten)] } else st)
   | none=>(False,.junk,st)
  | none=>(False,.junk,st)
 | .slice t x lo hi mx=>match Ar e x with
  | .vec id ver o n=>match Kq P t,EW st.rows id ver with
   | some (_,sz,_,_),some (sz',_)=>(AP e c x∧N1 e c lo∧N1 e c hi∧mx.isNone=true∧0≤DJ e 0 lo∧DJ e 0 lo≤DJ e n hi∧DJ e n hi≤n∧(DJ e 0 lo=0∨DJ e 0 lo<n)∧sz'=sz,.vec id ver (o+(DJ e 0 lo).toNat) ((DJ e n hi).toNat-(DJ e 0 lo).toNat),st)
   | _,_=>(False,.junk,st)
  | .val (.string s) =>
   (EL P t=true∧AP e c x∧N1 e c lo∧N1 e c hi∧mx.isNone=true∧0≤DJ e 0 lo∧DJ e 0 lo≤DJ e s.size hi∧DJ e s.size hi≤s.size,.val (.string (s.extract (DJ e 0 lo).toNat (DJ e s.size hi).toNat)),st)
  | .list xs _=>match Kq P t with
   | some (_,sz,_,_)=>match mx with
    | none=>(AP e c x∧N1 e c lo∧N1 e c hi∧0≤DJ e 0 lo∧DJ e 0 lo≤DJ e xs.length hi∧DJ e xs.length hi≤xs.length∧(DJ e 0 lo=0∨∀ y∈xs,y.cells.length=sz),.list ((xs.take (DJ e xs.length hi).toNat).drop (DJ e 0 lo).toNat) .none,st)
    | some m=>(AP e c x∧N1 e c lo∧N1 e c hi∧N1 e c (some m)∧DJ e 0 lo=0∧DJ e 1 hi=0∧DJ e 1 (some m)=0,.list [] .full,st)
   | none=>(False,.junk,st)
  | _=>(False,.junk,st)
 | .fieldAddr t x f=>match Fh P t f with
  | some (o,sz,_)=>(AP e c x∧DK st (Ar e x)=true∧0<sz,RF (Ar e x) o,st)
  | none=>(False,.junk,st)
 | .field t x f=>match Fh P t f with
  | some (o,sz,ag)=>(AP e c x∧GM (Ar e x)=true∧o+sz≤(Ar e x).cells.length∧(ag=true∨sz=1),PP ag (Ar e x).cells o sz,st)
  | none=>(False,.junk,st)
 | .indexAddr t x i=>Up st <| match Kq P t with
  | some (_,sz,_,_)=>match Ar e x with
   | .vec id ver o n=>match EW st.rows id ver with
    | some (sz',_)=>(AP e c x∧AP e c i∧EK (Ar e i)=true∧0≤AO (Ar e i)∧AO (Ar e i)<n∧sz'=sz,.vel id ver ((o+(AO (Ar e i)).toNat)*sz),st)
    | none=>(False,.junk,st)
   | _=>(AP e c x∧AP e c i∧CE (Ar e x)=true∧EK (Ar e i)=true∧0≤AO (Ar e i)∧AO (Ar e i)<(AY (Ar e x)).length∧(Yb (AY (Ar e x)) (AO (Ar e i)).toNat).cells.length=sz,.elem (Yb (AY (Ar e x)) (AO (Ar e i)).toNat) 0,st)
  | none=>match Gu P t with
   | some (n,sz,_)=>(AP e c x∧AP e c i∧DK st (Ar e x)=true∧EK (Ar e i)=true∧0≤AO (Ar e i)∧AO (Ar e i)<n,RF (Ar e x) ((AO (Ar e i)).toNat*sz),st)
   | none=>(False,.junk,st)
 | .index t x i=>Up st <| match Ar e x with
  | .val (.string s)=>(EL P t=true∧AP e c x∧AP e c i∧EK (Ar e i)=true∧0≤AO (Ar e i)∧AO (Ar e i)<s.size,.val (.int .u8 (s.get! (AO (Ar e i)).toNat).toNat),st)
  | .agg cs=>match Gu P t with
   | some (n,sz,ag)=>(AP e c x∧AP e c i∧EK (Ar e i)=true∧0≤AO (Ar e i)∧AO (Ar e i)<n∧cs.length=n*sz∧(ag=true∨sz=1),PP ag cs ((AO (Ar e i)).toNat*sz) sz,st)
   | none=>(False,.junk,st)
  | _=>(False,.junk,st)
 | .extract x i=>Up st <| match Ar e x with
  | .tup vs=>(AP e c x∧i<vs.length,Yb vs i,st)
  | _=>(False,.junk,st)
 | .call ⟨.builtin .len,args,ts⟩=>match args.toList,ts.toList with
  | [x],[t]=>(AP e c x∧(Tf P t (Ar e x)).1,(Tf P t (Ar e x)).2,st)
  | _,_=>(False,.junk,st)
 | .call ⟨.builtin .append,args,ts⟩=>match args.toList,ts.toList with
  | [s,x],[t,t']=>(c=true∧AP e c s∧AP e c x∧t=t'∧(BA P st t (Ar e s) (Ar e x)).1,(BA P st t (Ar e s) (Ar e x)).2)
  | _,_=>(False,.junk,st)
 | .call ⟨.builtin .min,args,_⟩=>match args.toList with
  | [x,y]=>(AP e c x∧AP e c y∧EK (Ar e x)=true∧EK (Ar e y)=true∧True,.val (.int (J9 (Ar e x)) (if AO (Ar e y)<AO (Ar e x) then AO (Ar e y) else AO (Ar e x))),st)
  | _=>(False,.junk,st)
 | .call ⟨.builtin .max,args,_⟩=>match args.toList with
  | [x,y]=>(AP e c x∧AP e c y∧EK (Ar e x)=true∧EK (Ar e y)=true,.val (.int (J9 (Ar e x)) (if AO (Ar e x)<AO (Ar e y) then AO (Ar e y) else AO (Ar e x))),st)
  | _=>(False,.junk,st)
 | _=>(False,.junk,st)
def entryOk (w0:World) (M:Mem) (w:World) (v:Value) (x:Bool × AV):Prop:=if x.1=true then R w0 M w v x.2 else v=undef
structure LoopSt (w0:World) (M:Mem) (w:World) (ls:List LoopA):Prop where
 NL:M.NL=ls.length
 inj:∀ k k',k<M.NL→k'<M.NL→M.lb k=M.lb k'→k=k'
 record:∀ k la,ls[k]? = some la→w0.heap.size≤M.lb k∧∃ r:Loop,w.heap[M.lb k]? = some (.loop r)∧r.state=la.st∧r.pending=la.pend∧r.params=la.ps∧r.assign=la.asg∧r.body=la.body ∧
  r.tmps.size=la.n∧∀ s x,D2 la.e s=some x→entryOk w0 M w (r.tmps.getD s undef) x
theorem entryOk.mono {w0:World} {M M':Mem} {w w':World} (hx:Ext w0 M w M' w') {v:Value} {x:Bool × AV} (h:entryOk w0 M w v x):entryOk w0 M' w' v x:=by
 unfold entryOk at *
 split
 ·rename_i c;rw [Ae c] at h;exact h.mono hx
 ·rename_i c;rw [Af c] at h;exact h
theorem LoopSt.mono {w0:World} {M M':Mem} {w w':World} {ls:List LoopA} (h:LoopSt w0 M w ls) (hx:Ext w0 M w M' w') (hN:M'.NL=M.NL) (hk:KeepsObj w w'):LoopSt w0 M' w' ls where
 NL:=hN.trans h.NL
 inj:=fun k f c d e=>h.inj k f (hN▸c) (hN▸d) (by rw [hx.lb k (hN▸c),hx.lb f (hN▸d)] at e;exact e)
 record:=fun k i a=>by
  have b:k<M.NL:=by rw [h.NL];exact (Ag.1 a).1
  obtain ⟨a1,r,a2,a3,a4,a5,a6,a7,j,g⟩:=h.record k i a
  rw [hx.lb k b]
  exact ⟨a1,r,hk _ _ a2 rfl,a3,a4,a5,a6,a7,j,fun s x hs=>(g s x hs).mono hx⟩
def RowOk (w0:World) (M:Mem) (w:World) (id:Nat):RowA→Prop
 | .grow n sz=>M.fr id=n∧M.rsz id=sz∧w0.heap.size≤M.blk id∧M.top (M.blk id)=n*sz∧(∀ l,l<M.N→M.bx l≠M.blk id)∧M.cap id≤maxLen∧n≤M.cap id ∧
  ∃ c ty,w.heap[M.blk id]? = some (.cells c ty (0,0))∧c.size=M.cap id*sz
 | .vec ver sz cs=>M.fr id=ver∧M.rsz id=sz∧w0.heap.size≤M.blk id∧M.top (M.blk id)=0∧(∀ l,l<M.N→M.bx l≠M.blk id)∧M.cap id≤maxLen∧0<sz ∧
  ∃ c ty,w.heap[M.blk id]? = some (.cells c ty (0,0))∧c.size=M.cap id*sz∧cs.length≤c.size∧(∀ x∈cs,x.one=true)∧∀ i (h1:i<c.size) (h2:i<cs.length),R w0 M w c[i] cs[i]
 | .dead ver=>M.fr id=ver∧w0.heap.size≤M.blk id∧(∀ l,l<M.N→M.bx l≠M.blk id)∧M.blk id<w.heap.size
theorem RowOk.base {w0:World} {M:Mem} {w:World} {id:Nat} {x:RowA} (h:RowOk w0 M w id x):w0.heap.size≤M.blk id:=by
 cases x with
 | grow n sz=>exact h.2.2.1
 | vec v sz cs=>exact h.2.2.1
 | dead v=>exact h.2.1
theorem RowOk.ne {w0:World} {M:Mem} {w:World} {id:Nat} {x:RowA} (h:RowOk w0 M w id x):∀ l,l<M.N→M.bx l≠M.blk id:=by
 cases x with
 | grow n sz=>exact h.2.2.2.2.1
 | vec v sz cs=>exact h.2.2.2.2.1
 | dead v=>exact h.2.2.1
theorem RowOk.lt {w0:World} {M:Mem} {w:World} {id:Nat} {x:RowA} (h:RowOk w0 M w id x):M.blk id<w.heap.size:=by
 cases x with
 | grow n sz=>obtain ⟨_,_,_,_,_,_,_,c,b,a,_⟩:=h;exact (Array.getElem?_eq_some_iff.1 a).1
 | vec v sz cs=>obtain ⟨_,_,_,_,_,_,_,c,b,a,_⟩:=h;exact (Array.getElem?_eq_some_iff.1 a).1
 | dead v=>exact h.2.2.2
theorem RowOk.keep {w0:World} {M M':Mem} {w w':World} {id:Nat} {x:RowA} (h:RowOk w0 M w id x) (hx:Ext w0 M w M' w') (e1:M'.fr id=M.fr id) (e2:M'.rsz id=M.rsz id) (e3:M'.blk id=M.blk id) (e4:M'.cap id=M.cap id)
  (e5:M'.top (M.blk id)=M.top (M.blk id)) (e6:∀ l,l<M'.N→M'.bx l≠M.blk id) (e7:w'.heap[M.blk id]? = w.heap[M.blk id]?):RowOk w0 M' w' id x:=by
 cases x with
 | grow n sz =>
  obtain ⟨a1,a2,a3,a4,a5,a6,a7,c,d,b,a⟩:=h
  simp only [RowOk,e1,e2,e3,e4,e5,e7]
  exact ⟨a1,a2,a3,a4,e6,a6,a7,c,d,b,a⟩
 | vec v sz cs =>
  obtain ⟨a1,a2,a3,a4,a5,a6,a7,c,d,b,a,e,j,f⟩:=h
  simp only [RowOk,e1,e2,e3,e4,e5,e7]
  exact ⟨a1,a2,a3,a4,e6,a6,a7,c,d,b,a,e,j,fun i g k=>(f i g k).mono hx⟩
 | dead v =>
  obtain ⟨a1,a2,a3,a4⟩:=h
  simp only [RowOk,e1,e3]
  exact ⟨a1,a2,e6,Nat.lt_of_lt_of_le a4 hx.size⟩
structure RelSt (w0:World) (M:Mem) (st:St) (w:World):Prop where
 below:Below w0.heap.size w0 w
 N:M.N=st.boxes.length
 NR:M.NR=st.rows.length
 top:∀ b,w.heap.size≤b→M.top b=0
 inj:∀ l l',l<M.N→l'<M.N→M.bx l=M.bx l'→l=l'
 box:∀ l cs,st.boxes[l]? = some cs→w0.heap.size≤M.bx l∧M.top (M.bx l)=0∧∃ c ty,w.heap[M.bx l]? = some (.cells c ty (0,0))∧c.size=cs.length∧(∀ x∈cs,x.one=true) ∧
  ∀ i (h1:i<c.size) (h2:i<cs.length),R w0 M w c[i] cs[i]
 row:∀ id x,st.rows[id]? = some x→RowOk w0 M w id x
 rowinj:∀ i j,i<M.NR→j<M.NR→M.blk i=M.blk j→i=j
 loop:LoopSt w0 M w st.loops
structure Rel (w0:World) (n:Nat) (M:Mem) (e:Env) (st:St) (a:Act) (w:World):Prop where
 st:RelSt w0 M st w
 size:a.tmps.size=n
 env:∀ s x,D2 e s=some x→entryOk w0 M w (a.tmps.getD s undef) x
section
variable {P:Program} {w0:World} {n:Nat} {M:Mem} {e:Env} {st:St} {a:Act} {w:World}
theorem MF {t:TypeId} {s:Nat} {b:Bool} (h:IW P t=some (s,b)):∃ i d,P.info? t=some i∧i.size=s∧P.underlying t=some d∧(match d with | .struct _ | .array _ _=>true | _=>false)=b:=by
 unfold IW at h
 split at h
 ·rename_i i d h1 h2
  simp only [Option.some.injEq,Prod.mk.injEq] at h
  exact ⟨i,d,h1,h.1,h2,h.2⟩
 ·cases h
theorem BW {t:TypeId} {s:Nat} {b:Bool} (h:IW P t=some (s,b)) (w:World):(sizeOf t).run P w = .ok s w:=by
 obtain ⟨i,d,c,a,_,_⟩:=MF h
 simp [sizeOf,typeInfo,c,a]
theorem U5 {t:TypeId} {s:Nat} {b:Bool} (h:IW P t=some (s,b)) (w:World):(isAgg t).run P w = .ok b w:=by
 obtain ⟨i,d,_,_,a,h4⟩:=MF h
 unfold isAgg
 rw [Sem.run_bind,run_underlying a w]
 subst h4
 cases d<;>rfl
theorem WZ {t:TypeId} {f o s:Nat} {b:Bool} (h:Fh P t f=some (o,s,b)):∃ fs x,P.underlying t=some (.struct fs)∧fs[f]? = some x∧x.offset=o∧IW P x.type=some (s,b):=by
 unfold Fh at h
 split at h
 ·rename_i fs h1
  split at h
  ·rename_i x h2
   obtain ⟨⟨d,e⟩,c,a⟩:=Option.map_eq_some_iff.1 h
   simp only [Prod.mk.injEq] at a
   obtain ⟨rfl,rfl,rfl⟩:=a
   exact ⟨fs,x,h1,h2,rfl,c⟩
  ·cases h
 ·cases h
theorem Hh {t el:TypeId} {s by8:Nat} {b:Bool} (h:Kq P t=some (el,s,b,by8)):∃ i,P.underlying t=some (.slice el)∧P.info? el=some i∧i.bytes=by8∧IW P el=some (s,b):=by
 unfold Kq at h
 split at h
 ·rename_i e' h1
  split at h
  ·rename_i i s' b' h2 h3
   simp only [Option.some.injEq,Prod.mk.injEq] at h
   obtain ⟨rfl,rfl,rfl,rfl⟩:=h
   exact ⟨i,h1,h2,rfl,h3⟩
  ·cases h
 ·cases h
theorem Ru {t:TypeId} {m s:Nat} {b:Bool} (h:Gu P t=some (m,s,b)):∃ el,P.underlying t=some (.array m el)∧IW P el=some (s,b):=by
 unfold Gu at h
 split at h
 ·rename_i m' el h1
  obtain ⟨⟨d,e⟩,c,a⟩:=Option.map_eq_some_iff.1 h
  simp only [Prod.mk.injEq] at a
  obtain ⟨rfl,rfl,rfl⟩:=a
  exact ⟨el,h1,c⟩
 ·cases h
theorem FM {t:TypeId} (h:EL P t=true):P.underlying t=some .string:=by
 unfold EL at h
 split at h
 ·assumption
 ·cases h
theorem RZ {t:TypeId} {k:IntKind} (h:NH P t=some k):P.underlying t=some (.int k):=by
 unfold NH at h
 split at h
 ·rename_i k' h1;cases h;exact h1
 ·cases h
theorem Zbe:R w0 M w undef .junk := .tup rfl (fun i a=>absurd a (by simp))
theorem YW {v:Value} (h:Qe v=true):R w0 M w v (Nk v):=by
 unfold Nk
 split
 ·exact .nil (fun id=>by simp)
 ·rename_i hne
  refine .flat ?_
  unfold Qe at h
  split at h
  ·exact absurd rfl hne
  ·exact h
theorem Zau {v:Value} (h:Qe v=true):(Nk v).one=true:=by
 unfold Nk
 split<;>rfl
theorem Q2 {v:Value} (h:Pv v=true):R w0 M w v (IX v):=by
 cases v with
 | agg cs =>
  have a:∀ x∈cs.toList,Qe x=true:=List.all_eq_true.1 h
  refine .agg (by simp) (fun x b=>?_) (fun i d e=>?_)
  ·obtain ⟨y,c,rfl⟩:=List.mem_map.1 b
   exact Zau (a y c)
  ·simp only [List.getElem_map,Array.getElem_toList]
   exact YW (a _ (by simp))
 | _=>exact YW h
theorem Bh (h:Rel w0 n M e st a w) {x:Operand} (ho:AP e true x):R w0 M w (a.eval x) (Ar e x):=by
 cases x with
 | tmp t =>
  simp only [AP,Ar] at *
  cases hl:D2 e t with
  | none=>simp [hl] at ho
  | some x =>
   obtain ⟨c,v⟩:=x
   simp only [hl] at ho ⊢
   have:=h.env t _ hl
   unfold entryOk at this
   rw [Ae (by simpa using ho)] at this
   exact this
 | const v=>exact Q2 ho
 | func f=>exact .clo rfl (fun i b=>absurd b (by simp))
 | global g=>exact ho.elim
theorem R.val_inv {v u:Value} (h:R w0 M w v (.val u)):v=u∧IB u=true:=by cases h;exact ⟨rfl,‹_›⟩
theorem R.plain {v:Value} {x:AV} (h:R w0 M w v x) (hp:GV x=true):v=ID x∧IB (ID x)=true∧x = .val (ID x):=by
 cases x with
 | val u=>obtain ⟨rfl,a⟩:=h.val_inv;exact ⟨rfl,a,rfl⟩
 | _=>cases hp
theorem R.int {v:Value} {x:AV} (h:R w0 M w v x) (hp:EK x=true):v = .int (J9 x) (AO x)∧x = .val (.int (J9 x) (AO x)):=by
 cases x with
 | val u =>
  obtain ⟨rfl,a⟩:=h.val_inv
  cases v<;>first | exact ⟨rfl,rfl⟩ | cases hp
 | _=>cases hp
theorem R.bool {v:Value} {x:AV} (h:R w0 M w v x) (hp:VY x=true):v = .bool (J3 x)∧x = .val (.bool (J3 x)):=by
 cases x with
 | val u =>
  obtain ⟨rfl,a⟩:=h.val_inv
  cases v<;>first | exact ⟨rfl,rfl⟩ | cases hp
 | _=>cases hp
def Yields' (P:Program) (w0:World) (M:Mem) (st':St) (r:AV) (w:World) (s:Sem Next):Prop :=
 ∃ v w' M',(s.run P w = .ok (.value v) w'∨(s.run P w = .ok .skip w'∧v=undef))∧Ext w0 M w M' w'∧RelSt w0 M' st' w'∧R w0 M' w' v r
theorem LF (hst:RelSt w0 M st w) {s:Sem Next} {v:Value} {r:AV} (hs:s.run P w = .ok (.value v) w) (hr:R w0 M w v r):Yields' P w0 M st r w s :=
 ⟨v,w,M,.inl hs,Ext.refl _ _ _,hst,hr⟩
theorem MB {k:IntKind} {m:Int} (h:inK k m):k.wrap m=m:=by
 cases k<;>simp only [inK] at h<;>simp only [IntKind.wrap,IntKind.signed,IntKind.bits]<;>simp<;>omega
theorem Qk (x y:ByteArray):(x.toList == y.toList)=Cb x y:=by
 unfold Cb
 rw [Lib.toList_data,Lib.toList_data]
theorem YS {op:BinOp} {x y:Value} {t:TypeId} {X Y:Operand} (h:(evBin op x y).1) :
  (do eqGuard op t X Y x y;binOp op t x y:Sem Value).run P w = .ok (evBin op x y).2 w:=by
 unfold evBin at h ⊢
 split at h<;>simp only at h ⊢ <;> try exact h.elim
 case h_1 k a k' b=>obtain ⟨rfl,h⟩:=h;simp [eqGuard,binOp,Op.intArith,MB h]
 case h_2 k a k' b=>obtain ⟨rfl,h⟩:=h;simp [eqGuard,binOp,Op.intArith,MB h]
 case h_3 k a k' b=>obtain ⟨rfl,h⟩:=h;simp [eqGuard,binOp,Op.intArith,MB h]
 case h_4 k a k' b =>
  obtain ⟨rfl,c,h⟩:=h
  simp [eqGuard,binOp,Op.intDiv,c,MB h]
 case h_5 k a k' b =>
  obtain ⟨rfl,c⟩:=h
  simp [eqGuard,binOp,Op.intDiv,c]
 case h_6 k a k' b=>subst h;simp [eqGuard,binOp,Op.intCmp];rfl
 case h_7 k a k' b=>subst h;simp [eqGuard,binOp,Op.intCmp];rfl
 case h_8 k a k' b=>subst h;simp [eqGuard,binOp,Op.intCmp]
 case h_9 k a k' b=>subst h;simp [eqGuard,binOp,Op.intCmp]
 case h_10 k a k' b=>subst h;simp [eqGuard,binOp,Op.intCmp]
 case h_11 k a k' b=>subst h;simp [eqGuard,binOp,Op.intCmp]
 case h_12 x y =>
  have e:¬ (((x.size+y.size:Nat):Int) > IntKind.i64.max):=by simp [IntKind.max,IntKind.signed,IntKind.bits];omega
  simp only [eqGuard,binOp,Op.stringOp,Af e]
  simp
 case h_13 x y=>simp [eqGuard,binOp,Op.stringOp,Qk]
 case h_14 x y=>simp [eqGuard,binOp,Op.stringOp,Qk]
 case h_15 x y=>simp [eqGuard,binOp,Op.stringOp,Lib.toList_data,WT]
 case h_16 x y=>simp [eqGuard,binOp,Op.stringOp,Lib.toList_data,WT,Cb]
 case h_17 x y=>simp [eqGuard,binOp,Op.stringOp,Lib.toList_data,WT,Cb]
 case h_18 x y=>simp [eqGuard,binOp,Op.stringOp,Lib.toList_data,WT]
 case h_19 k a k' b =>
  obtain ⟨rfl,h⟩:=h
  have e:Nat.min (Int.toNat 1) k.bits=1:=by cases k<;>rfl
  have d:min (Int.toNat 1) k.bits=1:=by cases k<;>rfl
  simp only [eqGuard,binOp,Op.shift,e,d]
  simp [Int.fdiv_eq_ediv_of_nonneg]
section
theorem X6 {d:Nat} {t:TypeId} {u v:Value} (h:Ld P t (.val u) (.val v)):(Op.equalIn (d+1) t u v).run P w = .ok (eqCell (.val u) (.val v)) w:=by
 unfold Ld at h
 split at h
 ·rename_i k a k' b e1 e2
  cases e1;cases e2
  obtain ⟨h1,rfl⟩:=h
  unfold NH at h1
  split at h1
  ·rename_i k1 hk
   rw [run_equalIn_int w d t _ k1 a b hk];rfl
  ·cases h1
 ·rename_i a b e1 e2
  cases e1;cases e2
  unfold EL at h
  split at h
  ·rename_i hk
   rw [run_equalIn_string w d t a b hk,Qk];rfl
  ·cases h
 ·rename_i a b e1 e2
  cases e1;cases e2
  unfold M5 at h
  split at h
  ·rename_i hk
   rw [run_equalIn_bool' w d t a b hk];rfl
  ·cases h
 ·exact h.elim
theorem XD {t:TypeId} {x y:AV} (h:Ld P t x y):∃ u v,x = .val u∧y = .val v:=by
 unfold Ld at h
 split at h
 ·exact ⟨_,_,rfl,rfl⟩
 ·exact ⟨_,_,rfl,rfl⟩
 ·exact ⟨_,_,rfl,rfl⟩
 ·exact h.elim
theorem Ye {t:TypeId} (ht:IW P t=some (1,false)) {cs:Array Value} {i:Nat} {v:Value} (h:cs[i]? = some v):(part t cs i).run P w = .ok v w:=by
 obtain ⟨c,d,e,f,a,h4⟩:=MF ht
 have b:(isAgg t).run P w = .ok false w:=by
  simp only [isAgg,Sem.run_bind,run_underlying a,Result.andThen_ok]
  cases d<;>first | (cases h4;done) | rfl | (cases h4;rfl)
 simp [part,b,h]
theorem Lj (d:Nat) {cs ds:Array Value}:∀ (fs:List Field) (i:Nat) (xs ys:List AV),W6 P fs i xs ys→(∀ j v,xs[j]? = some (.val v)→cs[i+j]? = some v)→(∀ j v,ys[j]? = some (.val v)→ds[i+j]? = some v) →
  (Op.eqFields (d+1) cs ds fs).run P w = .ok (OD xs ys) w
 | [],_,[],[],_,_,_=>by simp [Op.eqFields,OD]
 | f::fs,i,x::xs,y::ys,h,hx,hy=>by
  obtain ⟨k,rfl,c,e,l⟩:=h
  obtain ⟨u,v,rfl,rfl⟩:=XD e
  have b:=Ye (w:=w) c (hx 0 u rfl)
  have g:=Ye (w:=w) c (hy 0 v rfl)
  simp only [Nat.add_zero] at b g
  have ih:=Lj d fs _ xs ys l (fun j v a=>by rw [Nat.add_assoc,Nat.add_comm 1 j];exact hx (j+1) v a) (fun j v a=>by rw [Nat.add_assoc,Nat.add_comm 1 j];exact hy (j+1) v a)
  simp only [Op.eqFields,Ae k,Sem.run_bind,b,g,Result.andThen_ok,X6 e,OD]
  cases hc:eqCell (.val u) (.val v)
  ·simp
  ·simp [ih]
 | [],_,[],_::_,h,_,_=>h.elim
 | [],_,_::_,_,h,_,_=>h.elim
 | _::_,_,[],_,h,_,_=>h.elim
 | _::_,_,_::_,[],h,_,_=>h.elim
theorem ZbD {op:BinOp} {t:TypeId} {cs ds:Array Value} {xs ys:List AV} {X Y:Operand} (h:(OC P op t xs ys).1) (hx:∀ (j:Nat) (v:Value),xs[j]? = some (.val v)→cs[j]? = some v) (hy:∀ (j:Nat) (v:Value),ys[j]? = some (.val v)→ds[j]? = some v) :
  (do eqGuard op t X Y (.agg cs) (.agg ds);binOp op t (.agg cs) (.agg ds):Sem Value).run P w = .ok (.bool (OC P op t xs ys).2) w:=by
 unfold OC at h ⊢
 unfold eqT at h ⊢
 cases hu:P.underlying t with
 | none=>rw [hu] at h;exact h.elim
 | some d =>
  cases d<;>(try (rw [hu] at h;exact h.elim))
  rename_i fs
  rw [hu] at h
  simp only at h ⊢
  by_cases hc:P.stoodInHeld t=false∧P.eqGuardType P.depth t=false
  ·rw [Ae hc] at h ⊢
   have c:P.fieldsOf t=fs:=by unfold Program.fieldsOf;rw [hu]
   have b:P.underlying t=some (.struct (P.fieldsOf t)):=by rw [c];exact hu
   cases op<;>simp only at h ⊢ <;> (try exact h.elim)
   ·have:=Lj (P:=P) (w:=w) 9998 fs.toList 0 xs ys h (fun j v a=>by rw [Nat.zero_add];exact hx j v a) (fun j v a=>by rw [Nat.zero_add];exact hy j v a)
    simp only [Sem.run_bind,run_eqGuard_agg w _ t X Y cs ds hc.2,Result.andThen_ok,run_eql_struct,run_equalIn_agg w 9999 t cs ds b hc.1,c,this]
   ·have:=Lj (P:=P) (w:=w) 9998 fs.toList 0 xs ys h (fun j v a=>by rw [Nat.zero_add];exact hx j v a) (fun j v a=>by rw [Nat.zero_add];exact hy j v a)
    simp only [Sem.run_bind,run_eqGuard_agg w _ t X Y cs ds hc.2,Result.andThen_ok,run_neq_struct,run_equalIn_agg w 9999 t cs ds b hc.1,c,this]
  ·rw [Af hc] at h;exact h.elim
end
theorem R.aggC {w0:World} {M:Mem} {w:World} {v:Value} {x:AV} (h:R w0 M w v x) (hx:GM x=true):∃ cs,v = .agg cs∧∀ (j:Nat) (u:Value),(ML x)[j]? = some (.val u)→cs[j]? = some u:=by
 cases h with
 | @agg cs xs hl h1 h =>
  refine ⟨cs,rfl,fun j u c=>?_⟩
  replace c:xs[j]? = some (.val u):=c
  obtain ⟨a,d⟩:=Ag.1 c
  have hr:=h j (by omega) a
  have b:xs[j]'a = .val u:=d
  rw [b] at hr
  have e:j<cs.size:=by omega
  rw [Array.getElem?_eq_getElem e]
  generalize cs[j]=q at hr
  cases hr
  rfl
 | _=>cases hx
theorem ZH {op:BinOp} {x y:Value} (h:(evBin op x y).1):IB (evBin op x y).2=true:=by
 unfold evBin at h ⊢
 split at h<;>simp only at h ⊢ <;> try first | exact h.elim | rfl
 rename_i x y
 have e:(x++y).size=x.size+y.size:=ByteArray.size_append
 simp only [IB,maxLen,e]
 simp
 omega
theorem ZP {op:UnOp} {x:Value} (h:(evUn op x).1):(Op.unary op x).run P w = .ok (evUn op x).2 w:=by
 unfold evUn at h ⊢
 split at h<;>simp only at h ⊢ <;> try exact h.elim
 ·simp [Op.unary]
 ·have e:=MB h
  simp only [Op.unary,Op.intArith,e]
  rfl
theorem Zbv {op:UnOp} {x:Value} (h:(evUn op x).1):IB (evUn op x).2=true:=by
 unfold evUn at h ⊢
 split at h<;>simp only at h ⊢ <;> first | exact h.elim | rfl
theorem E4 (b o j:Nat):(⟨b,o,none⟩:Addr).add j=⟨b,o+j,none⟩:=by
 unfold Addr.add
 split
 ·subst j;rfl
 ·rfl
theorem Hv {rows:List RowA} {id ver sz:Nat} {cs:List AV} (h:EW rows id ver=some (sz,cs)):rows[id]? = some (.vec ver sz cs):=by
 unfold EW at h
 split at h
 ·rename_i v s c he
  split at h
  ·rename_i hv;cases h;rw [he,hv]
  ·cases h
 ·cases h
theorem Rh {rows:List RowA} {id ver:Nat} (h:(EW rows id ver).isSome=true):∃ sz cs,EW rows id ver=some (sz,cs):=by
 obtain ⟨⟨a,b⟩,h⟩:=Option.isSome_iff_exists.1 h
 exact ⟨a,b,h⟩
theorem Zu (hst:RelSt w0 M st w) {v:Value} {x:AV} (h:R w0 M w v x) (hr:DK st x=true) :
  ∃ b o,v = .pointer (some ⟨b,o+ES x,none⟩)∧(∀ c∈Bq st x,c.one=true)∧∀ j (hj:j<(Bq st x).length),∃ u,w.cell? ⟨b,o+j,none⟩=some u∧R w0 M w u (Bq st x)[j]:=by
 cases x with
 | box l off =>
  cases h with
  | box hl =>
   have n:l<st.boxes.length:=by simpa [DK] using hr
   obtain ⟨cs,d⟩:∃ cs,st.boxes[l]? = some cs:=⟨_,List.getElem?_eq_getElem n⟩
   obtain ⟨_,_,c,m,q,C,s,i⟩:=hst.box l cs d
   have e:Bq st (.box l off)=cs:=by simp [Bq,List.getD,d]
   refine ⟨M.bx l,0,by simp [ES],by rw [e];exact s,fun j hj=>?_⟩
   simp only [e] at hj ⊢
   refine ⟨c[j]'(by omega),?_,i j (by omega) hj⟩
   rw [Nat.zero_add,cell_of_row w _ j c m _ q]
   exact Array.getElem?_eq_getElem (by omega)
 | elem y k =>
  cases h with
  | @elem b off x u k hcell hu =>
   obtain ⟨hs,i⟩:=hu.cells
   refine ⟨b,off,rfl,?_,fun j hj=>?_⟩
   ·refine hu.cellsOne (fun vs hv=>?_)
    subst hv
    simp [DK] at hr
   ·have f:j<u.cells.size:=by rw [hs];exact hj
    refine ⟨u.cells[j],?_,i j f hj⟩
    rw [(hcell j f).2]
    exact Array.getElem?_eq_getElem f
 | vel id ver off =>
  cases h with
  | @vel _ _ _ a hi hv hh =>
   obtain ⟨sz,cs,d⟩:=Rh (show (EW st.rows id ver).isSome=true from hr)
   obtain ⟨r,J,F,E,K,H,D,c,m,z,G,t,g,p⟩:=hst.row id _ (Hv d)
   have e:Bq st (.vel id ver off)=cs:=by simp [Bq,d]
   refine ⟨M.blk id,0,by rw [hh r.symm];simp [ES],by rw [e];exact g,fun j hj=>?_⟩
   simp only [e] at hj ⊢
   refine ⟨c[j]'(by omega),?_,p j (by omega) hj⟩
   rw [Nat.zero_add,cell_of_row w _ j c m _ z]
   exact Array.getElem?_eq_getElem (by omega)
 | _=>cases hr
theorem Yields'.value {s:Sem Value} {st':St} {r:AV} (h:∃ v w' M',s.run P w = .ok v w'∧Ext w0 M w M' w'∧RelSt w0 M' st' w'∧R w0 M' w' v r) :
  Yields' P w0 M st' r w (do pure (.value (← s))):=by
 obtain ⟨v,w',M',hs,c,a,b⟩:=h
 exact ⟨v,w',M',.inl (by simp [hs]),c,a,b⟩
theorem Yields'.here (hst:RelSt w0 M st w) {s:Sem Value} {v:Value} {r:AV} (hs:s.run P w = .ok v w) (hr:R w0 M w v r) :
  Yields' P w0 M st r w (do pure (.value (← s))) := .value ⟨v,w,M,hs,Ext.refl _ _ _,hst,hr⟩
theorem Zaz {t:TypeId} (h:M5 P t=true):P.underlying t=some .bool:=by
 unfold M5 at h
 split at h
 ·assumption
 ·cases h
theorem Zdu {op:BinOp} {a b:Bool} {t:TypeId} {X Y:Operand} (ht:M5 P t=true) (h:(evBB op a b).1):(do eqGuard op t X Y (.bool a) (.bool b);binOp op t (.bool a) (.bool b):Sem Value).run P w = .ok (.bool (evBB op a b).2) w:=by
 have c:=Zaz ht
 cases op<;>try exact h.elim
 ·simp [eqGuard,binOp,run_equal_bool w t a b c,evBB]
 ·simp [eqGuard,binOp,run_equal_bool w t a b c,evBB];cases a<;>cases b<;>rfl
theorem ZcQ (h:Rel w0 n M e st a w) (op:BinOp) (t:TypeId) (x y:Operand) (u:TypeId) (hob:(Be P e true st (.binOp op t x y u)).1) :
  Yields' P w0 M (Be P e true st (.binOp op t x y u)).2.2 (Be P e true st (.binOp op t x y u)).2.1 w (do pure (.value (← (do eqGuard op t x y (a.eval x) (a.eval y);binOp op t (a.eval x) (a.eval y))))):=by
 simp only [Be] at hob ⊢
 by_cases hc:(VY (Ar e x)&&VY (Ar e y))=true
 ·rw [Ae hc] at hob ⊢
  simp only [Bool.and_eq_true] at hc
  obtain ⟨c,d,l,b⟩:=hob
  obtain ⟨f,_⟩:=(Bh h c).bool hc.1
  obtain ⟨g,_⟩:=(Bh h d).bool hc.2
  rw [f,g]
  exact .here h.st (Zdu l b) (.flat rfl)
 ·rw [Af hc] at hob ⊢
  by_cases hg:(GM (Ar e x)&&GM (Ar e y))=true
  ·rw [Ae hg] at hob ⊢
   simp only [Bool.and_eq_true] at hg
   obtain ⟨c,d,b⟩:=hob
   obtain ⟨cs,f,j⟩:=(Bh h c).aggC hg.1
   obtain ⟨m,g,i⟩:=(Bh h d).aggC hg.2
   rw [f,g]
   exact .here h.st (ZbD b j i) (.flat rfl)
  rw [Af hg] at hob ⊢
  obtain ⟨c,d,px,k,b⟩:=hob
  obtain ⟨f,_,_⟩:=(Bh h c).plain px
  obtain ⟨g,_,_⟩:=(Bh h d).plain k
  rw [f,g]
  exact .here h.st (YS b) (.flat (ZH b))
theorem ZfQ (h:Rel w0 n M e st a w) (op:UnOp) (t:TypeId) (x:Operand) (hob:(Be P e true st (.unOp op t x)).1) :
  Yields' P w0 M st (.val (evUn op (ID (Ar e x))).2) w (do pure (.value (← Op.unary op (a.eval x)))):=by
 obtain ⟨d,px,b⟩:=hob
 obtain ⟨c,_,_⟩:=(Bh h d).plain px
 rw [c]
 exact .here h.st (ZP b) (.flat (Zbv b))
theorem Zkq {t:Bool} {u v:Value} {x y:AV} (hx:t=true→R w0 M w u x) (hy:t=false→R w0 M w v y):R w0 M w (if t then u else v) (AV.sel t x y):=by
 have a:AV.sel false x y=y:=by unfold AV.sel;split<;>rfl
 have b:AV.sel true x y=x:=by unfold AV.sel;split<;>rfl
 cases t
 ·rw [a];exact hy rfl
 ·rw [b];exact hx rfl
theorem Zf0 (h:Rel w0 n M e st a w) (b x y:Operand) (hob:(Be P e true st (.pick b x y)).1) :
  Yields' P w0 M st (AV.sel (J3 (Ar e b)) (Ar e x) (Ar e y)) w (do pure (.value (if ← asBool (a.eval b) then a.eval x else a.eval y))):=by
 obtain ⟨g,c,f,i⟩:=hob
 obtain ⟨d,_⟩:=(Bh h g).bool c
 refine LF h.st (v:=if J3 (Ar e b) then a.eval x else a.eval y) ?_ (Zkq (fun q=>Bh h (f rfl q)) (fun q=>Bh h (i rfl q)))
 rw [d]
 simp [asBool]
theorem Qw {t:TypeId} {sz:Nat} {ag:Bool} (ht:IW P t=some (sz,ag)) {b o:Nat} {f:Nat→Value} (hc:∀ j,j<sz→w.cell? ⟨b,o+j,none⟩=some (f j)) (h1:ag=true∨sz=1) :
  (loadVar t ⟨b,o,none⟩).run P w = .ok (if ag then .agg ((List.range sz).map f).toArray else f 0) w:=by
 unfold loadVar
 rw [Sem.run_bind,U5 ht]
 cases ag with
 | true =>
  simp only [Result.andThen_ok,if_true,Sem.run_bind,BW ht,run_loadCells w ⟨b,o,none⟩ sz f (fun j a=>by rw [E4];exact hc j a)]
  rfl
 | false =>
  have:sz=1:=by simpa using h1
  subst this
  have:=hc 0 (by omega)
  simp only [Nat.add_zero] at this
  simp [this]
theorem Q9 {cs:List AV} {f:Nat→Value} {o sz:Nat} {ag:Bool} (h1:∀ c∈cs,c.one=true) (ho:o+sz≤cs.length) (hs:ag=true∨sz=1)
  (hR:∀ j (hj:o+j<cs.length),R w0 M w (f j) cs[o+j]):R w0 M w (if ag then .agg ((List.range sz).map f).toArray else f 0) (PP ag cs o sz):=by
 unfold PP
 cases ag with
 | true =>
  simp only [if_true]
  refine .agg (by simp;omega) (fun x a=>h1 x (List.mem_of_mem_drop (List.mem_of_mem_take a))) (fun i a1 a2=>?_)
  simp only [List.getElem_take,List.getElem_drop,List.getElem_toArray,List.getElem_map,List.getElem_range]
  exact hR i (by simp at a1;omega)
 | false =>
  have:sz=1:=by simpa using hs
  subst this
  have:=hR 0 (by omega)
  simp only [Nat.add_zero] at this
  simpa [Yb,List.getD,List.getElem?_eq_getElem (show o<cs.length by omega)] using this
theorem ZfW (h:Rel w0 n M e st a w) (t:TypeId) (x:Operand) (hob:(Be P e true st (.load t x)).1) :
  Yields' P w0 M st (Be P e true st (.load t x)).2.1 w (do pure (.value (← Instr.loadAt t (a.eval x)))):=by
 unfold Be at hob ⊢
 cases ht:IW P t with
 | none=>simp [ht] at hob
 | some p =>
  obtain ⟨sz,C⟩:=p
  simp only [ht] at hob ⊢
  obtain ⟨r,D,k,m⟩:=hob
  obtain ⟨b,o,ev,d,q⟩:=Zu h.st (Bh h r) D
  rw [ev]
  have g:∀ j,j<sz→∃ u,w.cell? ⟨b,o+ES (Ar e x)+j,none⟩=some u∧∀ c,R w0 M w u ((Bq st (Ar e x))[ES (Ar e x)+j]'c):=by
   intro j c
   obtain ⟨u,z,y⟩:=q (ES (Ar e x)+j) (by omega)
   exact ⟨u,by rw [←z,Nat.add_assoc],fun _=>y⟩
  let f:Nat→Value:=fun j=>((w.cell? ⟨b,o+ES (Ar e x)+j,none⟩).getD undef)
  have s:∀ j,j<sz→w.cell? ⟨b,o+ES (Ar e x)+j,none⟩=some (f j):=fun j c=>by
   obtain ⟨u,i,_⟩:=g j c
   simp [f,i]
  refine .here h.st (v:=if C then .agg ((List.range sz).map f).toArray else f 0) ?_ (Q9 d k m (fun j c=>?_))
  ·simp only [Instr.loadAt,Instr.sureAddr,Sem.run_bind,Sem.run_pure,Result.andThen_ok]
   exact Qw ht s m
  ·by_cases hjs:j<sz
   ·obtain ⟨u,i,l⟩:=g j hjs
    have:f j=u:=by simp [f,i]
    rw [this]
    exact l c
   ·obtain ⟨u,i,l⟩:=q (ES (Ar e x)+j) c
    have:f j=u:=by simp [f,Nat.add_assoc,i]
    rw [this]
    exact l
theorem Ry (hst:RelSt w0 M st w) {v:Value} {x:AV} (h:R w0 M w v x) (hr:DK st x=true):∃ b o,v = .pointer (some ⟨b,o,none⟩)∧∀ k,R w0 M w (.pointer (some ⟨b,o+k,none⟩)) (RF x k):=by
 cases x with
 | box l off=>cases h with | box hl=>exact ⟨_,_,rfl,fun k => .box hl⟩
 | elem y k =>
  cases h with
  | @elem b off x u k hcell hu=>exact ⟨_,_,rfl,fun e=>by rw [Nat.add_assoc];exact .elem u (k+e) hcell hu⟩
 | vel id ver off =>
  cases h with
  | @vel _ _ _ a hi hv hh =>
   obtain ⟨sz,cs,c⟩:=Rh (show (EW st.rows id ver).isSome=true from hr)
   have f:=(hst.row id _ (Hv c)).1
   have d:=hh f.symm
   exact ⟨M.blk id,off,by rw [d],fun k => .vel hi hv fun _=>rfl⟩
 | _=>cases hr
theorem Yk (h:Rel w0 n M e st a w) (o:Oper) (x:Operand) (ho:o.op = .nilCheck x) (hob:(Be P e true st (.nilCheck x)).1) :
  Yields' P w0 M st (Ar e x) w (execOp a.eval o):=by
 obtain ⟨c,d⟩:=hob
 obtain ⟨b,f,ev,_⟩:=Ry h.st (Bh h c) d
 refine LF h.st (v:=a.eval x) ?_ (Bh h c)
 simp only [execOp,ho,ev]
 rfl
theorem YM (h:Rel w0 n M e st a w) (f:FuncId) (fi cap:Array Operand) (hob:(Be P e true st (.makeFunc (.func f) fi cap)).1) :
  Yields' P w0 M st (.clo f (cap.toList.map (Ar e))) w (do pure (.value (← Instr.makeFunc (.func f) (fi.map a.eval) (cap.map a.eval)))):=by
 obtain ⟨c,b⟩:=hob
 refine .here h.st (v := .func (.func f) (fi.map a.eval) (cap.map a.eval)) rfl ?_
 have:fi.map a.eval = #[]:=by simp [Array.size_eq_zero_iff.1 c]
 rw [this]
 refine .clo (by simp) (fun i g d=>?_)
 simp only [Array.getElem_map,List.getElem_map,Array.getElem_toList]
 exact Bh h (b _ (by simp))
theorem Xg (h:Rel w0 n M e st a w) (t:TypeId) (x:Operand) (f:Nat) (hob:(Be P e true st (.fieldAddr t x f)).1) :
  Yields' P w0 M (Be P e true st (.fieldAddr t x f)).2.2 (Be P e true st (.fieldAddr t x f)).2.1 w (do pure (.value (← Instr.fieldAt t (a.eval x) f))):=by
 unfold Be at hob ⊢
 cases hf:Fh P t f with
 | none=>simp [hf] at hob
 | some p =>
  obtain ⟨o,sz,u⟩:=p
  simp only [hf] at hob ⊢
  obtain ⟨d,l,s⟩:=hob
  obtain ⟨r,y,i,q,g,k⟩:=WZ hf
  obtain ⟨b,j,ev,m⟩:=Ry h.st (Bh h d) l
  refine .here h.st (v := .pointer (some ⟨b,j+o,none⟩)) ?_ (m o)
  rw [ev]
  have c:¬ sz=0:=by omega
  simp [Instr.fieldAt,run_underlying i,q,Instr.sureAddr,fieldPlace,g,E4,BW k,c]
theorem Wx {t:TypeId} {sz:Nat} {ag:Bool} (ht:IW P t=some (sz,ag)) {cs:Array Value} {o:Nat} (ho:o+sz≤cs.size) (h1:ag=true∨sz=1) :
  (part t cs o).run P w = .ok (if ag then .agg ((List.range sz).map fun j=>cs.getD (o+j) undef).toArray else cs.getD o undef) w:=by
 unfold part
 rw [Sem.run_bind,U5 ht]
 cases ag with
 | true =>
  simp only [Result.andThen_ok,if_true,Sem.run_bind,BW ht,Sem.run_pure]
  congr 2
  apply Array.ext
  ·simp;omega
  ·intro i h1 b
   simp at h1 b
   simp [show o+i<cs.size by omega]
 | false =>
  have:sz=1:=by simpa using h1
  subst this
  have a:o<cs.size:=by omega
  simp [a]
theorem R.agg_inv {v:Value} {x:AV} (h:R w0 M w v x) (ha:GM x=true):∃ cs,v = .agg cs∧cs.size=x.cells.length∧(∀ y∈x.cells,y.one=true)∧∀ j (hj:j<x.cells.length),R w0 M w (cs.getD j undef) x.cells[j]:=by
 cases x with
 | agg xs =>
  cases h with
  | agg hl h1 hR =>
   rename_i cs
   refine ⟨cs,rfl,hl,h1,fun j hj=>?_⟩
   have a:j<cs.size:=by rw [hl];exact hj
   have e:cs.getD j undef=cs[j]:=by simp [a]
   rw [e]
   exact hR j a hj
 | _=>cases ha
theorem Zdx (h:Rel w0 n M e st a w) (t:TypeId) (x:Operand) (f:Nat) (hob:(Be P e true st (.field t x f)).1) :
  Yields' P w0 M (Be P e true st (.field t x f)).2.2 (Be P e true st (.field t x f)).2.1 w (do pure (.value (← Instr.field t (a.eval x) f))):=by
 unfold Be at hob ⊢
 cases hf:Fh P t f with
 | none=>simp [hf] at hob
 | some p =>
  obtain ⟨o,sz,m⟩:=p
  simp only [hf] at hob ⊢
  obtain ⟨g,q,c,hs⟩:=hob
  obtain ⟨s,y,k,r,h3,l⟩:=WZ hf
  obtain ⟨cs,ev,u,b,i⟩:=(Bh h g).agg_inv q
  rw [ev]
  refine .here h.st (v:=if m then .agg ((List.range sz).map fun j=>cs.getD (o+j) undef).toArray else cs.getD o undef) ?_ (Q9 (f:=fun j=>cs.getD (o+j) undef) b c hs (fun j d=>i _ d))
  subst h3
  simp [Instr.field,run_underlying k,r,asAgg,Wx (w:=w) l (cs:=cs) (o:=y.offset) (by omega) hs]
theorem R.list_inv {v:Value} {x:AV} (h:R w0 M w v x) (hl:CE x=true) :
  (∃ a cap,v = .slice a (AY x).length cap∧(a=none→AY x=[]∧cap=0)∧(AY x).length≤cap∧cap≤maxLen):=by
 cases x with
 | list xs o =>
  cases h with
  | nil ho=>exact ⟨none,0,rfl,fun _=>⟨rfl,rfl⟩,Nat.zero_le _,by simp [maxLen]⟩
  | emp ho=>exact ⟨_,0,rfl,fun e=>(by cases e),Nat.zero_le _,by simp [maxLen]⟩
  | list sz us hc hm hcell hu ho=>exact ⟨_,_,rfl,fun e=>(by cases e),hc,hm⟩
 | _=>cases hl
theorem R.list_elem {v:Value} {xs:List AV} {o:Own} (h:R w0 M w v (.list xs o)) {i:Nat} (hi:i<xs.length) {sz:Nat} (hsz:xs[i].cells.length=sz) :
  ∃ b off cap,v = .slice (some ⟨b,off,none⟩) xs.length cap∧R w0 M w (.pointer (some ⟨b,off+i*sz,none⟩)) (.elem xs[i] 0):=by
 cases h with
 | nil ho=>exact absurd hi (by simp)
 | emp ho=>exact absurd hi (by simp)
 | @list b off cap _ _ sz' us hc hm hcell hu ho =>
  obtain ⟨c,a⟩:=hcell i hi
  have e:sz'=sz:=by rw [←c,(hu i hi).cells.1,hsz]
  subst e
  exact ⟨b,off,cap,rfl,.elem (us i) 0 (fun j d=>a j (by omega)) (hu i hi)⟩
theorem Ih {x:AV} (h:CE x=true):∃ xs o,x = .list xs o:=by
 cases x with
 | list xs o=>exact ⟨xs,o,rfl⟩
 | _=>cases h
theorem Zc5 {l:List AV} {i:Nat} (h:i<l.length):Yb l i=l[i]:=by simp [Yb,List.getD,List.getElem?_eq_getElem h]
theorem W2 (h:Rel w0 n M e st a w) (t:TypeId) (x i:Operand) (hob:(Be P e true st (.indexAddr t x i)).1) :
  Yields' P w0 M (Be P e true st (.indexAddr t x i)).2.2 (Be P e true st (.indexAddr t x i)).2.1 w (do pure (.value (← Instr.indexAt t (a.eval x) (a.eval i)))):=by
 unfold Be Up at hob ⊢
 cases he:Kq P t with
 | some p =>
  obtain ⟨Y,sz,J,V⟩:=p
  simp only [he] at hob ⊢
  split at hob
  ·rename_i id ver o n' hx0
   cases hvr:EW st.rows id ver with
   | none=>simp [hvr] at hob
   | some p =>
    obtain ⟨D,cs⟩:=p
    simp only [hvr] at hob ⊢
    obtain ⟨y,l,f,g,z,rfl⟩:=hob
    obtain ⟨s,u,_,_,c⟩:=Hh he
    obtain ⟨r,_⟩:=(Bh h l).int f
    have hR:=Bh h y
    rw [hx0] at hR
    generalize AO (Ar e i)=m at *
    obtain ⟨k,rfl⟩:=Int.eq_ofNat_of_zero_le g
    have j:k<n':=by omega
    generalize hev:a.eval x=v at hR
    cases hR with
    | @vec _ _ _ _ p F hid hv hh =>
     obtain ⟨K,Q,_⟩:=h.st.row id _ (Hv hvr)
     obtain ⟨rfl,G,H⟩:=hh K.symm
     refine .here h.st (v := .pointer (some ⟨M.blk id,o*M.rsz id+k*D,none⟩)) ?_ ?_
     ·rw [r]
      simp [Instr.indexAt,asIntOf,run_underlying u,BW c,E4]
      omega
     ·refine .vel hid hv fun _=>?_
      rw [Q,Int.toNat_natCast,Nat.add_mul]
  rename_i hx0
  obtain ⟨y,l,U,f,g,z,d⟩:=hob
  obtain ⟨s,u,_,_,c⟩:=Hh he
  obtain ⟨r,_⟩:=(Bh h l).int f
  have hR:=Bh h y
  obtain ⟨xs,o,C⟩:=Ih U
  rw [C] at hR z d ⊢
  simp only [AY] at z d ⊢
  generalize AO (Ar e i)=m at *
  obtain ⟨k,rfl⟩:=Int.eq_ofNat_of_zero_le g
  have j:k<xs.length:=by omega
  simp only [Int.toNat_natCast] at d ⊢
  rw [Zc5 j] at d ⊢
  obtain ⟨b,E,F,ev,hE⟩:=hR.list_elem j d
  refine .here h.st (v := .pointer (some ⟨b,E+k*sz,none⟩)) ?_ hE
  rw [ev,r]
  simp [Instr.indexAt,asIntOf,run_underlying u,BW c,E4]
  omega
 | none =>
  simp only [he] at hob ⊢
  cases ha:Gu P t with
  | none=>simp [ha] at hob
  | some p =>
   obtain ⟨m,sz,J⟩:=p
   simp only [ha] at hob ⊢
   obtain ⟨y,l,N,f,g,z⟩:=hob
   obtain ⟨Y,u,c⟩:=Ru ha
   obtain ⟨r,_⟩:=(Bh h l).int f
   obtain ⟨b,Z,ev,j⟩:=Ry h.st (Bh h y) N
   generalize AO (Ar e i)=q at *
   obtain ⟨k,rfl⟩:=Int.eq_ofNat_of_zero_le g
   have O:k<m:=by omega
   refine .here h.st (v := .pointer (some ⟨b,Z+k*sz,none⟩)) ?_ (by simpa using j (k*sz))
   rw [ev,r]
   simp [Instr.indexAt,asIntOf,run_underlying u,BW c,Instr.sureAddr,E4]
   omega
theorem getElem?_get! (s:ByteArray) (k:Nat) (hk:k<s.size):s[k]? = some (s.get! k):=by
 rw [getElem?_pos s k hk]
 congr 1
 simp only [ByteArray.get!]
 have:k<s.data.size:=hk
 rw [getElem!_pos s.data k this]
 rfl
theorem ZdZ (h:Rel w0 n M e st a w) (t:TypeId) (x i:Operand) (hob:(Be P e true st (.index t x i)).1) :
  Yields' P w0 M (Be P e true st (.index t x i)).2.2 (Be P e true st (.index t x i)).2.1 w (do pure (.value (← Instr.index t (a.eval x) (a.eval i)))):=by
 unfold Be Up at hob ⊢
 simp only at hob ⊢
 split at hob
 ·rename_i s hx0
  obtain ⟨hs,E,C,d,y,G⟩:=hob
  obtain ⟨D,_⟩:=(Bh h C).int d
  have l:=Bh h E
  rw [hx0] at l
  obtain ⟨ev,_⟩:=l.val_inv
  generalize AO (Ar e i)=q at *
  obtain ⟨k,rfl⟩:=Int.eq_ofNat_of_zero_le y
  have z:k<s.size:=by omega
  refine .here h.st (v := .int .u8 (s.get! k).toNat) ?_ (.flat rfl)
  rw [ev,D]
  have H:s[k]? = some (s.get! k):=getElem?_get! s k z
  simp [Instr.index,asIntOf,run_underlying (FM hs),H]
 ·rename_i cs hx0
  cases ha:Gu P t with
  | none=>simp [ha] at hob
  | some p =>
   obtain ⟨m,sz,F⟩:=p
   simp only [ha] at hob ⊢
   obtain ⟨E,C,d,y,G,J,hs⟩:=hob
   obtain ⟨O,K,r⟩:=Ru ha
   obtain ⟨D,_⟩:=(Bh h C).int d
   have l:=Bh h E
   rw [hx0] at l
   obtain ⟨c,ev,u,b,o⟩:=l.agg_inv rfl
   simp only [AV.cells] at u b o
   generalize AO (Ar e i)=q at *
   obtain ⟨k,rfl⟩:=Int.eq_ofNat_of_zero_le y
   have z:k<m:=by omega
   have g:k*sz+sz≤cs.length:=by rw [J,←Nat.succ_mul];exact Nat.mul_le_mul_right _ z
   refine .here h.st (v:=if F then .agg ((List.range sz).map fun j=>c.getD (k*sz+j) undef).toArray else c.getD (k*sz) undef) ?_ ?_
   ·rw [ev,D]
    simp only [Instr.index,asIntOf,Sem.run_bind,Sem.run_pure,Result.andThen_ok,run_underlying K]
    rw [Ae ⟨by omega,by omega⟩]
    simp only [Sem.run_bind,BW r,Result.andThen_ok,Int.toNat_natCast]
    exact Wx r (by rw [u];exact g) hs
   ·simp only [Int.toNat_natCast]
    exact Q9 (f:=fun j=>c.getD (k*sz+j) undef) b g hs (fun j N=>o _ N)
 ·exact hob.elim
theorem ZY (h:Rel w0 n M e st a w) (x:Operand) (i:Nat) (hob:(Be P e true st (.extract x i)).1) :
  Yields' P w0 M (Be P e true st (.extract x i)).2.2 (Be P e true st (.extract x i)).2.1 w (do pure (.value (← Instr.extract (a.eval x) i))):=by
 unfold Be Up at hob ⊢
 simp only at hob ⊢
 split at hob
 ·rename_i vs hx0
  obtain ⟨c,b⟩:=hob
  have hR:=Bh h c
  rw [hx0] at hR
  generalize a.eval x=v at hR ⊢
  cases hR with
  | tup hl hR =>
   rename_i cs
   rw [Zc5 b]
   refine .here h.st (v:=cs[i]'(by omega)) ?_ (hR i (by omega) b)
   simp [Instr.extract,show i<cs.size by omega]
 ·exact hob.elim
theorem ZhZ (h:Rel w0 n M e st a w) (x:Operand) (t ty:TypeId) (hx:AP e true x) (hob:(Tf P t (Ar e x)).1) :
  Yields' P w0 M st (Tf P t (Ar e x)).2 w (do pure (.value (← Builtin.len_ #[t] ty #[a.eval x]))):=by
 have hR:=Bh h hx
 unfold Tf at hob ⊢
 split at hob
 ·rename_i s hx0
  rw [hx0] at hR
  obtain ⟨ev,_⟩:=hR.val_inv
  refine .here h.st (v := .int .i64 s.size) ?_ (.flat rfl)
  rw [ev]
  simp [Builtin.len_,run_underlying (FM hob),goInt]
 ·rename_i xs o hx0
  rw [hx0] at hR
  obtain ⟨b,c,ev,_⟩:=hR.list_inv rfl
  simp only [AY] at ev
  obtain ⟨p,d⟩:=Option.isSome_iff_exists.1 hob
  obtain ⟨k,sz,j,g⟩:=p
  obtain ⟨i,f,_⟩:=Hh d
  refine .here h.st (v := .int .i64 xs.length) ?_ (.flat rfl)
  rw [ev]
  simp [Builtin.len_,run_underlying f,goInt]
 ·rename_i id ver o n' hx0
  rw [hx0] at hR
  obtain ⟨p,d⟩:=Option.isSome_iff_exists.1 hob
  obtain ⟨k,sz,j,g⟩:=p
  obtain ⟨i,f,_⟩:=Hh d
  generalize hev:a.eval x=v at hR
  cases hR with
  | @vec _ _ _ _ p c hid hv hh =>
   refine .here h.st (v := .int .i64 n') ?_ (.flat rfl)
   simp [Builtin.len_,run_underlying f,goInt]
 ·exact hob.elim
theorem EI {v:Value} {k:IntKind} {q:Nat} {y:Nat} {code:BoundsCode} (hv:v = .int k q) (h:q≤y) (w:World):(Instr.sliceBound v y code).run P w = .ok q w:=by
 subst hv
 simp [Instr.sliceBound,asIntOf]
 omega
theorem P5 (h:Rel w0 n M e st a w) (isl:Bool) (len cap:Nat) (hlc:len≤cap) {lo hi:Option Operand} (hlo:N1 e true lo) (hhi:N1 e true hi)
  {l u:Nat} (el:DJ e 0 lo=l) (eu:DJ e len hi=u) (h1:l≤u) (h2:u≤len) :
  (Instr.sliceBounds isl len cap (lo.map a.eval) (hi.map a.eval) none).run P w = .ok (l,u,cap) w:=by
 have H:∀ (y:Operand),(AP e true y∧EK (Ar e y)=true)→∃ k,a.eval y = .int k (AO (Ar e y)):=fun y d=>⟨_,((Bh h d.1).int d.2).1⟩
 cases hi with
 | none =>
  simp only [DJ] at eu
  have eu':u=len:=by omega
  subst eu'
  cases lo with
  | none =>
   simp only [DJ] at el
   have el':l=0:=by omega
   subst el'
   simp [Instr.sliceBounds]
  | some y =>
   obtain ⟨k,b⟩:=H y hlo
   simp only [DJ] at el
   rw [el] at b
   simp [Instr.sliceBounds,EI b h1]
 | some z =>
  obtain ⟨g,c⟩:=H z hhi
  simp only [DJ] at eu
  rw [eu] at c
  have f:u≤cap:=by omega
  cases lo with
  | none =>
   simp only [DJ] at el
   have el':l=0:=by omega
   subst el'
   simp [Instr.sliceBounds,EI c f]
  | some y =>
   obtain ⟨k,b⟩:=H y hlo
   simp only [DJ] at el
   rw [el] at b
   simp [Instr.sliceBounds,EI c f,EI b h1]
theorem R.empty (b off cap:Nat) (hm:cap≤maxLen):R w0 M w (.slice (some ⟨b,off,none⟩) 0 cap) (.list [] .none) :=
 R.list (xs:=[]) 0 (fun _=>undef) (Nat.zero_le _) hm (fun i a=>absurd a (by simp)) (fun i a=>absurd a (by simp)) trivial
theorem R.sub {b off cap : Nat} {xs : List AV} {o : Own} (h : R w0 M w (.slice (some ⟨b, off, none⟩) xs.length cap) (.list xs o)) {l u sz : Nat} (hl : l ≤ u) (hu : u ≤ xs.length) (hsz : l = 0 ∨ ∀ y ∈ xs, y.cells.length = sz) (hne : cap ≠ l) :
    R w0 M w (.slice (some ⟨b, off + l * sz, none⟩) (u - l) (cap - l)) (.list ((xs.take u).drop l) .none) := by
  generalize hv : Value.slice (some ⟨b, off, none⟩) xs.length cap = v at h
  cases h with
  | nil ho => cases hv
  | emp ho => cases hv; simp at hu; subst hu; have : l = 0 := by omega
              subst this; exact absurd rfl hne
  | @list b' off' cap' _ _ sz' us hc hm hcell hus ho =>
    cases hv
    have hlen : ((xs.take u).drop l).length = u - l := by simp; omega
    rw [← hlen]
    have eo : ∀ i, i < u - l → off + l * sz + i * sz' = off + (l + i) * sz' := by
      intro i hi
      rcases hsz with rfl | hsz
      · simp
      · have e : sz' = sz := by
          have h1 : (us i).cells.size = sz' := (hcell i (by omega)).1
          rw [← h1, (hus i (by omega)).cells.1, hsz _ (List.getElem_mem _)]
        rw [e, Nat.add_mul]; omega
    refine .list sz' (fun i => us (l + i)) (by rw [hlen]; omega) (by omega) (fun i hi => ?_) (fun i hi => ?_) trivial
    · rw [hlen] at hi
      obtain ⟨h1, h2⟩ := hcell (l + i) (by omega)
      refine ⟨h1, fun j hj => ?_⟩
      rw [eo i hi]
      exact h2 j hj
    · rw [hlen] at hi
      simp only [List.getElem_drop, List.getElem_take]
      exact hus (l + i) (by omega)
theorem ZcM (h:Rel w0 n M e st a w) (t:TypeId) (x:Operand) (lo hi mx:Option Operand) (hob:(Be P e true st (.slice t x lo hi mx)).1) :
  Yields' P w0 M (Be P e true st (.slice t x lo hi mx)).2.2 (Be P e true st (.slice t x lo hi mx)).2.1 w (do pure (.value (← Instr.sliceAt t (a.eval x) (lo.map a.eval) (hi.map a.eval) (mx.map a.eval)))):=by
 unfold Be at hob ⊢
 simp only at hob ⊢
 split at hob
 ·rename_i id ver o n' hx0
  cases hp:Kq P t with
  | none=>simp [hp] at hob
  | some p =>
  obtain ⟨el,sz,ag,ae⟩:=p
  cases hvr:EW st.rows id ver with
  | none=>simp [hp,hvr] at hob
  | some q =>
  obtain ⟨K,cs⟩:=q
  simp only [hp,hvr] at hob ⊢
  obtain ⟨N,l,j,hm,C,E,J,V,rfl⟩:=hob
  have hR:=Bh h N
  rw [hx0] at hR
  obtain ⟨i,U,_,_,D⟩:=Hh hp
  cases mx with
  | some _=>cases hm
  | none =>
   obtain ⟨d,g⟩:=Int.eq_ofNat_of_zero_le C
   obtain ⟨u,f⟩:=Int.eq_ofNat_of_zero_le (Int.le_trans C E)
   rw [g,f] at E
   rw [f] at J
   rw [g] at V
   rw [g,f]
   simp only [Int.toNat_natCast]
   generalize hev:a.eval x=v at hR
   cases hR with
   | @vec _ _ _ _ p c hid hv hh =>
    obtain ⟨f1,f2,_⟩:=h.st.row id _ (Hv hvr)
    obtain ⟨rfl,af,Z⟩:=hh f1.symm
    have G:=P5 (P:=P) h true n' c Z l j g f (by omega) (by omega)
    refine .here h.st (v := .slice (if c=d then some ⟨M.blk id,o*M.rsz id,none⟩ else (some (⟨M.blk id,o*M.rsz id,none⟩:Addr)).map (·.add (d*K))) (u-d) (c-d)) ?_ ?_
    ·simp only [Instr.sliceAt,Instr.slice,Sem.run_bind,run_underlying U,Result.andThen_ok,Option.map_none,G,BW D,Sem.run_pure]
    ·refine .vec hid hv fun _=>⟨?_,by omega,by omega⟩
     by_cases hcl:c=d
     ·have:d=0:=by omega
      rw [Ae hcl,this];simp
     ·rw [Af hcl]
      simp only [Option.map_some,E4]
      rw [f2,Nat.add_mul]
 ·rename_i s hx0
  obtain ⟨hs,N,l,j,hm,C,E,J⟩:=hob
  have hR:=Bh h N
  rw [hx0] at hR
  obtain ⟨ev,hf⟩:=hR.val_inv
  cases mx with
  | some _=>cases hm
  | none =>
   have G:=P5 (P:=P) h false s.size s.size (Nat.le_refl _) l j (Int.toNat_of_nonneg C).symm (Int.toNat_of_nonneg (Int.le_trans C E)).symm (by omega) (by omega)
   refine .here h.st (v := .string (s.extract (DJ e 0 lo).toNat (DJ e s.size hi).toNat)) ?_ (.flat ?_)
   ·rw [ev]
    simp only [Instr.sliceAt,Instr.slice,Sem.run_bind,run_underlying (FM hs),Result.andThen_ok,Option.map_none,Option.isSome_none,Bool.false_eq_true,if_false,G,Sem.run_pure]
   ·simp only [IB,decide_eq_true_eq] at hf ⊢
    simp only [ByteArray.size_extract]
    omega
 ·rename_i xs o hx0
  cases hp:Kq P t with
  | none=>simp [hp] at hob
  | some p =>
   obtain ⟨el,sz,ag,ae⟩:=p
   simp only [hp] at hob ⊢
   cases mx with
   | some m =>
    simp only at hob ⊢
    obtain ⟨N,l,j,hm,C,E,J⟩:=hob
    have hR:=Bh h N
    rw [hx0] at hR
    obtain ⟨i,U,_,_,D⟩:=Hh hp
    have H:∀ (y:Operand),(AP e true y∧EK (Ar e y)=true)→∃ k,a.eval y = .int k (AO (Ar e y)):=fun y hy=>⟨_,((Bh h hy.1).int hy.2).1⟩
    cases hi with
    | none=>simp [DJ] at E
    | some z =>
     obtain ⟨k2,kz⟩:=H z j
     obtain ⟨k3,km⟩:=H m hm
     simp only [DJ] at E J
     rw [E] at kz
     rw [J] at km
     have G:∀ (ln c:Nat),ln≤c→(Instr.sliceBounds true ln c (lo.map a.eval) ((some z).map a.eval) ((some m).map a.eval)).run P w = .ok (0,0,0) w:=by
      intro ln c Q
      have e1:=EI (P:=P) (k:=k3) (q:=0) (y:=c) (code := .slice3Acap) km (Nat.zero_le _) w
      have e2:=EI (P:=P) (k:=k2) (q:=0) (y:=0) (code := .slice3B) kz (Nat.zero_le _) w
      cases lo with
      | none=>simp [Instr.sliceBounds,e1,e2]
      | some y =>
       obtain ⟨k,ky⟩:=H y l
       simp only [DJ] at C
       rw [C] at ky
       have e3:=EI (P:=P) (k:=k) (q:=0) (y:=0) (code := .slice3C) ky (Nat.zero_le _) w
       simp [Instr.sliceBounds,e1,e2,e3]
     obtain ⟨v,hv⟩:∃ v,a.eval x=v:=⟨_,rfl⟩
     rw [hv] at hR
     have fin:∀ (r:Option Addr) (ln c:Nat),ln≤c→v = .slice r ln c→R w0 M w (.slice r 0 0) (.list [] .full) →
       Yields' P w0 M st (.list [] .full) w (do pure (.value (← Instr.sliceAt t (a.eval x) (lo.map a.eval) (Option.map a.eval (some z)) (Option.map a.eval (some m))))):=by
      intro r ln c Q e1 hr
      refine .here h.st ?_ hr
      rw [hv,e1]
      simp only [Instr.sliceAt,Instr.slice,Sem.run_bind,run_underlying U,Result.andThen_ok,G ln c Q,BW D,Sem.run_pure]
      simp
     cases hR with
     | nil ho=>exact fin none 0 0 (Nat.le_refl _) rfl (by simpa using R.nil (fun id=>by simp))
     | @emp r _ ho=>exact fin (some r) 0 0 (Nat.le_refl _) rfl (.emp (fun id=>by simp))
     | @list b off c _ _ K us hc hm' hcell hu' ho =>
      exact fin _ _ c hc rfl (R.list (xs:=[]) 0 (fun _=>undef) (Nat.zero_le _) (Nat.zero_le _) (fun i hi=>absurd hi (by simp)) (fun i hi=>absurd hi (by simp)) rfl)
   | none =>
   obtain ⟨N,l,j,C,E,J,V⟩:=hob
   have hR:=Bh h N
   rw [hx0] at hR
   obtain ⟨i,U,_,_,D⟩:=Hh hp
   ·obtain ⟨d,g⟩:=Int.eq_ofNat_of_zero_le C
    obtain ⟨u,f⟩:=Int.eq_ofNat_of_zero_le (Int.le_trans C E)
    rw [g,f] at E
    rw [f] at J
    rw [g] at V
    rw [g,f]
    have O:d≤u:=by omega
    have F:u≤xs.length:=by omega
    simp only [Int.toNat_natCast]
    have aa:d=0∨∀ y∈xs,y.cells.length=sz:=V.imp (fun q=>by omega) id
    have go:∀ (r:Option Addr) (c:Nat),xs.length≤c→a.eval x = .slice r xs.length c →
      R w0 M w (.slice (if c=d then r else r.map (·.add (d*sz))) (u-d) (c-d)) (.list ((xs.take u).drop d) .none) →
      Yields' P w0 M st (.list ((xs.take u).drop d) .none) w (do pure (.value (← Instr.sliceAt t (a.eval x) (lo.map a.eval) (hi.map a.eval) (Option.map a.eval none)))):=by
     intro r c Y ev hr
     have G:=P5 (P:=P) h true xs.length c Y l j g f O F
     refine .here h.st ?_ hr
     rw [ev]
     simp only [Instr.sliceAt,Instr.slice,Sem.run_bind,run_underlying U,Result.andThen_ok,Option.map_none,G,BW D,Sem.run_pure]
    generalize hv:a.eval x=v at hR go
    have ab:=hR
    cases hR with
    | nil ho =>
     have e1:u=0:=by simpa using F
     have e2:d=0:=by omega
     subst e1;subst e2
     refine go none 0 (Nat.le_refl _) rfl ?_
     simpa using (R.nil (w0:=w0) (M:=M) (w:=w) (o := .none) (fun id=>by simp))
    | @emp r _ ho =>
     have e1:u=0:=by simpa using F
     have e2:d=0:=by omega
     subst e1;subst e2
     refine go (some r) 0 (Nat.le_refl _) rfl ?_
     simpa using (R.emp (w0:=w0) (M:=M) (w:=w) (a:=r) (o := .none) (fun id=>by simp))
    | @list b off c _ _ K us hc hm' hcell hu' ho =>
     refine go (some ⟨b,off,none⟩) c hc rfl ?_
     by_cases hcl:c=d
     ·have e1:u=d:=by omega
      have:(xs.take u).drop d=[]:=by rw [e1];simp
      rw [this,Ae hcl,e1,Nat.sub_self]
      exact R.empty _ _ _ (by omega)
     ·rw [Af hcl]
      simp only [Option.map_some,E4]
      exact ab.sub O F aa hcl
 ·exact hob.elim
theorem ZhX (h:Rel w0 n M e st a w) (x y:Operand) (ts:Array TypeId) (t:TypeId) (hx:AP e true x) (hy:AP e true y) (ix:EK (Ar e x)=true) (iy:EK (Ar e y)=true) :
  Yields' P w0 M st (.val (.int (J9 (Ar e x)) (if AO (Ar e y)<AO (Ar e x) then AO (Ar e y) else AO (Ar e x)))) w (do pure (.value (← Builtin.min_ ts t #[a.eval x,a.eval y]))):=by
 rw [((Bh h hx).int ix).1,((Bh h hy).int iy).1]
 exact .here h.st (by simp [Builtin.min_,Builtin.min2]) (.flat rfl)
theorem ZhJ (h:Rel w0 n M e st a w) (x y:Operand) (ts:Array TypeId) (t:TypeId) (hx:AP e true x) (hy:AP e true y) (ix:EK (Ar e x)=true) (iy:EK (Ar e y)=true) :
  Yields' P w0 M st (.val (.int (J9 (Ar e x)) (if AO (Ar e x)<AO (Ar e y) then AO (Ar e y) else AO (Ar e x)))) w (do pure (.value (← Builtin.max_ ts t #[a.eval x,a.eval y]))):=by
 rw [((Bh h hx).int ix).1,((Bh h hy).int iy).1]
 exact .here h.st (by simp [Builtin.max_,Builtin.max2]) (.flat rfl)
end
section
variable {P:Program} {w0:World} {n:Nat} {M:Mem} {e:Env} {st:St} {a:Act} {w:World}
theorem RelSt.box_lt (h:RelSt w0 M st w) {l:Nat} (hl:l<M.N):M.bx l<w.heap.size:=by
 have a:l<st.boxes.length:=by rw [←h.N];exact hl
 obtain ⟨_,_,c,d,b,_⟩:=h.box l _ (List.getElem?_eq_getElem a)
 exact (Array.getElem?_eq_some_iff.1 b).1
theorem RelSt.row_lt (h:RelSt w0 M st w) {i:Nat} (hi:i<M.NR):M.blk i<w.heap.size:=by
 have a:i<st.rows.length:=by rw [←h.NR];exact hi
 exact (h.row i _ (List.getElem?_eq_getElem a)).lt
theorem RelSt.base_le (h:RelSt w0 M st w):w0.heap.size≤w.heap.size:=h.below.size
theorem RelSt.drew (h:RelSt w0 M st w):RelSt w0 M st w.drew∧Ext w0 M w M w.drew :=
 have b:Ext w0 M w M w.drew:=⟨Nat.le_refl _,fun _ _=>rfl,Nat.le_refl _,fun _ _=>⟨Nat.le_refl _,fun _=>⟨rfl,rfl,rfl⟩⟩,fun _ _ _ k d=>⟨d,k⟩,Nat.le_refl _,Nat.le_refl _,fun _ _=>rfl,fun _ _ _=>by omega,fun _ _ h _ _=>h⟩
 ⟨⟨h.below.drew,h.N,h.NR,h.top,h.inj,fun l cs f=>by
   obtain ⟨a1,a2,c,g,a3,a4,a5,a6⟩:=h.box l cs f
   exact ⟨a1,a2,c,g,a3,a4,a5,fun i e j=>(a6 i e j).mono b⟩,fun id x a=>(h.row id x a).keep b rfl rfl rfl rfl rfl (h.row id x a).ne rfl,h.rowinj,h.loop.mono b rfl fun _ _ h _=>h⟩,b⟩
def Mem.newTop (M:Mem) (b k:Nat):Mem:={ M with top:=fun x=>if x=b then k else M.top x }
theorem Pz (M':Mem) (o:Obj) (hN:M'.N=M.N∨M'.N=M.N+1) (hb:∀ l,l<M.N→M'.bx l=M.bx l) (hNR:M.NR≤M'.NR)
  (hr:∀ id,id<M.NR→M.fr id≤M'.fr id∧(M'.fr id=M.fr id→M'.blk id=M.blk id∧M'.cap id=M.cap id∧M'.rsz id=M.rsz id)) (ht:∀ b,b<w.heap.size→M.top b≤M'.top b) (hNL:M'.NL=M.NL:=by rfl) (hlb:M'.lb=M.lb:=by rfl) :
  Ext w0 M w M' (w.alloc o) :=
 ⟨by omega,hb,hNR,hr,fun b f v hi c=>by
  have a:=World.block_lt_of_cell? w _ c
  refine ⟨by rw [World.cell?_alloc_lt _ _ _ a];exact c,?_⟩
  rcases hi with hi | hi
  ·exact .inl hi
  ·exact .inr (Nat.lt_of_lt_of_le hi (ht b a)),by simp,by omega,fun _ _=>by rw [hlb],fun _ _ _=>by omega,fun b d e g _=>KeepsObj.alloc w o b d e g⟩
theorem BL (w:World) (o:Obj) {k:Nat} (h:k<w.heap.size):(w.alloc o).heap[k]? = w.heap[k]? := Below.heap_alloc w o k h
theorem RelSt.newTop (h:RelSt w0 M st w) (cs:Array Value) (ty:TypeId) (k:Nat) :
  RelSt w0 (M.newTop w.heap.size k) st (w.alloc (.cells cs ty))∧Ext w0 M w (M.newTop w.heap.size k) (w.alloc (.cells cs ty)):=by
 have j:∀ b,b<w.heap.size→(M.newTop w.heap.size k).top b=M.top b:=fun b f=>by simp [Mem.newTop];omega
 have e:Ext w0 M w (M.newTop w.heap.size k) (w.alloc (.cells cs ty)) :=
  Pz _ _ (.inl rfl) (fun _ _=>rfl) (Nat.le_refl _) (fun _ _=>⟨Nat.le_refl _,fun _=>⟨rfl,rfl,rfl⟩⟩) (fun b f=>by rw [j b f];exact Nat.le_refl _)
 refine ⟨⟨h.below.alloc h.base_le _,h.N,h.NR,fun b f=>?_,h.inj,fun l c o=>?_,fun id x a=>(h.row id x a).keep e rfl rfl rfl rfl (j _ (h.row id x a).lt) (h.row id x a).ne (BL _ _ (h.row id x a).lt),h.rowinj,h.loop.mono e rfl (KeepsObj.alloc _ _)⟩,e⟩
 ·simp at f
  have:(M.newTop w.heap.size k).top b=M.top b:=by simp [Mem.newTop];omega
  rw [this]
  exact h.top b (by omega)
 ·obtain ⟨a1,a2,m,g,a3,a4,a5,a6⟩:=h.box l c o
  have d:=(Array.getElem?_eq_some_iff.1 a3).1
  exact ⟨a1,by rw [show (M.newTop w.heap.size k).bx l=M.bx l from rfl,j _ d];exact a2,m,g,by rw [show (M.newTop w.heap.size k).bx l=M.bx l from rfl,BL _ _ d];exact a3,a4,a5,fun i n p=>(a6 i n p).mono e⟩
theorem RelSt.later (h:RelSt w0 M st w) {w':World} (hb:Below w.heap.size w w') (b k:Nat) (hw:w.heap.size≤b) (hk:b<w'.heap.size∨k=0) :
  RelSt w0 (M.newTop b k) st w'∧Ext w0 M w (M.newTop b k) w':=by
 have s:∀ x,x<w.heap.size→(M.newTop b k).top x=M.top x:=fun x g=>by simp [Mem.newTop];omega
 have p:∀ x,x<w.heap.size→w'.heap[x]? = w.heap[x]? := hb.block
 have j:KeepsObj w w':=fun x o f _=>(p x (Array.getElem?_eq_some_iff.1 f).1).trans f
 have g:Ext w0 M w (M.newTop b k) w' :=
  ⟨Nat.le_refl _,fun _ _=>rfl,Nat.le_refl _,fun _ _=>⟨Nat.le_refl _,fun _=>⟨rfl,rfl,rfl⟩⟩,fun x z v C n=>by
   have a:=World.block_lt_of_cell? w _ n
   refine ⟨?_,C.imp id fun q=>by rw [s x a];exact q⟩
   unfold World.cell? at n ⊢
   simp only [p x a] at n ⊢
   exact n,hb.size,Nat.le_refl _,fun _ _=>rfl,fun _ f m=>absurd m (Nat.not_lt.2 f),fun x o f m _=>j x o f m⟩
 refine ⟨⟨h.below.trans (hb.mono h.base_le),h.N,h.NR,fun x y=>?_,h.inj,fun l c u=>?_,fun id x d=>(h.row id x d).keep g rfl rfl rfl rfl (s _ (h.row id x d).lt) (h.row id x d).ne (p _ (h.row id x d).lt),h.rowinj,h.loop.mono g rfl j⟩,g⟩
 ·have:=hb.size
  by_cases c:x=b
  ·have e:(M.newTop b k).top x=k:=by simp [Mem.newTop,c]
   rw [e]
   rcases hk with hk | hk
   ·omega
   ·exact hk
  ·have e:(M.newTop b k).top x=M.top x:=by simp [Mem.newTop,c]
   rw [e]
   exact h.top x (by omega)
 ·obtain ⟨a1,a2,t,r,a3,a4,a5,a6⟩:=h.box l c u
  have a:=(Array.getElem?_eq_some_iff.1 a3).1
  exact ⟨a1,by rw [show (M.newTop b k).bx l=M.bx l from rfl,s _ a];exact a2,t,r,by rw [show (M.newTop b k).bx l=M.bx l from rfl,p _ a];exact a3,a4,a5,fun i f m=>(a6 i f m).mono g⟩
def Mem.newBox (M:Mem) (b:Nat):Mem:={ M with N:=M.N+1,bx:=fun l=>if l=M.N then b else M.bx l }
theorem RelSt.newBox (h:RelSt w0 M st w) (v:Value) (x:AV) (ty:TypeId) (hR:R w0 M w v x) (hn:A5 x=true) :
  RelSt w0 (M.newBox w.heap.size) { st with boxes:=st.boxes++[x.cells] } (w.alloc (.cells v.cells ty))∧Ext w0 M w (M.newBox w.heap.size) (w.alloc (.cells v.cells ty)) ∧
   R w0 (M.newBox w.heap.size) (w.alloc (.cells v.cells ty)) (.pointer (some ⟨w.heap.size,0,none⟩)) (.box st.boxes.length 0):=by
 have d:∀ l,l<M.N→(M.newBox w.heap.size).bx l=M.bx l:=fun l hl=>by simp [Mem.newBox];omega
 have a:(M.newBox w.heap.size).bx M.N=w.heap.size:=by simp [Mem.newBox]
 have m:Ext w0 M w (M.newBox w.heap.size) (w.alloc (.cells v.cells ty)) :=
  Pz _ _ (.inr rfl) d (Nat.le_refl _) (fun _ _=>⟨Nat.le_refl _,fun _=>⟨rfl,rfl,rfl⟩⟩) (fun b q=>Nat.le_refl _)
 have n:=hR.mono m
 refine ⟨⟨h.below.alloc h.base_le _,by simp [Mem.newBox,h.N],h.NR,fun b q=>h.top b (by simp at q;omega),fun l k hl f e=>?_,fun l c hl=>?_,fun id x j=>?_,h.rowinj,h.loop.mono m rfl (KeepsObj.alloc _ _)⟩,m,?_⟩
 ·have p:(M.newBox w.heap.size).N=M.N+1:=rfl
  rw [p] at hl f
  by_cases e1:l=M.N
  ·by_cases e2:k=M.N
   ·omega
   ·subst e1
    rw [a,d k (by omega)] at e
    have:=h.box_lt (l:=k) (by omega)
    omega
  ·by_cases e2:k=M.N
   ·subst e2
    rw [a,d l (by omega)] at e
    have:=h.box_lt (l:=l) (by omega)
    omega
   ·rw [d l (by omega),d k (by omega)] at e
    exact h.inj l k (by omega) (by omega) e
 ·by_cases e1:l=M.N
  ·subst e1
   simp only [h.N,List.getElem?_concat_length,Option.some.injEq] at hl
   subst hl
   rw [a]
   obtain ⟨hs,hc⟩:=n.cells
   refine ⟨h.base_le,h.top _ (Nat.le_refl _),v.cells,ty,heap_alloc_new w _,hs,hR.cellsOne (fun vs e=>by subst e;cases hn),hc⟩
  ·have f:l<M.N:=by
    have:l<(st.boxes++[x.cells]).length:=(Ag.1 hl).1
    have p:=h.N
    simp at this
    omega
   rw [List.getElem?_append_left (by rw [←h.N];exact f)] at hl
   obtain ⟨a1,a2,r,o,a3,a4,a5,a6⟩:=h.box l c hl
   have g:=(Array.getElem?_eq_some_iff.1 a3).1
   rw [d l f]
   exact ⟨a1,a2,r,o,by rw [BL _ _ g];exact a3,a4,a5,fun i s t=>(a6 i s t).mono m⟩
 ·have g:=(h.row id x j).lt
  refine (h.row id x j).keep m rfl rfl rfl rfl rfl (fun l hl=>?_) (BL _ _ g)
  by_cases e1:l=M.N
  ·subst e1
   rw [a]
   show w.heap.size≠M.blk id
   omega
  ·have p:(M.newBox w.heap.size).N=M.N+1:=rfl
   rw [d l (by omega)]
   exact (h.row id x j).ne l (by omega)
 ·have:=R.box (w0:=w0) (M:=M.newBox w.heap.size) (w:=w.alloc (.cells v.cells ty)) (l:=st.boxes.length) (off:=0) (by rw [←h.N];exact Nat.lt_succ_self _)
  rwa [←h.N,a,h.N] at this
theorem Ge {t:TypeId} {z:List AV} (h:C5 P t=some z):∃ i v,P.info? t=some i∧i.zero=some v∧Pv v=true∧v.cells.size=i.size∧z=(IX v).cells:=by
 unfold C5 at h
 split at h
 ·rename_i i hi
  split at h
  ·rename_i v hv
   split at h
   ·rename_i hc
    simp only [Bool.and_eq_true,beq_iff_eq] at hc
    exact ⟨i,v,hi,hv,hc.1,hc.2,(Option.some.inj h).symm⟩
   ·cases h
  ·cases h
 ·cases h
theorem Np {v:Value} (h:Pv v=true):A5 (IX v)=true:=by
 have hc:∀ u,A5 (Nk u)=true:=fun u=>by unfold Nk;split<;>rfl
 cases v<;>first | rfl | exact hc _
theorem Zd5 (h:Rel w0 n M e st a w) (t:TypeId) (hob:(Be P e true st (.alloc t)).1) :
  Yields' P w0 M (Be P e true st (.alloc t)).2.2 (Be P e true st (.alloc t)).2.1 w (do pure (.value (← Instr.alloc t true (.tuple #[])))):=by
 unfold Be at hob ⊢
 cases hz:C5 P t with
 | none=>simp [hz] at hob
 | some z =>
  simp only [hz]
  obtain ⟨i,v,g,hv,b,hs,rfl⟩:=Ge hz
  obtain ⟨d,f,c⟩:=h.st.newBox v (IX v) t (Q2 b) (Np b)
  refine .value ⟨_,_,_,?_,f,d,c⟩
  simp [Instr.alloc,zeroValue,typeInfo,g,hv,newVar,newRow]
theorem Zh6 (h:Rel w0 n M e st a w) (t:TypeId) (x:Operand) (hob:(Be P e true st (.box t x)).1) :
  Yields' P w0 M (Be P e true st (.box t x)).2.2 (Be P e true st (.box t x)).2.1 w (do pure (.value (← Instr.box t (a.eval x)))):=by
 obtain ⟨_,b,c⟩:=hob
 obtain ⟨f,g,d⟩:=h.st.newBox (a.eval x) (Ar e x) t (Bh h b) c
 refine .value ⟨_,_,_,?_,g,f,d⟩
 simp [Instr.box,newVar,newRow]
theorem WR (vs:List Value):∀ (k:Nat) (cs:Array Value) (off:Nat),off+k+vs.length≤cs.size →
  ((vs.zipIdx k).foldl (fun cs (x:Value × Nat)=>cs.setIfInBounds (off+x.2) x.1) cs).size=cs.size ∧
  ∀ j,((vs.zipIdx k).foldl (fun cs (x:Value × Nat)=>cs.setIfInBounds (off+x.2) x.1) cs)[j]? = if off+k≤j∧j<off+k+vs.length then vs[j-(off+k)]? else cs[j]? := by
 induction vs with
 | nil=>intro k cs off h;exact ⟨rfl,fun j=>by simp;omega⟩
 | cons v vs ih =>
  intro k cs off h
  simp only [List.length_cons] at h
  simp only [List.zipIdx_cons,List.foldl_cons,List.length_cons]
  obtain ⟨b,c⟩:=ih (k+1) (cs.setIfInBounds (off+k) v) off (by simp;omega)
  refine ⟨by rw [b];simp,fun j=>?_⟩
  rw [c j]
  by_cases c1:off+(k+1)≤j∧j<off+(k+1)+vs.length
  ·rw [Ae c1,Ae (by omega),show j-(off+k)=(j-(off+(k+1)))+1 from by omega]
   simp
  ·rw [Af c1]
   by_cases c2:j=off+k
   ·subst c2
    have a:off+k<cs.size:=by omega
    rw [Ae (by omega)]
    simp [a]
   ·rw [Af (by omega),Array.getElem?_setIfInBounds_ne (by omega)]
theorem L2 {l xs:List AV} {off:Nat} (h:off+xs.length≤l.length):(DG l off xs).length=l.length:=by
 simp [DG];omega
theorem ZL {l xs:List AV} {off:Nat} (h:off+xs.length≤l.length) (j:Nat):(DG l off xs)[j]? = if off≤j∧j<off+xs.length then xs[j-off]? else l[j]? := by
 unfold DG
 rw [List.append_assoc,List.getElem?_append]
 simp only [List.length_take]
 have e:min off l.length=off:=by omega
 rw [e]
 by_cases c1:j<off
 ·rw [Ae c1,Af (by omega),List.getElem?_take,Ae c1]
 ·rw [Af c1,List.getElem?_append]
  by_cases c2:j-off<xs.length
  ·rw [Ae c2,Ae (by omega)]
  ·rw [Af c2,Af (by omega),List.getElem?_drop]
   congr 1
   omega
theorem Qd {l xs:List AV} {off:Nat} (h1:∀ x∈l,x.one=true) (h2:∀ x∈xs,x.one=true):∀ x∈DG l off xs,x.one=true:=by
 intro x hx
 simp only [DG,List.mem_append] at hx
 rcases hx with (hx | hx) | hx
 ·exact h1 x (List.mem_of_mem_take hx)
 ·exact h2 x hx
 ·exact h1 x (List.mem_of_mem_drop hx)
def RowR (w0:World) (M:Mem) (w:World) (cs:Array Value) (l:List AV):Prop:=cs.size=l.length∧∀ i (h1:i<cs.size) (h2:i<l.length),R w0 M w cs[i] l[i]
theorem RowR.get {cs:Array Value} {l:List AV} (h:RowR w0 M w cs l) {i:Nat} {v:Value} {x:AV} (hv:cs[i]? = some v) (hx:l[i]? = some x):R w0 M w v x:=by
 obtain ⟨a1,rfl⟩:=Array.getElem?_eq_some_iff.1 hv
 obtain ⟨a2,rfl⟩:=Ag.1 hx
 exact h.2 i a1 a2
theorem RowR.mk {cs:Array Value} {l:List AV} (hs:cs.size=l.length) (h:∀ (i:Nat) (v:Value) (x:AV),cs[i]? = some v→l[i]? = some x→R w0 M w v x):RowR w0 M w cs l :=
 ⟨hs,fun i b a=>h i _ _ (Array.getElem?_eq_getElem b) (List.getElem?_eq_getElem a)⟩
theorem RowR.put {cs cs':Array Value} {l:List AV} (h:RowR w0 M w cs l) {v:Value} {x:AV} (hR:R w0 M w v x) {off:Nat} (hoff:off+x.cells.length≤l.length) (hs:cs'.size=cs.size)
  (hg:∀ j,cs'[j]? = if off≤j∧j<off+v.cells.toList.length then v.cells.toList[j-off]? else cs[j]?):RowR w0 M w cs' (DG l off x.cells):=by
 obtain ⟨d,e⟩:=hR.cells
 refine .mk (by rw [hs,L2 hoff];exact h.1) (fun i u y a b=>?_)
 rw [hg i] at a
 rw [ZL hoff] at b
 simp only [Array.length_toList] at a
 rw [←d] at b
 by_cases c:off≤i∧i<off+v.cells.size
 ·rw [Ae c] at a b
  rw [Array.getElem?_toList] at a
  exact RowR.get ⟨d,e⟩ a b
 ·rw [Af c] at a b
  exact h.get a b
theorem X4 (t:TypeId) (pl:Nat→Option (Nat × Nat)) (hpl:∀ i o s,JX P t i=some (o,s)→pl i=some (o,s)) :
  ∀ (vs:List (Nat × Value)) (xs:List (Nat × AV)) (cs:Array Value) (l:List AV),vs.length=xs.length→(∀ (k:Nat) (p:Nat × Value) (q:Nat × AV),vs[k]? = some p→xs[k]? = some q→p.1=q.1∧R w0 M w p.2 q.2∧A5 q.2=true) →
   RowR w0 M w cs l→(∀ y∈l,y.one=true)→Oq P t l.length xs→∃ cs',Instr.fill pl cs vs=some cs'∧RowR w0 M w cs' (QY P t l xs)∧(∀ y∈QY P t l xs,y.one=true)
 | [],[],cs,l,_,_,h,h1,_=>⟨cs,rfl,h,h1⟩
 | [],_::_,_,_,hl,_,_,_,_=>by cases hl
 | _::_,[],_,_,hl,_,_,_,_=>by cases hl
 | (i,v)::vs,(i',x)::xs,cs,l,hl,hp,h,h1,hf=>by
  obtain ⟨rfl,g,hn⟩:=hp 0 _ _ rfl rfl
  simp only at g hn
  simp only [Oq] at hf
  obtain ⟨a,m⟩:=hf
  simp only [Instr.fill,QY]
  cases hpp:JX P t i with
  | none=>simp [hpp] at a
  | some p =>
   obtain ⟨o,s⟩:=p
   simp only [hpp] at a ⊢
   obtain ⟨a1,a2⟩:=a
   obtain ⟨C,z⟩:=g.cells
   rw [hpl i o s hpp]
   have n:(decide (v.cells.size≠s)||decide (o+v.cells.size > cs.size))=false:=by have:=h.1;simp;omega
   simp only [n,Bool.false_eq_true,if_false]
   have b:=WR v.cells.toList 0 cs o (by simp;have:=h.1;omega)
   have d:(v.cells.zipIdx.foldl (fun cs (c,j)=>cs.setIfInBounds (o+j) c) cs)=(v.cells.toList.zipIdx 0).foldl (fun cs (x:Value × Nat)=>cs.setIfInBounds (o+x.2) x.1) cs:=by
    rw [←Array.foldl_toList]
    simp
   rw [d]
   simp only [Nat.add_zero] at b
   have f:=h.put g (off:=o) (by omega) b.1 b.2
   refine X4 t pl hpl vs xs _ _ (by simpa using hl) (fun k p q u r=>hp (k+1) p q (by simpa using u) (by simpa using r)) f (Qd h1 (g.cellsOne (fun vs e=>by subst e;cases hn))) ?_
   rw [L2 (by omega)]
   exact m
theorem YO {α β:Type} (f:α→Sem β) (g:α→β):∀ (l:List α),(∀ x∈l,∀ w,(f x).run P w = .ok (g x) w)→∀ w,(l.mapM f).run P w = .ok (l.map g) w
 | [],_,w=>by simp
 | x::l,h,w=>by simp [h x (by simp),YO f g l (fun y a=>h y (by simp [a])) w]
theorem ZbR {α β:Type} (f:α→Sem β) (g:α→β) (xs:Array α) (h:∀ x∈xs.toList,∀ w,(f x).run P w = .ok (g x) w) (w:World):(xs.mapM f).run P w = .ok (xs.map g) w:=by
 rw [Array.mapM_eq_mapM_toList]
 simp only [Sem.run_map,YO f g xs.toList h w,Result.andThen_ok]
 congr 1
 apply Array.ext'
 simp
theorem PR:∀ (fs:List Field) (l:List (Nat × Nat)),QI P fs=some l →
  l=fs.map (fun f=>(f.offset,P.cellsOf f.type))∧∀ f∈fs,∀ w,(sizeOf f.type).run P w = .ok (P.cellsOf f.type) w
 | [],l,h=>by cases h;exact ⟨rfl,fun f hf=>by cases hf⟩
 | f::fs,l,h=>by
  simp only [QI] at h
  split at h
  ·rename_i i r hi hr
   cases h
   obtain ⟨c,b⟩:=PR fs r hr
   have a:P.cellsOf f.type=i.size:=by simp [Program.cellsOf,hi]
   refine ⟨by simp [a,←c],fun g hg w=>?_⟩
   rcases List.mem_cons.1 hg with rfl | hg
   ·simp [sizeOf,typeInfo,hi,a]
   ·exact b g hg w
  ·cases h
theorem Zdp (h:Rel w0 n M e st a w) (t:TypeId) (ps:Array (Nat × Operand)) (hob:(Be P e true st (.build t ps)).1) :
  Yields' P w0 M (Be P e true st (.build t ps)).2.2 (Be P e true st (.build t ps)).2.1 w (do pure (.value (← Instr.build t (ps.map fun (i,x)=>(i,a.eval x))))):=by
 unfold Be at hob ⊢
 cases hz:C5 P t with
 | none=>simp [hz] at hob
 | some z =>
  simp only [hz] at hob ⊢
  obtain ⟨K,C,E⟩:=hob
  obtain ⟨i,v,Q,hv,Y,hs,rfl⟩:=Ge hz
  have y:R w0 M w v (IX v):=Q2 Y
  have g:RowR w0 M w v.cells (IX v).cells:=y.cells
  have c:=y.cellsOne (fun vs e=>by have:=Np Y;rw [e] at this;cases this)
  have d:∀ (k:Nat) (p:Nat × Value) (q:Nat × AV),((ps.map fun (i,x)=>(i,a.eval x)).toList)[k]? = some p→(ps.toList.map fun p=>(p.1,Ar e p.2))[k]? = some q→p.1=q.1∧R w0 M w p.2 q.2∧A5 q.2=true:=by
   intro k p q r V
   simp only [Array.toList_map,List.getElem?_map,Option.map_eq_some_iff] at r V
   obtain ⟨J,U,rfl⟩:=r
   obtain ⟨q0,h2,rfl⟩:=V
   rw [U] at h2
   cases h2
   have F:J∈ps.toList:=List.mem_of_getElem? U
   exact ⟨rfl,Bh h (C J F).1,(C J F).2⟩
  have j:((ps.map fun (i,x)=>(i,a.eval x)).toList).length=(ps.toList.map fun p=>(p.1,Ar e p.2)).length:=by simp
  cases hpp:D9 P t with
  | some l =>
   unfold D9 at hpp
   split at hpp
   ·rename_i fs hu
    obtain ⟨e1,Z⟩:=PR _ _ hpp
    have b:∀ i o s,JX P t i=some (o,s)→((fs.map fun f=>(f.offset,P.cellsOf f.type))[·]?) i=some (o,s):=by
     intro i o s r
     simp only [JX,D9,hu,hpp] at r
     rw [e1] at r
     simpa using r
    obtain ⟨u,G,D,N⟩:=X4 t _ b _ _ v.cells _ j d g c E
    refine .here h.st (v := .agg u) ?_ (.agg D.1 N D.2)
    have F:=ZbR (P:=P) (fun (f:Field)=>(do pure (f.offset,←sizeOf f.type):Sem (Nat × Nat))) (fun f=>(f.offset,P.cellsOf f.type)) fs (fun f E w=>by simp [Z f E]) w
    simp only [Instr.build,zeroValue,typeInfo,Sem.run_bind,run_program,Result.andThen_ok,Q,hv,Sem.run_pure,run_underlying hu,F,G]
   ·cases hpp
  | none =>
   cases ha:Gu P t with
   | none=>simp [hpp,ha] at K
   | some p =>
    obtain ⟨m,s,ag⟩:=p
    obtain ⟨el,hu,H⟩:=Ru ha
    have b:∀ i o O,JX P t i=some (o,O)→(fun i=>some (i*s,s)) i=some (o,O):=by
     intro i o O r
     simpa [JX,hpp,ha] using r
    obtain ⟨u,G,D,N⟩:=X4 t _ b _ _ v.cells _ j d g c E
    refine .here h.st (v := .agg u) ?_ (.agg D.1 N D.2)
    simp only [Instr.build,zeroValue,typeInfo,Sem.run_bind,run_program,Result.andThen_ok,Q,hv,Sem.run_pure,run_underlying hu,BW H,G]
theorem Vb (sz:Nat):∀ (vals:List Value) (k:Nat) (cs:Array Value),(∀ v∈vals,v.cells.size=sz)→(k+vals.length)*sz≤cs.size →
  ∃ cs',Instr.fill (fun i=>some (i*sz,sz)) cs ((vals.zipIdx k).map fun x=>(x.2,x.1))=some cs'∧cs'.size=cs.size∧(∀ j,j<k*sz→cs'[j]? = cs[j]?) ∧
   ∀ i v,vals[i]? = some v→∀ j,j<sz→cs'[(k+i)*sz+j]? = v.cells[j]?
 | [],k,cs,_,_=>⟨cs,rfl,rfl,fun _ _=>rfl,fun i v h=>by simp at h⟩
 | v::vals,k,cs,hv,hl=>by
  have f:=hv v (by simp)
  simp only [List.length_cons] at hl
  have d:(k+1)*sz≤cs.size:=Nat.le_trans (Nat.mul_le_mul_right _ (by omega)) hl
  rw [Nat.succ_mul] at d
  simp only [List.zipIdx_cons,List.map_cons,Instr.fill]
  have g:(decide (v.cells.size≠sz)||decide (k*sz+v.cells.size > cs.size))=false:=by simp;omega
  simp only [g,Bool.false_eq_true,if_false]
  have b:(v.cells.zipIdx.foldl (fun cs (c,j)=>cs.setIfInBounds (k*sz+j) c) cs)=(v.cells.toList.zipIdx 0).foldl (fun cs (x:Value × Nat)=>cs.setIfInBounds (k*sz+x.2) x.1) cs:=by
   rw [←Array.foldl_toList]
   simp
  have a:=WR v.cells.toList 0 cs (k*sz) (by simp;omega)
  rw [b]
  simp only [Nat.add_zero,Array.length_toList,f] at a
  obtain ⟨cs',a1,a2,a3,a4⟩:=Vb sz vals (k+1) ((v.cells.toList.zipIdx 0).foldl (fun cs (x:Value × Nat)=>cs.setIfInBounds (k*sz+x.2) x.1) cs) (fun u hu=>hv u (by simp [hu])) (by rw [a.1];rw [show k+1+vals.length=k+(vals.length+1) from by omega];exact hl)
  refine ⟨cs',a1,by rw [a2,a.1],fun j e=>?_,fun i u hu j e=>?_⟩
  ·rw [a3 j (by rw [Nat.succ_mul];omega),a.2 j,Af (by omega)]
  ·cases i with
   | zero =>
    simp only [List.getElem?_cons_zero,Option.some.injEq] at hu
    subst hu
    simp only [Nat.add_zero]
    rw [a3 _ (by rw [Nat.succ_mul];omega),a.2,Ae (by omega),Array.getElem?_toList]
    congr 1
    omega
   | succ i =>
    have:=a4 i u (by simpa using hu) j e
    rw [←this,show k+(i+1)=k+1+i from by omega]
theorem Wn {ps:List (Nat × Operand)} {m:Nat} (h:ps.map (·.1)=List.range m) (f:Operand→Value) :
  (ps.map fun p=>(p.1,f p.2))=((ps.map fun p=>f p.2).zipIdx 0).map fun x=>(x.2,x.1):=by
 have a:ps.length=m:=by simpa using congrArg List.length h
 apply List.ext_getElem?
 intro i
 simp only [List.getElem?_map,List.getElem?_zipIdx]
 cases hp:ps[i]? with
 | none=>simp
 | some p =>
  have b:i<m:=by rw [←a];exact (Ag.1 hp).1
  have:=congrArg (·[i]?) h
  simp [hp,b] at this
  simp [this]
theorem R.row {cs:Array Value} {ty:TypeId} {xs:List AV} {sz k:Nat} (us:Nat→Value) (hu:∀ i (hi:i<xs.length),(us i).cells.size=sz∧R w0 M w (us i) xs[i])
  (hc:∀ i,i<xs.length→∀ j,j<sz→cs[i*sz+j]? = (us i).cells[j]?) {cap:Nat} (hcap:xs.length≤cap) (hm:cap≤maxLen) {o:Own} (hk:xs.length*sz≤k) (M':Mem) (hM:M'.top w.heap.size=k)
  (hx:Ext w0 M w M' (w.alloc (.cells cs ty))) (ho:ZdM M' w.heap.size 0 cap xs.length sz o) :
  R w0 M' (w.alloc (.cells cs ty)) (.slice (some ⟨w.heap.size,0,none⟩) xs.length cap) (.list xs o):=by
 refine .list sz us hcap hm (fun i hi=>⟨(hu i hi).1,fun j a=>⟨.inr ?_,?_⟩⟩) (fun i hi=>((hu i hi).2).mono hx) ho
 ·rw [hM]
  have:(i+1)*sz≤xs.length*sz:=Nat.mul_le_mul_right _ hi
  rw [Nat.succ_mul] at this
  omega
 ·rw [Nat.zero_add,World.cell?_alloc_new]
  exact hc i hi j a
theorem VX (h:Rel w0 n M e st a w) (t:TypeId) (m:Nat) (ps:Array (Nat × Operand)) (hmk:Jo e t=false) (hob:(Be P e true st (.buildSlice t m ps)).1) :
  Yields' P w0 M (Be P e true st (.buildSlice t m ps)).2.2 (Be P e true st (.buildSlice t m ps)).2.1 w (do pure (.value (← Instr.buildSlice t m (ps.map fun (i,x)=>(i,a.eval x))))):=by
 unfold Be at hob ⊢
 cases he:Kq P t with
 | none=>simp [he] at hob
 | some p =>
  obtain ⟨O,sz,ag,Y⟩:=p
  simp only [he,hmk] at hob ⊢
  obtain ⟨q,J,H,r,V,G⟩:=hob
  obtain ⟨i,hu,hi,_,s⟩:=Hh he
  obtain ⟨z,F⟩:=Option.isSome_iff_exists.1 V
  obtain ⟨i',v,D,hv,hc,hs,rfl⟩:=Ge F
  have N:ps.toList.length=m:=by simpa using congrArg List.length J
  have c:∀ p∈ps.toList,(a.eval p.2).cells.size=sz:=fun p C=>by
   rw [(Bh h (q p C)).cells.1]
   exact G _ (List.mem_map.2 ⟨p,C,rfl⟩)
  obtain ⟨zc,hzc⟩:∃ zc:Array Value,if m*sz=0 then zc = #[] else zc=v.cells:=by
   by_cases h0:m*sz=0
   ·exact ⟨#[],by rw [Ae h0]⟩
   ·exact ⟨v.cells,by rw [Af h0]⟩
  obtain ⟨y,a1,a2,a3,a4⟩:=Vb sz (ps.toList.map fun p=>a.eval p.2) 0 ((Array.range (m*sz)).map (zc[· % zc.size]!)) (fun u hu=>by obtain ⟨p,C,rfl⟩:=List.mem_map.1 hu;exact c p C) (by simp [N])
  obtain ⟨g,Q⟩:=h.st.newTop y O (m*sz)
  have b:((ps.toList.map fun p=>Ar e p.2).map AV.pub).length=m:=by simp [←N]
  have f:=R.row (us:=fun i=>((ps.toList.map fun p=>a.eval p.2).getD i undef)) (xs:=(ps.toList.map fun p=>Ar e p.2).map AV.pub) (cs:=y) (ty:=O) (sz:=sz) (k:=m*sz) (cap:=m) (o := .full) ?hu ?hc (by rw [b];exact Nat.le_refl _) ?hm (by rw [b];exact Nat.le_refl _) (M.newTop w.heap.size (m*sz)) (by simp [Mem.newTop]) Q b
  case hu =>
   intro k E
   have d:k<ps.toList.length:=by simpa using E
   have U:(ps.toList.map fun p=>a.eval p.2).getD k undef=a.eval (ps.toList[k]).2:=by simp [List.getD,List.getElem?_eq_getElem d]
   rw [U]
   refine ⟨c _ (List.getElem_mem _),?_⟩
   simp only [List.getElem_map]
   exact (Bh h (q _ (List.getElem_mem _))).pub
  case hc =>
   intro k E j Z
   have d:k<ps.toList.length:=by simpa using E
   have:=a4 k (a.eval (ps.toList[k]).2) (by simp [List.getElem?_eq_getElem d]) j Z
   rw [Nat.zero_add] at this
   rw [this]
   simp [List.getD,List.getElem?_eq_getElem d]
  case hm =>
   have:m*1≤m*sz:=Nat.mul_le_mul_left _ r
   simp [maxLen]
   omega
  rw [b] at f
  refine .value ⟨_,_,_,?_,Q,g,f⟩
  have K:¬ (m*sz > 2 ^ 24):=by omega
  have l:(ps.map fun (i,x)=>(i,a.eval x)).toList=((ps.toList.map fun p=>a.eval p.2).zipIdx 0).map fun x=>(x.2,x.1):=by
   rw [Array.toList_map]
   exact Wn J a.eval
  by_cases h0:m*sz=0
  ·rw [Ae h0] at hzc
   subst hzc
   simp only [Instr.buildSlice,Sem.run_bind,run_underlying hu,Result.andThen_ok,BW s,Af K,Ae h0,Sem.run_pure,l,a1,newRow,run_newObj]
   rfl
  ·rw [Af h0] at hzc
   subst hzc
   simp only [Instr.buildSlice,Sem.run_bind,run_underlying hu,Result.andThen_ok,BW s,Af K,Af h0,Sem.run_pure,zeroValue,typeInfo,run_program,D,hv,l,a1,newRow,run_newObj]
   rfl
theorem Below.setRow {B:Nat} {x y:World} (h:Below B x y) {g:Nat} (hg:B≤g) (cs:Array Value):Below B x (y.setRow g cs) :=
 h.trans ⟨rfl,rfl,rfl,by simp,fun k a=>setRow_other y g k cs (by omega)⟩
theorem KeepsObj.setRow {g:Nat} {c:Array Value} {ty:TypeId} (hg:w.heap[g]? = some (.cells c ty (0,0))) (c':Array Value):KeepsObj w (w.setRow g c'):=by
 intro b o h1 h2
 by_cases q:b=g
 ·subst q;rw [hg] at h1;cases h1;cases h2
 ·rw [setRow_other w g b c' q];exact h1
theorem I6 (M':Mem) (hN:M'.N=M.N) (hb:∀ l,l<M.N→M'.bx l=M.bx l) (hNR:M'.NR=M.NR)
  (hr:∀ id,id<M.NR→M.fr id≤M'.fr id∧(M'.fr id=M.fr id→M'.blk id=M.blk id∧M'.cap id=M.cap id∧M'.rsz id=M.rsz id)) (ht:∀ b,M.top b≤M'.top b)
  {g:Nat} {c c':Array Value} {ty:TypeId} (hg:w.heap[g]? = some (.cells c ty (0,0))) (hg0:w0.heap.size≤g) (hkeep:∀ j,j<M.top g→c'[j]? = c[j]?) (hNL:M'.NL=M.NL:=by rfl) (hlb:M'.lb=M.lb:=by rfl) :
  Ext w0 M w M' (w.setRow g c') :=
 ⟨by omega,hb,by omega,hr,fun b a v e d=>by
  refine ⟨?_,e.imp id (fun q=>Nat.lt_of_lt_of_le q (ht b))⟩
  by_cases hbg:b=g
  ·subst hbg
   have f:a<M.top b:=e.resolve_left (by omega)
   rw [cell_of_row w b a c ty _ hg] at d
   rw [cell_of_row _ b a c' ty _ (setRow_heap w b c c' ty _ hg),hkeep a f]
   exact d
  ·rw [cell_setRow_other w g c' ⟨b,a,none⟩ hbg]
   exact d,by simp,by omega,fun _ _=>by rw [hlb],fun _ _ _=>by omega,fun b o h i _=>KeepsObj.setRow hg c' b o h i⟩
theorem Zd8 (h:Rel w0 n M e st a w) (t:TypeId) (x v:Operand) (hob:(Be P e true st (.store t x v)).1) :
  Yields' P w0 M (Be P e true st (.store t x v)).2.2 (Be P e true st (.store t x v)).2.1 w (do Instr.storeAt t (a.eval x) (a.eval v);pure .skip):=by
 unfold Be at hob ⊢
 cases ht:IW P t with
 | none=>simp [ht] at hob
 | some p =>
  obtain ⟨sz,ag⟩:=p
  simp only [ht] at hob ⊢
  obtain ⟨_,m,hv,hbx,hr,hn,hl,hle⟩:=hob
  have hRx:=Bh h m
  have g:=Bh h hv
  generalize Ar e x=X at hRx hbx hr hle ⊢
  generalize a.eval x=vx at hRx ⊢
  cases X with
  | box l off =>
   cases hRx with
   | box hlN =>
    have Z:l<st.boxes.length:=by simpa [DK] using hr
    obtain ⟨cs,hcs⟩:∃ cs,st.boxes[l]? = some cs:=⟨_,List.getElem?_eq_getElem Z⟩
    have aa:st.boxes.getD l []=cs:=by simp [List.getD,hcs]
    obtain ⟨U,b2,c,Q,E,b4,b5,b6⟩:=h.st.box l cs hcs
    simp only [Bq,ES,aa] at hle
    simp only [TX,aa]
    obtain ⟨v1,v2⟩:=g.cells
    have v3:=g.cellsOne (fun vs e=>by rw [e] at hn;cases hn)
    have y:∀ u∈(a.eval v).cells.toList,u.oneCell'=true:=by
     intro u hu
     obtain ⟨k,G,rfl⟩:=List.getElem_of_mem hu
     simp only [Array.length_toList] at G
     rw [Array.getElem_toList]
     exact (v2 k G (by omega)).oneCell (v3 _ (List.getElem_mem _))
    have hst:=run_storeCells_at P (M.bx l) off Q (a.eval v).cells.toList 0 c w E (by simp;omega) y
    simp only [Nat.add_zero] at hst
    generalize hc':(c.toList.take off++(a.eval v).cells.toList++c.toList.drop (off+(a.eval v).cells.toList.length)).toArray=c' at hst
    have r:c'.size=c.size:=by rw [←hc'];simp;omega
    have z:∀ j,c'[j]? = if off≤j∧j<off+(a.eval v).cells.toList.length then (a.eval v).cells.toList[j-off]? else c[j]? := by
     intro j
     rw [←hc',List.getElem?_toArray,List.append_assoc,List.getElem?_append]
     simp only [List.length_take,Array.length_toList]
     have e:min off c.size=off:=by omega
     rw [e]
     by_cases c1:j<off
     ·rw [Ae c1,Af (by omega),List.getElem?_take,Ae c1,Array.getElem?_toList]
     ·rw [Af c1,List.getElem?_append]
      simp only [Array.length_toList]
      by_cases c2:j-off<(a.eval v).cells.size
      ·rw [Ae c2,Ae (by omega)]
      ·rw [Af c2,Af (by omega),List.getElem?_drop,Array.getElem?_toList]
       congr 1
       omega
    have m:Ext w0 M w M (w.setRow (M.bx l) c'):=I6 M rfl (fun _ _=>rfl) rfl (fun _ _=>⟨Nat.le_refl _,fun _=>⟨rfl,rfl,rfl⟩⟩) (fun _=>Nat.le_refl _) E U (fun j hj=>by rw [b2] at hj;omega)
    have f:RowR w0 M w c' (DG cs off (Ar e v).cells):=RowR.put ⟨b4,b6⟩ g (by omega) r z
    refine ⟨undef,_,M,.inr ⟨?_,rfl⟩,m,⟨Below.setRow h.st.below U _,by simp [h.st.N],h.st.NR,fun b hb=>h.st.top b (by simpa using hb),h.st.inj,fun F V hl'=>?_,fun id x C=>(h.st.row id x C).keep m rfl rfl rfl rfl rfl (h.st.row id x C).ne (setRow_other w _ _ _ (Ne.symm ((h.st.row id x C).ne l hlN))),h.st.rowinj,h.st.loop.mono m rfl (KeepsObj.setRow E _)⟩,Zbe⟩
    ·have e0:¬ ((a.eval v).cells.size≠sz):=by omega
     simp only [Instr.storeAt,Instr.sureAddr,Sem.run_bind,Sem.run_pure,Result.andThen_ok,storeVar,BW ht,Af e0,hst]
    ·by_cases ell:F=l
     ·subst ell
      rw [List.getElem?_set_self Z] at hl'
      cases hl'
      exact ⟨U,b2,c',Q,setRow_heap w _ c c' Q _ E,f.1,Qd b5 v3,fun i O D=>(f.2 i O D).mono m⟩
     ·rw [List.getElem?_set_ne (Ne.symm ell)] at hl'
      obtain ⟨d1,d2,d,J,d3,d4,d5,d6⟩:=h.st.box F V hl'
      have s:F<M.N:=by rw [h.st.N];exact (Ag.1 hl').1
      have K:M.bx F≠M.bx l:=fun q=>ell (h.st.inj F l s hlN q)
      exact ⟨d1,d2,d,J,by rw [setRow_other w _ _ _ K];exact d3,d4,d5,fun i O D=>(d6 i O D).mono m⟩
  | vel id ver off =>
   cases hRx with
   | @vel _ _ _ ad C hver hh =>
    obtain ⟨aj,cs,Y⟩:=Rh (show (EW st.rows id ver).isSome=true from hr)
    have f:=Hv Y
    obtain ⟨f1,f2,U,b2,f5,f6,f7,c,Q,E,b4,ai,b5,b6⟩:=h.st.row id _ f
    have had:=hh f1.symm
    subst had
    simp only [Bq,ES,Y] at hle
    simp only [TX,Y]
    obtain ⟨v1,v2⟩:=g.cells
    have v3:=g.cellsOne (fun vs e=>by rw [e] at hn;cases hn)
    have y:∀ u∈(a.eval v).cells.toList,u.oneCell'=true:=by
     intro u hu
     obtain ⟨k,G,rfl⟩:=List.getElem_of_mem hu
     simp only [Array.length_toList] at G
     rw [Array.getElem_toList]
     exact (v2 k G (by omega)).oneCell (v3 _ (List.getElem_mem _))
    have hst:=run_storeCells_at P (M.blk id) off Q (a.eval v).cells.toList 0 c w E (by simp;omega) y
    simp only [Nat.add_zero] at hst
    generalize hc':(c.toList.take off++(a.eval v).cells.toList++c.toList.drop (off+(a.eval v).cells.toList.length)).toArray=c' at hst
    have r:c'.size=c.size:=by rw [←hc'];simp;omega
    have z:∀ j,c'[j]? = if off≤j∧j<off+(a.eval v).cells.toList.length then (a.eval v).cells.toList[j-off]? else c[j]? := by
     intro j
     rw [←hc',List.getElem?_toArray,List.append_assoc,List.getElem?_append]
     simp only [List.length_take,Array.length_toList]
     have e:min off c.size=off:=by omega
     rw [e]
     by_cases c1:j<off
     ·rw [Ae c1,Af (by omega),List.getElem?_take,Ae c1,Array.getElem?_toList]
     ·rw [Af c1,List.getElem?_append]
      simp only [Array.length_toList]
      by_cases c2:j-off<(a.eval v).cells.size
      ·rw [Ae c2,Ae (by omega)]
      ·rw [Af c2,Af (by omega),List.getElem?_drop,Array.getElem?_toList]
       congr 1
       omega
    have m:Ext w0 M w M (w.setRow (M.blk id) c'):=I6 M rfl (fun _ _=>rfl) rfl (fun _ _=>⟨Nat.le_refl _,fun _=>⟨rfl,rfl,rfl⟩⟩) (fun _=>Nat.le_refl _) E U (fun j hj=>by rw [b2] at hj;omega)
    have ab:id<st.rows.length:=(Ag.1 f).1
    have ah:=L2 (l:=cs) (xs:=(Ar e v).cells) (off:=off) (by omega)
    refine ⟨undef,_,M,.inr ⟨?_,rfl⟩,m,⟨Below.setRow h.st.below U _,h.st.N,by simp [h.st.NR],fun b hb=>h.st.top b (by simpa using hb),h.st.inj,fun F V hl'=>?_,fun o x hid'=>?_,h.st.rowinj,h.st.loop.mono m rfl (KeepsObj.setRow E _)⟩,Zbe⟩
    ·have e0:¬ ((a.eval v).cells.size≠sz):=by omega
     simp only [Instr.storeAt,Instr.sureAddr,Sem.run_bind,Sem.run_pure,Result.andThen_ok,storeVar,BW ht,Af e0,hst]
    ·obtain ⟨d1,d2,d,J,d3,d4,d5,d6⟩:=h.st.box F V hl'
     have s:F<M.N:=by rw [h.st.N];exact (Ag.1 hl').1
     exact ⟨d1,d2,d,J,by rw [setRow_other w _ _ _ (f5 F s)];exact d3,d4,d5,fun i O D=>(d6 i O D).mono m⟩
    ·by_cases ell:o=id
     ·subst ell
      rw [List.getElem?_set_self ab] at hid'
      cases hid'
      refine ⟨f1,f2,U,b2,f5,f6,f7,c',Q,setRow_heap w _ c c' Q _ E,r.trans b4,by omega,Qd b5 v3,fun i O D=>?_⟩
      have ae:RowR w0 M w (c'.extract 0 cs.length) (DG cs off (Ar e v).cells):=by
       have af:RowR w0 M w (c.extract 0 cs.length) cs:=⟨by simp;omega,fun i O D=>by rw [Array.getElem_extract];simp only [Nat.zero_add];exact b6 i (by omega) D⟩
       refine RowR.put af g (by omega) (by simp;omega) (fun j=>?_)
       simp only [Array.getElem?_extract,Nat.zero_add,z]
       by_cases q1:j<min cs.length c'.size
       ·rw [Ae (by omega)]
        by_cases q2:off≤j∧j<off+(a.eval v).cells.toList.length
        ·rw [Ae q2,Ae q2]
        ·rw [Af q2,Af q2,Ae (by omega)]
       ·rw [Af (by omega),Af (by simp;omega),Af (by omega)]
      have h3:i<(c'.extract 0 cs.length).size:=by simp;omega
      have:=(ae.2 i h3 D).mono m
      rw [Array.getElem_extract] at this
      simpa using this
     ·rw [List.getElem?_set_ne (Ne.symm ell)] at hid'
      have G:=h.st.row o x hid'
      have H:o<M.NR:=by rw [h.st.NR];exact (Ag.1 hid').1
      have K:M.blk o≠M.blk id:=fun q=>ell (h.st.rowinj o id H C q)
      exact G.keep m rfl rfl rfl rfl rfl G.ne (setRow_other w _ _ _ K)
  | _=>cases hbx
end
section
variable {P:Program} {w0:World} {n:Nat} {M:Mem} {e:Env} {st:St} {a:Act} {w:World}
def flat (us:Nat→Value) (m:Nat):List Value:=(List.range m).flatMap fun i=>(us i).cells.toList
theorem WJ (us:Nat→Value) (m:Nat):flat us (m+1)=flat us m++(us m).cells.toList:=by
 simp [flat,List.range_succ]
theorem AW {us:Nat→Value} {sz:Nat}:∀ {m:Nat},(∀ i,i<m→(us i).cells.size=sz)→(flat us m).length=m*sz
 | 0,_=>by simp [flat]
 | m+1,h=>by
  rw [WJ,List.length_append,AW (fun i a=>h i (by omega)),Array.length_toList,h m (by omega),Nat.succ_mul]
theorem JI {us:Nat→Value} {sz:Nat}:∀ {m:Nat},(∀ i,i<m→(us i).cells.size=sz)→∀ i,i<m→∀ j,j<sz→(flat us m)[i*sz+j]? = (us i).cells[j]?
 | 0,_,i,a,_,_=>absurd a (by omega)
 | m+1,h,i,a,j,hj=>by
  have b:=AW (us:=us) (m:=m) (fun i a=>h i (by omega))
  rw [WJ,List.getElem?_append,b]
  by_cases c:i=m
  ·subst c
   rw [Af (by omega),show i*sz+j-i*sz=j from by omega,Array.getElem?_toList]
  ·have d:(i+1)*sz≤m*sz:=Nat.mul_le_mul_right _ (by omega)
   rw [Nat.succ_mul] at d
   rw [Ae (by omega)]
   exact JI (fun i a=>h i (by omega)) i (by omega) j hj
theorem Gy {us:Nat→Value} {sz m:Nat} (hs:∀ i,i<m→(us i).cells.size=sz) {b off:Nat} (hsz:0<sz) (hc:∀ i,i<m→∀ j,j<sz→w.cell? ⟨b,off+i*sz+j,none⟩=(us i).cells[j]?) :
  ∀ j u,(flat us m)[j]? = some u→w.cell? ((⟨b,off,none⟩:Addr).add j)=some u:=by
 intro j u f
 have l:=AW hs
 have k:j<m*sz:=by rw [←l];exact (Ag.1 f).1
 have e:=Nat.div_add_mod j sz
 have h:j / sz<m:=(Nat.div_lt_iff_lt_mul hsz).2 k
 have a:=Nat.mod_lt j hsz
 have d:=JI hs (j / sz) h (j % sz) a
 have c:=hc (j / sz) h (j % sz) a
 have g:j / sz*sz+j % sz=j:=by rw [Nat.mul_comm];exact e
 rw [g] at d
 rw [Nat.add_assoc,g] at c
 rw [E4,c,←d,f]
theorem R.list_open {v:Value} {xs:List AV} {o:Own} {sz:Nat} (h:R w0 M w v (.list xs o)) (hs:∀ y∈xs,y.cells.length=sz) :
  ∃ us:Nat→Value,(∀ i (hi:i<xs.length),(us i).cells.size=sz∧R w0 M w (us i) xs[i]) ∧
   (((v = .slice none 0 0∨∃ ad,v = .slice (some ad) 0 0)∧xs=[]∧∀ id,o ≠ .row id)∨∃ b off cap sz',v = .slice (some ⟨b,off,none⟩) xs.length cap∧xs.length≤cap∧cap≤maxLen∧ZdM M b off cap xs.length sz' o ∧
    ∀ i,i<xs.length→∀ j,j<sz→w.cell? ⟨b,off+i*sz+j,none⟩=(us i).cells[j]?):=by
 cases h with
 | nil ho=>exact ⟨fun _=>undef,fun i hi=>absurd hi (by simp),.inl ⟨.inl rfl,rfl,ho⟩⟩
 | emp ho=>exact ⟨fun _=>undef,fun i hi=>absurd hi (by simp),.inl ⟨.inr ⟨_,rfl⟩,rfl,ho⟩⟩
 | @list b off cap _ _ sz' us hc hm hcell hu ho =>
  have a:∀ i (hi:i<xs.length),(us i).cells.size=sz:=fun i hi=>by rw [(hu i hi).cells.1];exact hs _ (List.getElem_mem _)
  refine ⟨us,fun i hi=>⟨a i hi,hu i hi⟩,.inr ⟨b,off,cap,sz',rfl,hc,hm,ho,fun i hi j c=>?_⟩⟩
  have e:sz'=sz:=by rw [←(hcell i hi).1,a i hi]
  subst e
  exact ((hcell i hi).2 j c).2
theorem Uu {us:Nat→Value} {xs:List AV} {sz:Nat} (hu:∀ i (hi:i<xs.length),(us i).cells.size=sz∧R w0 M w (us i) xs[i]) (hn:∀ y∈xs,A5 y=true):∀ u∈flat us xs.length,u.oneCell'=true:=by
 intro u g
 obtain ⟨i,hi,b⟩:=List.mem_flatMap.1 g
 have c:i<xs.length:=List.mem_range.1 hi
 obtain ⟨hs,d⟩:=hu i c
 obtain ⟨k,f,rfl⟩:=List.getElem_of_mem b
 simp only [Array.length_toList] at f
 rw [Array.getElem_toList]
 have a:=d.cellsOne (fun vs e=>by have:=hn _ (List.getElem_mem c);rw [e] at this;cases this)
 exact (d.cells.2 k f (by rw [←d.cells.1];exact f)).oneCell (a _ (List.getElem_mem _))
def Mem.addRow (M:Mem) (b cap k sz tp:Nat):Mem :=
  { M with NR:=M.NR+1,fr:=fun i=>if i=M.NR then k else M.fr i,blk:=fun i=>if i=M.NR then b else M.blk i,cap:=fun i=>if i=M.NR then cap else M.cap i,
           rsz:=fun i=>if i=M.NR then sz else M.rsz i,top:=fun x=>if x=b then tp else M.top x }
def Mem.growRow (M:Mem) (id b cap k tp:Nat):Mem :=
 { M with fr:=fun i=>if i=id then k else M.fr i,blk:=fun i=>if i=id then b else M.blk i,cap:=fun i=>if i=id then cap else M.cap i,top:=fun x=>if x=b then tp else M.top x }
theorem RelSt.addRow' (h:RelSt w0 M st w) {cs:Array Value} {ty:TypeId} {cap k sz tp:Nat} {x:RowA}
  (hnew:Ext w0 M w (M.addRow w.heap.size cap k sz tp) (w.alloc (.cells cs ty))→(∀ l,l<M.N→M.bx l≠w.heap.size)→RowOk w0 (M.addRow w.heap.size cap k sz tp) (w.alloc (.cells cs ty)) M.NR x) :
  RelSt w0 (M.addRow w.heap.size cap k sz tp) { st with rows:=st.rows++[x] } (w.alloc (.cells cs ty))∧Ext w0 M w (M.addRow w.heap.size cap k sz tp) (w.alloc (.cells cs ty)):=by
 have f:∀ b,b<w.heap.size→(M.addRow w.heap.size cap k sz tp).top b=M.top b:=fun b n=>by simp [Mem.addRow];omega
 have a:∀ i,i<M.NR→(M.addRow w.heap.size cap k sz tp).fr i=M.fr i∧(M.addRow w.heap.size cap k sz tp).blk i=M.blk i∧(M.addRow w.heap.size cap k sz tp).cap i=M.cap i∧(M.addRow w.heap.size cap k sz tp).rsz i=M.rsz i:=by
  intro i p
  have:¬ i=M.NR:=by omega
  simp [Mem.addRow,this]
 have m:Ext w0 M w (M.addRow w.heap.size cap k sz tp) (w.alloc (.cells cs ty)) :=
  Pz _ _ (.inl rfl) (fun _ _=>rfl) (Nat.le_succ _) (fun i p=>by obtain ⟨a1,a2,a3,a4⟩:=a i p;exact ⟨by omega,fun _=>⟨a2,a3,a4⟩⟩) (fun b n=>by rw [f b n];exact Nat.le_refl _)
 have r:∀ l,l<M.N→M.bx l≠w.heap.size:=fun l s=>by have:=h.box_lt s;omega
 refine ⟨⟨h.below.alloc h.base_le _,h.N,by simp [Mem.addRow,h.NR],fun b n=>?_,h.inj,fun l c s=>?_,fun id y hid=>?_,fun i j p F d=>?_,h.loop.mono m rfl (KeepsObj.alloc _ _)⟩,m⟩
 ·simp at n
  have:(M.addRow w.heap.size cap k sz tp).top b=M.top b:=by simp [Mem.addRow];omega
  rw [this]
  exact h.top b (by omega)
 ·obtain ⟨a1,a2,v,q,a3,a4,a5,a6⟩:=h.box l c s
  have g:=(Array.getElem?_eq_some_iff.1 a3).1
  exact ⟨a1,by rw [show (M.addRow w.heap.size cap k sz tp).bx l=M.bx l from rfl,f _ g];exact a2,v,q,by rw [show (M.addRow w.heap.size cap k sz tp).bx l=M.bx l from rfl,BL _ _ g];exact a3,a4,a5,fun i z D=>(a6 i z D).mono m⟩
 ·by_cases e1:id=M.NR
  ·subst e1
   simp only [h.NR,List.getElem?_concat_length,Option.some.injEq] at hid
   subst hid
   exact hnew m r
  ·have e:id<M.NR:=by
    have:id<(st.rows++[x]).length:=(Ag.1 hid).1
    have t:=h.NR
    simp at this
    omega
   rw [List.getElem?_append_left (by rw [←h.NR];exact e)] at hid
   have o:=h.row id y hid
   obtain ⟨G,E,u,C⟩:=a id e
   exact o.keep m G C E u (f _ o.lt) o.ne (BL _ _ o.lt)
 ·have t:(M.addRow w.heap.size cap k sz tp).NR=M.NR+1:=rfl
  rw [t] at p F
  have new:(M.addRow w.heap.size cap k sz tp).blk M.NR=w.heap.size:=by simp [Mem.addRow]
  by_cases e1:i=M.NR
  ·by_cases e2:j=M.NR
   ·omega
   ·subst e1
    rw [new,(a j (by omega)).2.1] at d
    have:=h.row_lt (i:=j) (by omega)
    omega
  ·by_cases e2:j=M.NR
   ·subst e2
    rw [new,(a i (by omega)).2.1] at d
    have:=h.row_lt (i:=i) (by omega)
    omega
   ·rw [(a i (by omega)).2.1,(a j (by omega)).2.1] at d
    exact h.rowinj i j (by omega) (by omega) d
theorem RelSt.addRow (h:RelSt w0 M st w) {cs:Array Value} {ty:TypeId} {cap k sz:Nat} (hm:cap≤maxLen) (hk:k≤cap) (hs:cs.size=cap*sz) :
  RelSt w0 (M.addRow w.heap.size cap k sz (k*sz)) { st with rows:=st.rows++[.grow k sz] } (w.alloc (.cells cs ty))∧Ext w0 M w (M.addRow w.heap.size cap k sz (k*sz)) (w.alloc (.cells cs ty)) :=
 h.addRow' fun _ a=>by
  have q:(M.addRow w.heap.size cap k sz (k*sz)).fr M.NR=k∧(M.addRow w.heap.size cap k sz (k*sz)).blk M.NR=w.heap.size∧(M.addRow w.heap.size cap k sz (k*sz)).cap M.NR=cap∧(M.addRow w.heap.size cap k sz (k*sz)).rsz M.NR=sz∧(M.addRow w.heap.size cap k sz (k*sz)).top w.heap.size=k*sz:=by simp [Mem.addRow]
  obtain ⟨e,b,f,c,d⟩:=q
  simp only [RowOk,e,b,f,c,d]
  exact ⟨trivial,trivial,h.base_le,trivial,a,hm,hk,cs,ty,heap_alloc_new w _,hs⟩
theorem RelSt.addVec (h:RelSt w0 M st w) {cs:Array Value} {ty:TypeId} {cap sz:Nat} {xs:List AV} (hm:cap≤maxLen) (hz:0<sz) (hs:cs.size=cap*sz) (hl:xs.length≤cs.size) (h1:∀ x∈xs,x.one=true) (hR:∀ (i:Nat) (v:Value) (x:AV),cs[i]? = some v→xs[i]? = some x→R w0 M w v x) :
  RelSt w0 (M.addRow w.heap.size cap 0 sz 0) { st with rows:=st.rows++[.vec 0 sz xs] } (w.alloc (.cells cs ty))∧Ext w0 M w (M.addRow w.heap.size cap 0 sz 0) (w.alloc (.cells cs ty)) :=
 h.addRow' fun e c=>by
  have q:(M.addRow w.heap.size cap 0 sz 0).fr M.NR=0∧(M.addRow w.heap.size cap 0 sz 0).blk M.NR=w.heap.size∧(M.addRow w.heap.size cap 0 sz 0).cap M.NR=cap∧(M.addRow w.heap.size cap 0 sz 0).rsz M.NR=sz∧(M.addRow w.heap.size cap 0 sz 0).top w.heap.size=0:=by simp [Mem.addRow]
  obtain ⟨j,d,k,f,g⟩:=q
  simp only [RowOk,j,d,k,f,g]
  exact ⟨trivial,trivial,h.base_le,trivial,c,hm,hz,cs,ty,heap_alloc_new w _,hs,hl,h1,fun i a b=>(hR i _ _ (Array.getElem?_eq_getElem a) (List.getElem?_eq_getElem b)).mono e⟩
theorem RelSt.growRow' (h:RelSt w0 M st w) {id:Nat} {x0 x:RowA} (hid:st.rows[id]? = some x0) {w':World} {b cap k tp:Nat} (hbelow:Below w0.heap.size w w')
  (hsize:w.heap.size≤w'.heap.size) (hbw:b<w'.heap.size) (hbox:∀ l,l<M.N→M.bx l≠b∧w'.heap[M.bx l]? = w.heap[M.bx l]?) (hrow:∀ i,i<M.NR→i≠id→M.blk i≠b∧w'.heap[M.blk i]? = w.heap[M.blk i]?)
  (hnew:RowOk w0 (M.growRow id b cap k tp) w' id x) (hx:Ext w0 M w (M.growRow id b cap k tp) w') (hko:KeepsObj w w') :
  RelSt w0 (M.growRow id b cap k tp) { st with rows:=st.rows.set id x } w':=by
 have e:id<st.rows.length:=(Ag.1 hid).1
 refine ⟨h.below.trans hbelow,h.N,by simp [Mem.growRow,h.NR],fun y u=>?_,h.inj,fun l c s=>?_,fun i y hi=>?_,fun i j hi p a=>?_,h.loop.mono hx rfl hko⟩
 ·have:(M.growRow id b cap k tp).top y=M.top y:=by simp [Mem.growRow];omega
  rw [this]
  exact h.top y (by omega)
 ·obtain ⟨a1,a2,t,m,a3,a4,a5,a6⟩:=h.box l c s
  have n:l<M.N:=by rw [h.N];exact (Ag.1 s).1
  obtain ⟨f,g⟩:=hbox l n
  refine ⟨a1,?_,t,m,by rw [show (M.growRow id b cap k tp).bx l=M.bx l from rfl,g];exact a3,a4,a5,fun i f g=>(a6 i f g).mono hx⟩
  show (M.growRow id b cap k tp).top (M.bx l)=0
  simp [Mem.growRow,f,a2]
 ·by_cases e1:i=id
  ·subst e1
   rw [List.getElem?_set_self e] at hi
   cases hi
   exact hnew
  ·rw [List.getElem?_set_ne (Ne.symm e1)] at hi
   have o:i<M.NR:=by rw [h.NR];exact (Ag.1 hi).1
   have r:=h.row i y hi
   obtain ⟨f,g⟩:=hrow i o e1
   have q:(M.growRow id b cap k tp).fr i=M.fr i∧(M.growRow id b cap k tp).blk i=M.blk i∧(M.growRow id b cap k tp).cap i=M.cap i∧(M.growRow id b cap k tp).rsz i=M.rsz i∧(M.growRow id b cap k tp).top (M.blk i)=M.top (M.blk i):=by simp [Mem.growRow,e1,f]
   obtain ⟨F,C,D,E,v⟩:=q
   exact r.keep hx F E C D v r.ne g
 ·have d:∀ j,(M.growRow id b cap k tp).blk j=if j=id then b else M.blk j:=fun j=>rfl
  rw [d,d] at a
  have z:(M.growRow id b cap k tp).NR=M.NR:=rfl
  rw [z] at hi p
  by_cases e1:i=id
  ·by_cases e2:j=id
   ·omega
   ·rw [Ae e1,Af e2] at a
    exact absurd a.symm (hrow j p e2).1
  ·by_cases e2:j=id
   ·rw [Af e1,Ae e2] at a
    exact absurd a (hrow i hi e1).1
   ·rw [Af e1,Af e2] at a
    exact h.rowinj i j hi p a
theorem RelSt.growRow (h:RelSt w0 M st w) {id:Nat} {k0 sz:Nat} (hid:st.rows[id]? = some (.grow k0 sz)) {w':World} {b cap k:Nat} (hb0:w0.heap.size≤b) (hbelow:Below w0.heap.size w w')
  (hsize:w.heap.size≤w'.heap.size) (hbw:b<w'.heap.size) (hm:cap≤maxLen) (hk:k≤cap) (hbox:∀ l,l<M.N→M.bx l≠b∧w'.heap[M.bx l]? = w.heap[M.bx l]?) (hrow:∀ i,i<M.NR→i≠id→M.blk i≠b∧w'.heap[M.blk i]? = w.heap[M.blk i]?)
  {cs:Array Value} {ty:TypeId} (hcs:w'.heap[b]? = some (.cells cs ty (0,0))) (hs:cs.size=cap*sz) (hx:Ext w0 M w (M.growRow id b cap k (k*sz)) w') (hko:KeepsObj w w') :
  RelSt w0 (M.growRow id b cap k (k*sz)) { st with rows:=st.rows.set id (.grow k sz) } w':=by
 refine h.growRow' hid hbelow hsize hbw hbox hrow ?_ hx hko
 have q:(M.growRow id b cap k (k*sz)).fr id=k∧(M.growRow id b cap k (k*sz)).blk id=b∧(M.growRow id b cap k (k*sz)).cap id=cap∧(M.growRow id b cap k (k*sz)).rsz id=M.rsz id∧(M.growRow id b cap k (k*sz)).top b=k*sz:=by simp [Mem.growRow]
 obtain ⟨e,a,g,c,d⟩:=q
 simp only [RowOk,e,a,g,c,d]
 exact ⟨trivial,(h.row id _ hid).2.1,hb0,trivial,fun l f=>(hbox l f).1,hm,hk,cs,ty,hcs,hs⟩
def XF (us ux:Nat→Value) (k:Nat):Nat→Value:=fun i=>if i<k then us i else ux (i-k)
theorem ZT {us ux:Nat→Value} {xs ys:List AV} {sz:Nat} {M':Mem} {w':World} (hx:Ext w0 M w M' w') (h1:∀ i (hi:i<xs.length),(us i).cells.size=sz∧R w0 M w (us i) xs[i]) (h2:∀ i (hi:i<ys.length),(ux i).cells.size=sz∧R w0 M w (ux i) ys[i]) :
  ∀ i (hi:i<(xs++ys.map AV.pub).length),(XF us ux xs.length i).cells.size=sz∧R w0 M' w' (XF us ux xs.length i) (xs++ys.map AV.pub)[i]:=by
 intro i hi
 unfold XF
 by_cases c:i<xs.length
 ·rw [Ae c,List.getElem_append_left c]
  exact ⟨(h1 i c).1,((h1 i c).2).mono hx⟩
 ·simp at hi
  rw [Af c,List.getElem_append_right (by omega),List.getElem_map]
  exact ⟨(h2 _ (by omega)).1,((h2 _ (by omega)).2).pub.mono hx⟩
theorem Y6 {us ux:Nat→Value} {k m sz:Nat} (hs:∀ i,i<k→(us i).cells.size=sz) (hx:∀ i,i<m→(ux i).cells.size=sz) (zs:List Value) :
  ∀ i,i<k+m→∀ j,j<sz→(flat us k++flat ux m++zs)[i*sz+j]? = (XF us ux k i).cells[j]? := by
 intro i g j a
 have b:=AW hs
 have f:=AW hx
 rw [List.append_assoc,List.getElem?_append,b]
 unfold XF
 by_cases c:i<k
 ·have q:(i+1)*sz≤k*sz:=Nat.mul_le_mul_right _ c
  rw [Nat.succ_mul] at q
  rw [Ae (by omega),Ae c]
  exact JI hs i c j a
 ·have q:k*sz≤i*sz:=Nat.mul_le_mul_right _ (by omega)
  have d:(i-k+1)*sz≤m*sz:=Nat.mul_le_mul_right _ (by omega)
  rw [Nat.succ_mul] at d
  have e:i*sz=k*sz+(i-k)*sz:=by rw [←Nat.add_mul];congr 1;omega
  rw [Af (by omega),Af c,List.getElem?_append,f,Ae (by omega),show i*sz+j-k*sz=(i-k)*sz+j from by omega]
  exact JI hx (i-k) (by omega) j a
theorem Y9 (t ty el:TypeId) {sz:Nat} {ag:Bool} (ht:P.underlying t=some (.slice el)) (hty:IW P el=some (sz,ag)) (g k cap:Nat) (cur:Array Value) (te:TypeId) (hg:w.heap[g]? = some (.cells cur te (0,0)))
  {x:Value} {m:Nat} (hlen:(Builtin.lenOf x).run P w = .ok m w) (news:List Value) (hf:(Builtin.firstCells sz m x).run P w = .ok news.toArray w) (h1:∀ u∈news,u.oneCell'=true)
  (hroom:k+m≤cap) (hfit:k*sz+news.length≤cur.size) :
  (Builtin.append_ #[t,t] ty #[.slice (some ⟨g,0,none⟩) k cap,x]).run P w =
   .ok (.slice (some ⟨g,0,none⟩) (k+m) cap) (w.setRow g (cur.toList.take (k*sz)++news++cur.toList.drop (k*sz+news.length)).toArray):=by
 have a:=run_storeCells_at P g (k*sz) te news 0 cur w hg (by simpa using hfit) h1
 simp only [Nat.add_zero] at a
 obtain ⟨i,d,c,hsz,_,_⟩:=MF hty
 subst hsz
 have b:(⟨g,0,none⟩:Addr).add (k*i.size)=⟨g,k*i.size,none⟩:=by rw [E4,Nat.zero_add]
 simp [Builtin.append_,run_underlying ht,sizeOf,typeInfo,c,hlen,hroom,hf,b,a]
theorem MO {ys:List AV} {sz:Nat} (hs:∀ y∈ys,y.cells.length=sz):(ys.flatMap fun y=>y.pub.cells).length=ys.length*sz:=by
 induction ys with
 | nil=>simp
 | cons y ys ih =>
  rw [List.flatMap_cons,List.length_append,ih (fun z a=>hs z (by simp [a])),AV.pub_cells_length,hs y (by simp),List.length_cons,Nat.succ_mul]
  omega
theorem Zc7 {sz:Nat}:∀ (ys:List AV),(∀ y∈ys,y.cells.length=sz)→∀ i y,ys[i]? = some y→∀ k,k<sz→(ys.flatMap fun y=>y.pub.cells)[i*sz+k]? = y.pub.cells[k]?
 | [],_,i,y,h,_,_=>by simp at h
 | x::ys,hs,0,y,h,k,hk=>by
  simp only [List.getElem?_cons_zero,Option.some.injEq] at h
  subst h
  rw [List.flatMap_cons,Nat.zero_mul,Nat.zero_add,List.getElem?_append_left (by rw [AV.pub_cells_length,hs x (by simp)];exact hk)]
 | x::ys,hs,i+1,y,h,k,hk=>by
  have a:x.pub.cells.length=sz:=by rw [AV.pub_cells_length];exact hs x (by simp)
  rw [List.flatMap_cons,List.getElem?_append_right (by rw [a,Nat.succ_mul];omega),a,show (i+1)*sz+k-sz=i*sz+k from by rw [Nat.succ_mul];omega]
  exact Zc7 ys (fun z b=>hs z (by simp [b])) i y (by simpa using h) k hk
theorem Xb {ux:Nat→Value} {ys:List AV} (hu:∀ i (hi:i<ys.length),R w0 M w (ux i) ys[i]) (hn:∀ y∈ys,A5 y=true):∀ x∈ys.flatMap (fun y=>y.pub.cells),x.one=true:=by
 intro x c
 obtain ⟨y,b,a⟩:=List.mem_flatMap.1 c
 obtain ⟨i,hi,rfl⟩:=List.mem_iff_getElem.1 b
 refine ((hu i hi).pub).cellsOne (fun vs e=>?_) x a
 have:=hn _ b
 cases h:ys[i]<;>rw [h] at e this<;>first | (cases this;done) | (cases e;done)
theorem Zfz {ux:Nat→Value} {ys:List AV} {sz:Nat} (hz:0<sz) (hu:∀ i (hi:i<ys.length),(ux i).cells.size=sz∧R w0 M w (ux i) ys[i]) (hs:∀ y∈ys,y.cells.length=sz) {j:Nat} {v:Value} {x:AV} (hv:(flat ux ys.length)[j]? = some v) (hx:(ys.flatMap fun y=>y.pub.cells)[j]? = some x):R w0 M w v x:=by
 have f:j<ys.length*sz:=by rw [←MO hs];exact (Ag.1 hx).1
 have hi:j / sz<ys.length:=(Nat.div_lt_iff_lt_mul hz).2 f
 have c:=Nat.mod_lt j hz
 have e:j / sz*sz+j % sz=j:=by rw [Nat.mul_comm];exact Nat.div_add_mod j sz
 have b:=JI (us:=ux) (sz:=sz) (fun i hi=>(hu i hi).1) (j / sz) hi (j % sz) c
 have a:=Zc7 ys hs (j / sz) _ (List.getElem?_eq_getElem hi) (j % sz) c
 rw [e] at b a
 rw [hv] at b
 rw [hx] at a
 obtain ⟨_,l⟩:=((hu _ hi).2).pub.cells
 obtain ⟨k,d⟩:=Array.getElem?_eq_some_iff.1 b.symm
 obtain ⟨g,h⟩:=Ag.1 a.symm
 rw [←d,←h]
 exact l _ k g
theorem WO (h:Rel w0 n M e st a w) (s x:Operand) (t ty:TypeId) (hs:AP e true s) (hx:AP e true x) (hob:(BA P st t (Ar e s) (Ar e x)).1) :
  Yields' P w0 M (BA P st t (Ar e s) (Ar e x)).2.2 (BA P st t (Ar e s) (Ar e x)).2.1 w (do pure (.value (← Builtin.append_ #[t,t] ty #[a.eval s,a.eval x]))):=by
 have hRs:=Bh h hs
 have hRx:=Bh h hx
 generalize Ar e s=S at hRs hob ⊢
 generalize Ar e x=X at hRx hob ⊢
 generalize a.eval s=vs at hRs ⊢
 generalize a.eval x=vx at hRx ⊢
 unfold BA at hob ⊢
 cases he:Kq P t with
 | none=>simp [he] at hob
 | some p =>
  obtain ⟨el,sz,ag,bm⟩:=p
  simp only [he] at hob ⊢
  obtain ⟨f,hu,m,a1,ba⟩:=Hh he
  have r:f.size=sz:=by
   obtain ⟨i',d,h1,h2,_⟩:=MF ba
   rw [m] at h1;cases h1;exact h2
  cases S with
  | list xs o =>
   cases o with
   | none=>exact hob.elim
   | full =>
   simp only at hob ⊢
   by_cases hl0:(AY X).length=0
   ·rw [Ae hl0] at hob ⊢
    obtain ⟨lx,K⟩:=hob
    obtain ⟨ys,o',rfl⟩:=Ih lx
    simp only [AY] at hl0
    have:ys=[]:=List.length_eq_zero_iff.1 hl0
    subst this
    refine .here h.st (v:=vs) ?_ hRs
    have bi:(Builtin.lenOf vx).run P w = .ok 0 w∧(Builtin.firstCells sz 0 vx).run P w = .ok #[] w:=by
     cases hRx with
     | nil _=>exact ⟨rfl,rfl⟩
     | emp _=>exact ⟨rfl,by simp [Builtin.firstCells,loadCells,loadCellsFrom]⟩
     | list=>exact ⟨rfl,by simp [Builtin.firstCells,loadCells,loadCellsFrom]⟩
    obtain ⟨bd,bc⟩:=bi
    have a6:∀ (ad:Option Addr) (ln cap:Nat),ln≤cap→(Builtin.append_ #[t,t] ty #[.slice ad ln cap,vx]).run P w = .ok (.slice ad ln cap) w:=fun ad ln cap Z=>by
     cases ad with
     | none=>simp [Builtin.append_,run_underlying hu,sizeOf,typeInfo,m,r,bd,bc,Z]
     | some ad=>simp [Builtin.append_,run_underlying hu,sizeOf,typeInfo,m,r,bd,bc,Z,storeCells]
    cases hRs with
    | nil _=>exact a6 none 0 0 (Nat.le_refl _)
    | emp _=>exact a6 _ 0 0 (Nat.le_refl _)
    | list sz us hc=>exact a6 _ _ _ hc
   rw [Af hl0] at hob ⊢
   obtain ⟨lx,⟨K,hz,G,a0,cx⟩,cs⟩:=hob
   obtain ⟨ys,o',rfl⟩:=Ih lx
   simp only [AY] at *
   have hpos:0<ys.length:=by omega
   obtain ⟨z,ar⟩:=Option.isSome_iff_exists.1 hz
   obtain ⟨i',v,hi',hv,hc,aa,rfl⟩:=Ge ar
   rw [m] at hi';cases hi'
   obtain ⟨us,u1,u2⟩:=hRs.list_open cs
   obtain ⟨ux,x1,x2⟩:=hRx.list_open (fun y hy=>(cx y hy).1)
   have ak:∀ i,i<xs.length→(us i).cells.size=sz:=fun i m=>(u1 i m).1
   have g:∀ i,i<ys.length→(ux i).cells.size=sz:=fun i m=>(x1 i m).1
   rcases x2 with ⟨_,q,_⟩ | ⟨bx,ox,cx',_,rfl,_,_,_,hcx⟩
   ·subst q;exact absurd hpos (by simp)
   have J:=Gy (w:=w) g K hcx
   have O:xs.length+ys.length≤maxLen:=by simp [maxLen];omega
   have F:∀ (Q:Nat) (zs:List Value) (cells:Array Value),cells.toList=flat us xs.length++flat ux ys.length++zs→zs.length=(grownCap w (xs.length+ys.length) Q el-(xs.length+ys.length))*sz →
     (Builtin.append_ #[t,t] ty #[vs,.slice (some ⟨bx,ox,none⟩) ys.length cx']).run P w = .ok (.slice (some ⟨w.heap.size,0,none⟩) (xs.length+ys.length) (grownCap w (xs.length+ys.length) Q el)) (w.drew.alloc (.cells cells el)) →
     Yields' P w0 M { st with rows:=st.rows++[.grow (xs.length+ys.length) sz] } (.list (xs++ys.map AV.pub) (.row st.rows.length)) w (do pure (.value (← Builtin.append_ #[t,t] ty #[vs,.slice (some ⟨bx,ox,none⟩) ys.length cx']))):=by
    intro Q zs cells E a5 hrun
    obtain ⟨d1,d2⟩:=h.st.drew
    have ae:=grownCap_ge w (xs.length+ys.length) Q el
    have Z:=grownCap_le_maxLen w (xs.length+ys.length) Q el O
    have H:cells.size=grownCap w (xs.length+ys.length) Q el*sz:=by
     have:cells.size=cells.toList.length:=by simp
     rw [this,E]
     simp only [List.length_append,AW ak,AW g,a5]
     rw [←Nat.add_mul,←Nat.add_mul]
     congr 1
     omega
    obtain ⟨r1,r2⟩:=d1.addRow (cs:=cells) (ty:=el) (sz:=sz) Z ae H
    have ah:=ZT (w0:=w0) d2 u1 x1
    have D:(xs++ys.map AV.pub).length=xs.length+ys.length:=by simp
    have Y:=R.row (w0:=w0) (M:=M) (w:=w.drew) (us:=XF us ux xs.length) (xs:=xs++ys.map AV.pub) (cs:=cells) (ty:=el) (sz:=sz) (k:=(xs.length+ys.length)*sz) (cap:=grownCap w (xs.length+ys.length) Q el) (o := .row st.rows.length) ah
     (fun i m j hj=>by
      rw [D] at m
      rw [←Array.getElem?_toList,E]
      exact Y6 ak g zs i m j hj) (by rw [D];exact ae) Z (by rw [D];exact Nat.le_refl _) (M.addRow w.drew.heap.size (grownCap w (xs.length+ys.length) Q el) (xs.length+ys.length) sz ((xs.length+ys.length)*sz)) (by simp [Mem.addRow]) r2
     (by
      have hN:=h.st.NR
      refine ⟨by simp [Mem.addRow,hN],by rw [D];simp [Mem.addRow,hN],fun _=>by simp [Mem.addRow,hN]⟩)
    rw [D] at Y
    exact .value ⟨_,_,_,hrun,d2.trans r2,r1,Y⟩
   have ab:(flat ux ys.length).length=ys.length*f.size:=by rw [AW g,r]
   have ai:(xs.length+ys.length)*f.bytes≤140737488355328:=by rw [a1];exact G
   rcases u2 with ⟨rfl | ⟨ad,rfl⟩,q,_⟩ | ⟨bs,os,cps,sz',rfl,_,_,ho,hcs'⟩
   ·subst q
    simp only [List.length_nil,Nat.zero_add] at *
    have hrun:=run_append_nil (P:=P) w t ty el f v hu m hv ⟨bx,ox,none⟩ ys.length cx' (flat ux ys.length) ab J hpos (by omega) (by omega)
    refine F 0 (Builtin.zeroCells v.cells (grownCap w ys.length 0 el-ys.length)).toList _ ?_ ?_ hrun
    ·simp [flat]
    ·simp only [Array.length_toList,size_zeroCells,aa,r]
   ·subst q
    simp only [List.length_nil,Nat.zero_add] at *
    have hrun:=run_append_grow (P:=P) w t ty el f v hu m hv ad 0 0 [] (by simp) (fun j u hu=>by simp at hu) ⟨bx,ox,none⟩ ys.length cx' (flat ux ys.length) ab J (by omega) (by rw [Nat.zero_add];omega) (growslice_fits (by omega) (by rw [Nat.zero_add];exact ai))
    simp only [Nat.zero_add] at hrun
    refine F 0 (Builtin.zeroCells v.cells (grownCap w ys.length 0 el-ys.length)).toList _ ?_ ?_ hrun
    ·simp [flat]
    ·simp only [Array.length_toList,size_zeroCells,aa,r]
   ·have hcap:xs.length=cps:=ho
    have ap:=Gy (w:=w) ak K hcs'
    have av:(flat us xs.length).length=xs.length*f.size:=by rw [AW ak,r]
    have hrun:=run_append_grow (P:=P) w t ty el f v hu m hv ⟨bs,os,none⟩ xs.length cps (flat us xs.length) av ap ⟨bx,ox,none⟩ ys.length cx' (flat ux ys.length) ab J (by omega) (by omega) (growslice_fits (by omega) ai)
    refine F cps (Builtin.zeroCells v.cells (grownCap w (xs.length+ys.length) cps el-(xs.length+ys.length))).toList _ ?_ ?_ hrun
    ·simp
    ·simp only [Array.length_toList,size_zeroCells,aa,r]
   | seed =>
   simp only at hob ⊢
   obtain ⟨lx,⟨K,hz,G,a0,cx⟩,be,hpos⟩:=hob
   obtain ⟨ys,o',rfl⟩:=Ih lx
   have:xs=[]:=List.length_eq_zero_iff.1 be
   subst this
   simp only [AY,Nat.zero_add] at *
   obtain ⟨z,ar⟩:=Option.isSome_iff_exists.1 hz
   obtain ⟨i',v,hi',hv,hc,aa,rfl⟩:=Ge ar
   rw [m] at hi';cases hi'
   obtain ⟨ux,x1,x2⟩:=hRx.list_open (fun y hy=>(cx y hy).1)
   have g:∀ i,i<ys.length→(ux i).cells.size=sz:=fun i m=>(x1 i m).1
   rcases x2 with ⟨_,q,_⟩ | ⟨bx,ox,cx',_,rfl,_,_,_,hcx⟩
   ·subst q;exact absurd hpos (by simp)
   have J:=Gy (w:=w) g K hcx
   have O:ys.length≤maxLen:=by simp [maxLen];omega
   have ab:(flat ux ys.length).length=ys.length*f.size:=by rw [AW g,r]
   have ai:ys.length*f.bytes≤140737488355328:=by rw [a1];exact G
   have F:∀ (Q:Nat) (zs:List Value) (cells:Array Value),cells.toList=flat ux ys.length++zs→zs.length=(grownCap w ys.length Q el-ys.length)*sz →
     (Builtin.append_ #[t,t] ty #[vs,.slice (some ⟨bx,ox,none⟩) ys.length cx']).run P w = .ok (.slice (some ⟨w.heap.size,0,none⟩) ys.length (grownCap w ys.length Q el)) (w.drew.alloc (.cells cells el)) →
     Yields' P w0 M { st with rows:=st.rows++[.vec 0 sz (ys.flatMap fun y=>y.pub.cells)] } (.vec st.rows.length 0 0 ys.length) w (do pure (.value (← Builtin.append_ #[t,t] ty #[vs,.slice (some ⟨bx,ox,none⟩) ys.length cx']))):=by
    intro Q zs cells E a5 hrun
    obtain ⟨d1,d2⟩:=h.st.drew
    have ae:=grownCap_ge w ys.length Q el
    have Z:=grownCap_le_maxLen w ys.length Q el O
    have H:cells.size=grownCap w ys.length Q el*sz:=by
     have:cells.size=cells.toList.length:=by simp
     rw [this,E]
     simp only [List.length_append,AW g,a5]
     rw [←Nat.add_mul]
     congr 1
     omega
    have a2:=MO (fun y hy=>(cx y hy).1)
    obtain ⟨r1,r2⟩:=d1.addVec (cs:=cells) (ty:=el) (sz:=sz) (xs:=ys.flatMap fun y=>y.pub.cells) Z K H (by rw [H,a2];exact Nat.mul_le_mul_right _ ae) (Xb (fun i m=>((x1 i m).2).mono d2) (fun y hy=>(cx y hy).2))
     (fun i v x ao aj=>by
      have a7:i<ys.length*sz:=by rw [←a2];exact (Ag.1 aj).1
      rw [←Array.getElem?_toList,E,List.getElem?_append_left (by rw [AW g];exact a7)] at ao
      exact (Zfz K x1 (fun y hy=>(cx y hy).1) ao aj).mono d2)
    refine .value ⟨_,_,_,hrun,d2.trans r2,r1,?_⟩
    have hN:=h.st.NR
    refine .vec (by simp [Mem.addRow,hN]) (Nat.zero_le _) fun _=>⟨by simp [Mem.addRow,hN],by simp [Mem.addRow,hN],ae⟩
   (cases hRs with
   | nil ho =>
    have hrun:=run_append_nil (P:=P) w t ty el f v hu m hv ⟨bx,ox,none⟩ ys.length cx' (flat ux ys.length) ab J hpos (by omega) (by omega)
    refine F 0 (Builtin.zeroCells v.cells (grownCap w ys.length 0 el-ys.length)).toList _ ?_ ?_ hrun
    ·simp
    ·simp only [Array.length_toList,size_zeroCells,aa,r]
   | @emp ad _ ho =>
    have hrun:=run_append_grow (P:=P) w t ty el f v hu m hv ad 0 0 [] (by simp) (fun j u hu=>by simp at hu) ⟨bx,ox,none⟩ ys.length cx' (flat ux ys.length) ab J (by omega) (by rw [Nat.zero_add];omega) (growslice_fits (by omega) (by rw [Nat.zero_add];exact ai))
    simp only [Nat.zero_add] at hrun
    refine F 0 (Builtin.zeroCells v.cells (grownCap w ys.length 0 el-ys.length)).toList _ ?_ ?_ hrun
    ·simp
    ·simp only [Array.length_toList,size_zeroCells,aa,r]
   | @list b off cap _ _ sz' us hc' hm' hcell hu' ho =>
    have hcap:(0:Nat)=cap:=ho
    subst hcap
    have hrun:=run_append_grow (P:=P) w t ty el f v hu m hv ⟨b,off,none⟩ 0 0 [] (by simp) (fun j u hu=>by simp at hu) ⟨bx,ox,none⟩ ys.length cx' (flat ux ys.length) ab J (by omega) (by rw [Nat.zero_add];omega) (growslice_fits (by omega) (by rw [Nat.zero_add];exact ai))
    simp only [Nat.zero_add] at hrun
    refine F 0 (Builtin.zeroCells v.cells (grownCap w ys.length 0 el-ys.length)).toList _ ?_ ?_ hrun
    ·simp
    ·simp only [Array.length_toList,size_zeroCells,aa,r])
   | row id =>
   simp only at hob ⊢
   obtain ⟨lx,⟨K,hz,G,a0,cx⟩,cs,am⟩:=hob
   obtain ⟨ys,o',rfl⟩:=Ih lx
   simp only [AY] at *
   obtain ⟨z,ar⟩:=Option.isSome_iff_exists.1 hz
   obtain ⟨i',v,hi',hv,hc,aa,rfl⟩:=Ge ar
   rw [m] at hi';cases hi'
   obtain ⟨us,u1,u2⟩:=hRs.list_open cs
   obtain ⟨ux,x1,x2⟩:=hRx.list_open (fun y hy=>(cx y hy).1)
   have ak:∀ i,i<xs.length→(us i).cells.size=sz:=fun i m=>(u1 i m).1
   have g:∀ i,i<ys.length→(ux i).cells.size=sz:=fun i m=>(x1 i m).1
   have U:id<M.NR:=by rw [h.st.NR];exact (Ag.1 am).1
   obtain ⟨f1,f2,f3,f4,f5,f6,f7,cur,te,f8,f9⟩:=h.st.row id _ am
   rcases u2 with ⟨_,_,q⟩ | ⟨bs,os,cps,sz',rfl,_,_,ho,hcs'⟩
   ·exact absurd rfl (q id)
   obtain ⟨_,_,bj⟩:=ho
   obtain ⟨e1,e2,e3,_⟩:=bj f1.symm
   subst e1;subst e2;subst e3
   have D:(xs++ys.map AV.pub).length=xs.length+ys.length:=by simp
   have bb:(Builtin.lenOf vx).run P w = .ok ys.length w:=by
    rcases x2 with ⟨rfl | ⟨_,rfl⟩,q,_⟩ | ⟨bx,ox,cx',_,rfl,_⟩
    ·subst q;rfl
    ·subst q;rfl
    ·rfl
   have ab:(flat ux ys.length).length=ys.length*f.size:=by rw [AW g,r]
   have aq:(Builtin.firstCells sz ys.length vx).run P w = .ok (flat ux ys.length).toArray w:=by
    rcases x2 with ⟨rfl | ⟨_,rfl⟩,q,_⟩ | ⟨bx,ox,cx',_,rfl,_,_,_,hcx⟩
    ·subst q;rfl
    ·subst q;simp [Builtin.firstCells,loadCells,loadCellsFrom,flat]
    ·exact run_firstCells_some w sz ys.length ⟨bx,ox,none⟩ ys.length cx' (flat ux ys.length) (AW g) (Gy (w:=w) g K hcx)
   by_cases hroom:xs.length+ys.length≤M.cap id
   ·-- there is room
    have aw:xs.length*sz+(flat ux ys.length).length≤cur.size:=by rw [AW g,f9,←Nat.add_mul];exact Nat.mul_le_mul_right _ hroom
    have hrun:=Y9 (P:=P) (w:=w) t ty el hu ba (M.blk id) xs.length (M.cap id) cur te f8 bb (flat ux ys.length) aq (Uu x1 (fun y hy=>(cx y hy).2)) hroom aw
    generalize hc':(cur.toList.take (xs.length*sz)++flat ux ys.length++cur.toList.drop (xs.length*sz+(flat ux ys.length).length)).toArray=cur' at hrun
    have au:cur'.size=cur.size:=by rw [←hc'];simp;omega
    have ax:∀ j,j<xs.length*sz→cur'[j]? = cur[j]? := by
     intro j hj
     rw [←hc',List.getElem?_toArray,List.append_assoc,List.getElem?_append_left (by simp;omega),List.getElem?_take,Ae hj,Array.getElem?_toList]
    have a8:∀ j,j<ys.length*sz→cur'[xs.length*sz+j]? = (flat ux ys.length)[j]? := by
     intro j hj
     have l2:=AW g
     rw [←hc',List.getElem?_toArray,List.append_assoc,List.getElem?_append_right (by simp;omega)]
     simp only [List.length_take,Array.length_toList]
     have e:min (xs.length*sz) cur.size=xs.length*sz:=by omega
     rw [e,show xs.length*sz+j-xs.length*sz=j from by omega,List.getElem?_append_left (by rw [l2];exact hj)]
    have C:Ext w0 M w (M.growRow id (M.blk id) (M.cap id) (xs.length+ys.length) ((xs.length+ys.length)*sz)) (w.setRow (M.blk id) cur'):=by
     refine I6 (M:=M) (M.growRow id (M.blk id) (M.cap id) (xs.length+ys.length) ((xs.length+ys.length)*sz)) rfl (fun _ _=>rfl) rfl (fun i m=>?_) (fun b=>?_) f8 f3 (fun j hj=>ax j (by rw [f4] at hj;exact hj))
     ·by_cases c:i=id
      ·subst c
       simp only [Mem.growRow,if_true,f1]
       exact ⟨by omega,fun _=>⟨trivial,trivial,trivial⟩⟩
      ·simp only [Mem.growRow,Af c]
       exact ⟨Nat.le_refl _,fun _=>⟨trivial,trivial,trivial⟩⟩
     ·simp only [Mem.growRow]
      split
      ·rename_i c
       rw [c,f4]
       exact Nat.mul_le_mul_right _ (by omega)
      ·exact Nat.le_refl _
    have az:=h.st.row_lt U
    have af:=h.st.growRow am (w':=w.setRow (M.blk id) cur') (b:=M.blk id) (cap:=M.cap id) (k:=xs.length+ys.length) f3 (Below.setRow (Below.refl _ _) f3 _) (by simp) (by simpa using az) f6 hroom
     (fun l hl=>⟨f5 l hl,setRow_other w _ _ _ (f5 l hl)⟩) (fun i m ay=>by
      have:M.blk i≠M.blk id:=fun q=>ay (h.st.rowinj i id m U q)
      exact ⟨this,setRow_other w _ _ _ this⟩) (setRow_heap w _ cur cur' te _ f8) (by rw [au];exact f9) C (KeepsObj.setRow f8 _)
    have ah:=ZT (w0:=w0) C u1 x1
    have Y:=R.list (w0:=w0) (M:=M.growRow id (M.blk id) (M.cap id) (xs.length+ys.length) ((xs.length+ys.length)*sz)) (w:=w.setRow (M.blk id) cur') (b:=M.blk id) (off:=0) (cap:=M.cap id) (xs:=xs++ys.map AV.pub) (o := .row id) sz (XF us ux xs.length) (by rw [D];exact hroom) f6
     (fun i m=>⟨(ah i m).1,fun j hj=>by
      rw [D] at m
      have q1:(i+1)*sz≤(xs.length+ys.length)*sz:=Nat.mul_le_mul_right _ m
      rw [Nat.succ_mul] at q1
      refine ⟨.inr ?_,?_⟩
      ·simp only [Mem.growRow,if_true]
       omega
      ·rw [Nat.zero_add,cell_of_row _ _ _ cur' te _ (setRow_heap w _ cur cur' te _ f8)]
       unfold XF
       by_cases c:i<xs.length
       ·have q:(i+1)*sz≤xs.length*sz:=Nat.mul_le_mul_right _ c
        rw [Nat.succ_mul] at q
        have:=hcs' i c j hj
        rw [Nat.zero_add,cell_of_row _ _ _ cur te _ f8] at this
        rw [Ae c,ax _ (by omega),this]
       ·have q:(i-xs.length+1)*sz≤ys.length*sz:=Nat.mul_le_mul_right _ (by omega)
        rw [Nat.succ_mul] at q
        have e:i*sz=xs.length*sz+(i-xs.length)*sz:=by rw [←Nat.add_mul];congr 1;omega
        rw [Af c,show i*sz+j=xs.length*sz+((i-xs.length)*sz+j) from by omega,a8 _ (by omega)]
        exact JI g _ (by omega) j hj⟩) (fun i m=>(ah i m).2)
     (by
      rw [D]
      refine ⟨U,by simp [Mem.growRow],fun _=>⟨by simp [Mem.growRow],rfl,by simp [Mem.growRow],?_⟩⟩
      simp [Mem.growRow,f2])
    rw [D] at Y
    exact .value ⟨_,_,_,hrun,C,af,Y⟩
   ·-- a new row
    have hypos:0<ys.length:=by omega
    rcases x2 with ⟨_,q,_⟩ | ⟨bx,ox,cx',_,rfl,_,_,_,hcx⟩
    ·subst q;simp at hypos
    have J:=Gy (w:=w) g K hcx
    have ap:=Gy (w:=w) ak K hcs'
    have av:(flat us xs.length).length=xs.length*f.size:=by rw [AW ak,r]
    have ai:(xs.length+ys.length)*f.bytes≤140737488355328:=by rw [a1];exact G
    have hrun:=run_append_grow (P:=P) w t ty el f v hu m hv ⟨M.blk id,0,none⟩ xs.length (M.cap id) (flat us xs.length) av ap ⟨bx,ox,none⟩ ys.length cx' (flat ux ys.length) ab J (by omega) (by omega) (growslice_fits (by omega) ai)
    have O:xs.length+ys.length≤maxLen:=by simp [maxLen];omega
    have ae:=grownCap_ge w (xs.length+ys.length) (M.cap id) el
    have Z:=grownCap_le_maxLen w (xs.length+ys.length) (M.cap id) el O
    generalize hcl:((flat us xs.length).toArray++(flat ux ys.length).toArray++Builtin.zeroCells v.cells (grownCap w (xs.length+ys.length) (M.cap id) el-(xs.length+ys.length)))=cells at hrun
    have V:cells.toList=flat us xs.length++flat ux ys.length++(Builtin.zeroCells v.cells (grownCap w (xs.length+ys.length) (M.cap id) el-(xs.length+ys.length))).toList:=by rw [←hcl];simp
    generalize grownCap w (xs.length+ys.length) (M.cap id) el=gc at *
    have H:cells.size=gc*sz:=by
     have:cells.size=cells.toList.length:=by simp
     rw [this,V]
     simp only [List.length_append,AW ak,AW g,Array.length_toList,size_zeroCells,aa,r]
     rw [←Nat.add_mul,←Nat.add_mul]
     congr 1
     omega
    obtain ⟨d1,d2⟩:=h.st.drew
    have C:Ext w0 M w.drew (M.growRow id w.drew.heap.size gc (xs.length+ys.length) ((xs.length+ys.length)*sz)) (w.drew.alloc (.cells cells el)):=by
     refine Pz _ _ (.inl rfl) (fun _ _=>rfl) (Nat.le_refl _) (fun i m=>?_) (fun b hb=>?_)
     ·by_cases c:i=id
      ·subst c
       simp only [Mem.growRow,if_true,f1]
       exact ⟨by omega,fun q=>absurd q (by omega)⟩
      ·simp only [Mem.growRow,Af c]
       exact ⟨Nat.le_refl _,fun _=>⟨trivial,trivial,trivial⟩⟩
     ·simp only [Mem.growRow]
      rw [Af (by omega)]
      exact Nat.le_refl _
    have af:=d1.growRow am (w':=w.drew.alloc (.cells cells el)) (b:=w.drew.heap.size) (cap:=gc) (k:=xs.length+ys.length) h.st.base_le ((Below.refl _ w.drew).alloc h.st.base_le _) (by simp) (by simp) Z ae
     (fun l hl=>by have:=h.st.box_lt hl;exact ⟨fun q=>by simp at q;omega,BL _ _ this⟩) (fun i m ay=>by have:=h.st.row_lt m;exact ⟨fun q=>by simp at q;omega,BL _ _ this⟩) (heap_alloc_new w.drew _) H C (KeepsObj.alloc _ _)
    have ah:=ZT (w0:=w0) d2 u1 x1
    have Y:=R.row (w0:=w0) (M:=M) (w:=w.drew) (us:=XF us ux xs.length) (xs:=xs++ys.map AV.pub) (cs:=cells) (ty:=el) (sz:=sz) (k:=(xs.length+ys.length)*sz) (cap:=gc) (o := .row id) ah
     (fun i m j hj=>by
      rw [D] at m
      rw [←Array.getElem?_toList,V]
      exact Y6 ak g _ i m j hj) (by rw [D];exact ae) Z (by rw [D];exact Nat.le_refl _) (M.growRow id w.drew.heap.size gc (xs.length+ys.length) ((xs.length+ys.length)*sz)) (by simp [Mem.growRow]) C
     (by
      refine ⟨U,by rw [D];simp [Mem.growRow],fun _=>⟨by simp [Mem.growRow],rfl,by simp [Mem.growRow],?_⟩⟩
      simp [Mem.growRow,f2])
    rw [D] at Y
    exact .value ⟨_,_,_,hrun,d2.trans C,af,Y⟩
  | vec id ver o n' =>
   simp only at hob ⊢
   cases hvr:EW st.rows id ver with
   | none=>simp [hvr] at hob
   | some q =>
   obtain ⟨sz',cs⟩:=q
   simp only [hvr] at hob ⊢
   obtain ⟨lx,⟨K,hz,G,a0,cx⟩,rfl,rfl,bk⟩:=hob
   obtain ⟨ys,o',rfl⟩:=Ih lx
   simp only [AY] at *
   obtain ⟨z,ar⟩:=Option.isSome_iff_exists.1 hz
   obtain ⟨i',v,hi',hv,hc,aa,rfl⟩:=Ge ar
   rw [m] at hi';cases hi'
   have am:=Hv hvr
   have U:id<M.NR:=by rw [h.st.NR];exact (Ag.1 am).1
   obtain ⟨f1,f2,f3,f4,f5,f6,f7,cur,te,f8,f9,bl,bg,bf⟩:=h.st.row id _ am
   cases hRs with
   | @vec _ _ _ _ p cap hid' hver hh =>
   obtain ⟨rfl,hcap,bn⟩:=hh f1.symm
   simp only [Nat.add_zero,Nat.zero_mul] at hcap ⊢
   subst hcap
   obtain ⟨ux,x1,x2⟩:=hRx.list_open (fun y hy=>(cx y hy).1)
   have g:∀ i,i<ys.length→(ux i).cells.size=sz':=fun i m=>(x1 i m).1
   have bb:(Builtin.lenOf vx).run P w = .ok ys.length w:=by
    rcases x2 with ⟨rfl | ⟨_,rfl⟩,q,_⟩ | ⟨bx,ox,cx',_,rfl,_⟩
    ·subst q;rfl
    ·subst q;rfl
    ·rfl
   have ab:(flat ux ys.length).length=ys.length*f.size:=by rw [AW g,r]
   have aq:(Builtin.firstCells sz' ys.length vx).run P w = .ok (flat ux ys.length).toArray w:=by
    rcases x2 with ⟨rfl | ⟨_,rfl⟩,q,_⟩ | ⟨bx,ox,cx',_,rfl,_,_,_,hcx⟩
    ·subst q;rfl
    ·subst q;simp [Builtin.firstCells,loadCells,loadCellsFrom,flat]
    ·exact run_firstCells_some w sz' ys.length ⟨bx,ox,none⟩ ys.length cx' (flat ux ys.length) (AW g) (Gy (w:=w) g K hcx)
   have a2:=MO (fun y hy=>(cx y hy).1)
   have a9:=Xb (fun i m=>(x1 i m).2) (fun y hy=>(cx y hy).2)
   have hcl:(cs.take (n'*sz')++ys.flatMap fun y=>y.pub.cells).length=(n'+ys.length)*sz':=by
    rw [List.length_append,a2,List.length_take,Nat.add_mul];omega
   have a4:∀ x∈cs.take (n'*sz')++ys.flatMap (fun y=>y.pub.cells),x.one=true:=by
    intro x hx
    rcases List.mem_append.1 hx with hx | hx
    ·exact bg x (List.mem_of_mem_take hx)
    ·exact a9 x hx
   -- what the new cells stand for,in whatever block they lie
   have E:∀ (cells:Array Value) (zs:List Value),cells.toList=cur.toList.take (n'*sz')++flat ux ys.length++zs→∀ (i:Nat) (v:Value) (x:AV),cells[i]? = some v→(cs.take (n'*sz')++ys.flatMap fun y=>y.pub.cells)[i]? = some x→R w0 M w v x:=by
    intro cells zs hcl' i v x ao aj
    have a7:i<(n'+ys.length)*sz':=by rw [←hcl];exact (Ag.1 aj).1
    rw [Nat.add_mul] at a7
    have bh:(cur.toList.take (n'*sz')).length=n'*sz':=by simp;omega
    rw [←Array.getElem?_toList,hcl',List.append_assoc] at ao
    by_cases q:i<n'*sz'
    ·rw [List.getElem?_append_left (by omega),List.getElem?_take,Ae q,Array.getElem?_toList] at ao
     rw [List.getElem?_append_left (by simp;omega),List.getElem?_take,Ae q] at aj
     obtain ⟨q1,rfl⟩:=Array.getElem?_eq_some_iff.1 ao
     obtain ⟨q2,rfl⟩:=Ag.1 aj
     exact bf i q1 q2
    ·rw [List.getElem?_append_right (by omega),bh,List.getElem?_append_left (by rw [AW g];omega)] at ao
     rw [List.getElem?_append_right (by simp;omega)] at aj
     have e:(cs.take (n'*sz')).length=n'*sz':=by simp;omega
     rw [e] at aj
     exact Zfz K x1 (fun y hy=>(cx y hy).1) ao aj
   by_cases hroom:n'+ys.length≤M.cap id
   ·-- there is room
    have aw:n'*sz'+(flat ux ys.length).length≤cur.size:=by rw [AW g,f9,←Nat.add_mul];exact Nat.mul_le_mul_right _ hroom
    have hrun:=Y9 (P:=P) (w:=w) t ty el hu ba (M.blk id) n' (M.cap id) cur te f8 bb (flat ux ys.length) aq (Uu x1 (fun y hy=>(cx y hy).2)) hroom aw
    generalize hc':(cur.toList.take (n'*sz')++flat ux ys.length++cur.toList.drop (n'*sz'+(flat ux ys.length).length)).toArray=cur' at hrun
    have au:cur'.size=cur.size:=by rw [←hc'];simp;omega
    have C:Ext w0 M w (M.growRow id (M.blk id) (M.cap id) (ver+1) 0) (w.setRow (M.blk id) cur'):=by
     refine I6 (M:=M) (M.growRow id (M.blk id) (M.cap id) (ver+1) 0) rfl (fun _ _=>rfl) rfl (fun i m=>?_) (fun b=>?_) f8 f3 (fun j hj=>by rw [f4] at hj;omega)
     ·by_cases c:i=id
      ·subst c
       simp only [Mem.growRow,if_true,f1]
       exact ⟨by omega,fun q=>absurd q (by omega)⟩
      ·simp only [Mem.growRow,Af c]
       exact ⟨Nat.le_refl _,fun _=>⟨trivial,trivial,trivial⟩⟩
     ·simp only [Mem.growRow]
      split
      ·rename_i c
       rw [c,f4]
       exact Nat.le_refl _
      ·exact Nat.le_refl _
    have az:=h.st.row_lt U
    have q:(M.growRow id (M.blk id) (M.cap id) (ver+1) 0).fr id=ver+1∧(M.growRow id (M.blk id) (M.cap id) (ver+1) 0).blk id=M.blk id∧(M.growRow id (M.blk id) (M.cap id) (ver+1) 0).cap id=M.cap id∧(M.growRow id (M.blk id) (M.cap id) (ver+1) 0).rsz id=M.rsz id∧(M.growRow id (M.blk id) (M.cap id) (ver+1) 0).top (M.blk id)=0:=by simp [Mem.growRow]
    obtain ⟨q1,q2,q3,q4,q5⟩:=q
    have af:=h.st.growRow' am (x := .vec (ver+1) sz' (cs.take (n'*sz')++ys.flatMap fun y=>y.pub.cells)) (w':=w.setRow (M.blk id) cur') (b:=M.blk id) (cap:=M.cap id) (k:=ver+1) (tp:=0) (Below.setRow (Below.refl _ _) f3 _) (by simp) (by simpa using az)
     (fun l hl=>⟨f5 l hl,setRow_other w _ _ _ (f5 l hl)⟩) (fun i m ay=>by
      have:M.blk i≠M.blk id:=fun q=>ay (h.st.rowinj i id m U q)
      exact ⟨this,setRow_other w _ _ _ this⟩) (by
      simp only [RowOk,q1,q2,q3,q4,q5]
      exact ⟨trivial,f2,f3,trivial,f5,f6,K,cur',te,setRow_heap w _ cur cur' te _ f8,au.trans f9,by rw [hcl,au,f9];exact Nat.mul_le_mul_right _ hroom,a4,
       fun i a b=>(E cur' _ (by rw [←hc']) i _ _ (Array.getElem?_eq_getElem a) (List.getElem?_eq_getElem b)).mono C⟩) C (KeepsObj.setRow f8 _)
    exact .value ⟨_,_,_,hrun,C,af,.vec U (by rw [q1];exact Nat.le_refl _) fun _=>⟨by rw [q2];simp,by rw [q3];rfl,hroom⟩⟩
   ·-- a new block
    have hypos:0<ys.length:=by omega
    rcases x2 with ⟨_,q,_⟩ | ⟨bx,ox,cx',_,rfl,_,_,_,hcx⟩
    ·subst q;simp at hypos
    have J:=Gy (w:=w) g K hcx
    have ai:(n'+ys.length)*f.bytes≤140737488355328:=by rw [a1];exact G
    have ap:∀ (j:Nat) (u:Value),(cur.toList.take (n'*sz'))[j]? = some u→w.cell? ((⟨M.blk id,0,none⟩:Addr).add j)=some u:=by
     intro j u hj
     rw [List.getElem?_take] at hj
     split at hj
     ·rw [E4,Nat.zero_add,cell_of_row w _ j cur te _ f8,←Array.getElem?_toList];exact hj
     ·cases hj
    have av:(cur.toList.take (n'*sz')).length=n'*f.size:=by simp;rw [r];omega
    have hrun:=run_append_grow (P:=P) w t ty el f v hu m hv ⟨M.blk id,0,none⟩ n' (M.cap id) (cur.toList.take (n'*sz')) av ap ⟨bx,ox,none⟩ ys.length cx' (flat ux ys.length) ab J (by omega) (by omega) (growslice_fits (by omega) ai)
    have O:n'+ys.length≤maxLen:=by simp [maxLen];omega
    have ae:=grownCap_ge w (n'+ys.length) (M.cap id) el
    have Z:=grownCap_le_maxLen w (n'+ys.length) (M.cap id) el O
    generalize hcl':((cur.toList.take (n'*sz')).toArray++(flat ux ys.length).toArray++Builtin.zeroCells v.cells (grownCap w (n'+ys.length) (M.cap id) el-(n'+ys.length)))=cells at hrun
    have V:cells.toList=cur.toList.take (n'*sz')++flat ux ys.length++(Builtin.zeroCells v.cells (grownCap w (n'+ys.length) (M.cap id) el-(n'+ys.length))).toList:=by rw [←hcl'];simp
    generalize grownCap w (n'+ys.length) (M.cap id) el=gc at *
    have H:cells.size=gc*sz':=by
     have:cells.size=cells.toList.length:=by simp
     rw [this,V]
     simp only [List.length_append,av,AW g,Array.length_toList,size_zeroCells,aa,r]
     rw [←Nat.add_mul,←Nat.add_mul]
     congr 1
     omega
    obtain ⟨d1,d2⟩:=h.st.drew
    have C:Ext w0 M w.drew (M.growRow id w.drew.heap.size gc (ver+1) 0) (w.drew.alloc (.cells cells el)):=by
     refine Pz _ _ (.inl rfl) (fun _ _=>rfl) (Nat.le_refl _) (fun i m=>?_) (fun b hb=>?_)
     ·by_cases c:i=id
      ·subst c
       simp only [Mem.growRow,if_true,f1]
       exact ⟨by omega,fun q=>absurd q (by omega)⟩
      ·simp only [Mem.growRow,Af c]
       exact ⟨Nat.le_refl _,fun _=>⟨trivial,trivial,trivial⟩⟩
     ·simp only [Mem.growRow]
      rw [Af (by omega)]
      exact Nat.le_refl _
    have q:(M.growRow id w.drew.heap.size gc (ver+1) 0).fr id=ver+1∧(M.growRow id w.drew.heap.size gc (ver+1) 0).blk id=w.drew.heap.size∧(M.growRow id w.drew.heap.size gc (ver+1) 0).cap id=gc∧(M.growRow id w.drew.heap.size gc (ver+1) 0).rsz id=M.rsz id∧(M.growRow id w.drew.heap.size gc (ver+1) 0).top w.drew.heap.size=0:=by simp [Mem.growRow]
    obtain ⟨q1,q2,q3,q4,q5⟩:=q
    have a3:∀ l,l<M.N→M.bx l≠w.drew.heap.size:=fun l hl=>by have:=h.st.box_lt hl;intro q;simp at q;omega
    have af:=d1.growRow' am (x := .vec (ver+1) sz' (cs.take (n'*sz')++ys.flatMap fun y=>y.pub.cells)) (w':=w.drew.alloc (.cells cells el)) (b:=w.drew.heap.size) (cap:=gc) (k:=ver+1) (tp:=0) ((Below.refl _ w.drew).alloc h.st.base_le _) (by simp) (by simp)
     (fun l hl=>by have:=h.st.box_lt hl;exact ⟨a3 l hl,BL _ _ this⟩) (fun i m ay=>by have:=h.st.row_lt m;exact ⟨fun q=>by simp at q;omega,BL _ _ this⟩) (by
      simp only [RowOk,q1,q2,q3,q4,q5]
      exact ⟨trivial,f2,h.st.base_le,trivial,a3,Z,K,cells,el,heap_alloc_new w.drew _,H,by rw [hcl,H];exact Nat.mul_le_mul_right _ ae,a4,
       fun i a b=>((E cells _ V i _ _ (Array.getElem?_eq_getElem a) (List.getElem?_eq_getElem b)).mono d2).mono C⟩) C (KeepsObj.alloc _ _)
    exact .value ⟨_,_,_,hrun,d2.trans C,af,.vec U (by rw [q1];exact Nat.le_refl _) fun _=>⟨by rw [q2];simp,by rw [q3];rfl,ae⟩⟩
  | _=>exact hob.elim
theorem Yields'.congr {s s':Sem Next} {st':St} {r:AV} (h:Yields' P w0 M st' r w s) (e:s'.run P w=s.run P w):Yields' P w0 M st' r w s':=by
 obtain ⟨v,c,M',b,a⟩:=h
 exact ⟨v,c,M',by rw [e];exact b,a⟩
theorem LG (b:Builtin) (args:Array Operand) (ts:Array TypeId) (dst:Option Tmp) (type:TypeId) (pos:String) (after:Array Edge) (guard:Option (Nat × Bool)) (s:Sem Value)
  (hb:∀ cs,builtin b ts type cs (args.map a.eval)=(do pure (.value (← s)):Sem Next)) :
  (execOp a.eval ⟨dst,.call ⟨.builtin b,args,ts⟩,type,pos,after,guard⟩).run P w=((do pure (.value (← s)):Sem Next)).run P w:=by
 simp only [execOp,resolve,invoke,Sem.run_bind,Sem.run_pure,Result.andThen_ok]
 rw [hb]
 simp
theorem SO {t:TypeId} (h:I9 P t=true):∃ el,P.underlying t=some (.slice el)∧P.underlying el=some (.int .u8)∧IW P el=some (1,false):=by
 unfold I9 at h
 split at h
 ·rename_i el h1
  simp only [Bool.and_eq_true] at h
  obtain ⟨h2,h3⟩:=h
  refine ⟨el,h1,?_,?_⟩
  ·split at h2
   ·assumption
   ·cases h2
  ·split at h3
   ·assumption
   ·cases h3
 ·cases h
theorem Zv (r:Int):(Utf8.encode r).size≤4:=by
 unfold Utf8.encode
 dsimp only
 (repeat' split)<;>simp [ByteArray.size]
theorem Z5 (h:Rel w0 n M e st a w) (s d:TypeId) (x:Operand) (hob:(Be P e true st (.convert s d x)).1) :
  Yields' P w0 M (Be P e true st (.convert s d x)).2.2 (Be P e true st (.convert s d x)).2.1 w (do pure (.value (← convert s d (a.eval x)))):=by
 unfold Be at hob ⊢
 cases hs:NH P s with
 | some k1 =>
  cases hd:NH P d with
  | some k =>
   simp only [hs,hd] at hob ⊢
   obtain ⟨t,hi,Z⟩:=hob
   obtain ⟨ex,_⟩:=(Bh h t).int hi
   rw [ex]
   refine .here h.st (v := .int k (AO (Ar e x))) ?_ (.flat rfl)
   simp [convert,run_underlying (RZ hs),run_underlying (RZ hd),Conv.intToInt,MB Z]
  | none =>
   simp only [hs,hd] at hob ⊢
   obtain ⟨t,hi,N⟩:=hob
   obtain ⟨ex,_⟩:=(Bh h t).int hi
   rw [ex]
   exact .here h.st (run_convert_int_string w s d _ _ (by rw [RZ hs];rfl) (FM N)) (.flat (Ad (Nat.le_trans (Zv _) (by decide))))
 | none =>
  simp only [hs] at hob ⊢
  by_cases z:(EL P s&&EL P d)=true
  ·simp only [z,if_true] at hob ⊢
   simp only [Bool.and_eq_true] at z
   obtain ⟨t,hi⟩:=hob
   have hR:=Bh h t
   refine .here h.st (v:=a.eval x) ?_ hR
   obtain ⟨q,hq⟩:∃ q,Ar e x = .val (.string q):=by
    cases hv:Ar e x<;>rw [hv] at hi<;>try cases hi
    rename_i v
    cases v<;>first | exact ⟨_,rfl⟩ | cases hi
   rw [hq] at hR
   obtain ⟨ev,_⟩:=hR.val_inv
   rw [ev]
   simp [convert,run_underlying (FM z.1),run_underlying (FM z.2)]
  ·simp only [z,if_false,Bool.false_eq_true] at hob ⊢
   by_cases hc2:(I9 P s&&EL P d)=true
   ·simp only [hc2,if_true] at hob ⊢
    simp only [Bool.and_eq_true] at hc2
    obtain ⟨m,H,G,aa⟩:=SO hc2.1
    split at hob
    ·rename_i id ver o n' hx0
     cases hvr:EW st.rows id ver with
     | none=>simp [hvr] at hob
     | some q =>
     obtain ⟨ae,cs⟩:=q
     simp only [hvr] at hob ⊢
     obtain ⟨t,rfl,ah,c,g⟩:=hob
     have hR:=Bh h t
     rw [hx0] at hR
     obtain ⟨f1,f2,f3,f4,f5,f6,f7,J,te,f8,f9,aj,ag,af⟩:=h.st.row id _ (Hv hvr)
     obtain ⟨v,hev⟩:∃ v,a.eval x=v:=⟨_,rfl⟩
     rw [hev] at hR ⊢
     cases hR with
     | @vec _ _ _ _ p cap hid hver hh =>
     obtain ⟨rfl,C,ai⟩:=hh f1.symm
     have hl:((cs.drop o).take n').length=n':=by simp;omega
     have f:(G3 ((cs.drop o).take n')).size=n':=by simp [G3,ByteArray.size];omega
     have r:IB (.string (G3 ((cs.drop o).take n')))=true:=by simp [IB,maxLen,f];exact c
     have:=run_convert_bytes_back (P:=P) w s d m ⟨M.blk id,o*M.rsz id,none⟩ cap (((cs.drop o).take n').map fun x=>UInt8.ofNat (AO x).toNat) H G (FM hc2.2) (fun j F=>by
      have E:j<n':=by rw [List.length_map,hl] at F;exact F
      have Q:((cs.drop o).take n')[j]'(by omega)=cs[o+j]'(by omega):=by simp
      have hq:=g _ (List.getElem_mem (l:=(cs.drop o).take n') (n:=j) (by omega))
      rw [Q] at hq
      have hr:=af (o+j) (by omega) (by omega)
      rw [E4,f2,Nat.mul_one,cell_of_row w _ (o+j) J te _ f8,Array.getElem?_eq_getElem (show o+j<J.size by omega)]
      simp only [List.getElem_map,Q]
      generalize cs[o+j]'(by omega)=y at hq hr
      cases y with
      | val u =>
       cases u<;>try exact hq.elim
       rename_i k n
       cases k<;>try exact hq.elim
       obtain ⟨n0,n1⟩:0≤n∧n≤255:=hq
       rw [hr.val_inv.1]
       simp only [AO]
       have:(UInt8.ofNat n.toNat).toNat=n.toNat:=by simp;omega
       rw [this]
       simp
       omega
      | _=>exact hq.elim)
     rw [List.length_map,hl] at this
     exact .here h.st (v := .string (G3 ((cs.drop o).take n'))) this (.flat r)
    rename_i hx0
    obtain ⟨t,hi,c,g⟩:=hob
    have hR:=Bh h t
    obtain ⟨xs,o,U⟩:=Ih hi
    rw [U] at hR c g ⊢
    simp only [AY] at c g ⊢
    have ab:∀ y∈xs,y.cells.length=1:=fun y hy=>by
     have:=g y hy
     cases y<;>first | rfl | exact this.elim
    obtain ⟨us,h1,h2⟩:=hR.list_open ab
    have f:(G3 xs).size=xs.length:=by simp [G3,ByteArray.size]
    have r:IB (.string (G3 xs))=true:=by simp [IB,maxLen,f];exact c
    rcases h2 with ⟨ev | ⟨ad,ev⟩,rfl,_⟩ | ⟨b,off,cap,ae,ev,_,_,_,hcell⟩
    ·rw [ev]
     have:=run_convert_bytes_nil (P:=P) w s m H G 0 0 d (FM hc2.2)
     exact .here h.st (v := .string ByteArray.empty) this (.flat rfl)
    ·rw [ev]
     have:=run_convert_bytes_back (P:=P) w s d m ad 0 [] H G (FM hc2.2) (fun j F=>absurd F (by simp))
     exact .here h.st (v := .string ByteArray.empty) this (.flat rfl)
    ·rw [ev]
     have hb:∀ i (hi:i<xs.length),∃ n:Int,0≤n∧n≤255∧xs[i] = .val (.int .u8 n)∧us i = .int .u8 n:=fun i hi=>by
      have hq:=g _ (List.getElem_mem hi)
      have hr:=(h1 i hi).2
      cases hv:xs[i] with
      | val u =>
       rw [hv] at hq hr
       cases u<;>try exact hq.elim
       rename_i k n
       cases k<;>try exact hq.elim
       exact ⟨n,hq.1,hq.2,rfl,hr.val_inv.1⟩
      | _=>rw [hv] at hq;exact hq.elim
     have:=run_convert_bytes_back (P:=P) w s d m ⟨b,off,none⟩ cap (xs.map fun x=>UInt8.ofNat (AO x).toNat) H G (FM hc2.2) (fun j F=>by
      have E:j<xs.length:=by simpa using F
      obtain ⟨n,n0,n1,Q,e2⟩:=hb j E
      have z:=hcell j E 0 (by omega)
      rw [e2] at z
      simp only [Nat.mul_one,Nat.add_zero] at z
      rw [E4,z]
      simp only [List.getElem_map,Q,AO,Value.cells]
      have:(UInt8.ofNat n.toNat).toNat=n.toNat:=by simp;omega
      rw [this]
      simp
      omega)
     simp only [List.length_map] at this
     exact .here h.st (v := .string (G3 xs)) this (.flat r)
   ·simp only [hc2,if_false,Bool.false_eq_true] at hob ⊢
    by_cases hc3:(EL P s&&I9 P d)=true
    ·simp only [hc3,if_true] at hob ⊢
     simp only [Bool.and_eq_true] at hc3
     obtain ⟨m,H,G,aa⟩:=SO hc3.2
     obtain ⟨_,t,hi⟩:=hob
     have hR:=Bh h t
     obtain ⟨q,hq⟩:∃ q,Ar e x = .val (.string q):=by
      cases hv:Ar e x<;>rw [hv] at hi<;>try cases hi
      rename_i v
      cases v<;>first | exact ⟨_,rfl⟩ | cases hi
     rw [hq] at hR ⊢
     obtain ⟨ev,r⟩:=hR.val_inv
     rw [ev]
     simp only [ZcU]
     have V:q.size≤maxLen:=by simpa [IB] using r
     have K:=Lib.run_convert_string_bytes (P:=P) w s d m q (FM hc3.1) H G
     have O:Below w.heap.size w (Lib.bytesWorld w m q):=⟨rfl,rfl,rfl,by rw [Lib.bytesWorld_size];omega,fun k Z=>Lib.bytesWorld_at_old w m q k Z⟩
     obtain ⟨r1,r2⟩:=h.st.later O w.heap.size q.size (Nat.le_refl _) (.inl (by rw [Lib.bytesWorld_size];omega))
     have C:=grownCap_ge w q.size 0 m
     have D:=grownCap_le_maxLen w q.size 0 m V
     have c:(G2 q.data.toList).length=q.size:=by simp [G2]
     refine .value ⟨_,_,_,K,r2,r1,?_⟩
     have:=R.list (w0:=w0) (M:=M.newTop w.heap.size q.size) (w:=Lib.bytesWorld w m q) (b:=w.heap.size) (off:=0) (cap:=grownCap w q.size 0 m) (xs:=G2 q.data.toList) (o := .none) 1 (fun i => .int .u8 (q.data.toList.getD i 0).toNat)
      (by rw [c];exact C) D (fun i hi=>⟨rfl,fun j F=>⟨.inr (by rw [c] at hi;simp [Mem.newTop];omega),by
       rw [c] at hi
       have hj0:j=0:=by omega
       subst hj0
       simp only [Nat.mul_one,Nat.zero_add,Nat.add_zero]
       rw [Lib.bytesWorld_cell w m q i hi]
       rfl⟩⟩) (fun i hi=>by
       have Y:i<q.data.toList.length:=by rw [c] at hi;exact hi
       simp only [G2,List.getElem_map]
       rw [show q.data.toList.getD i 0=q.data.toList[i] from by simp [List.getD,List.getElem?_eq_getElem Y]]
       exact .flat rfl) trivial
     rw [c] at this
     exact this
    ·simp only [hc3] at hob
     exact hob.elim
theorem IY {z:List AV} {sz:Nat} (hz:z.length=sz):∀ (m j:Nat) (x:AV),((List.replicate m z).flatten)[j]? = some x→0<sz∧z[j % sz]? = some x
 | 0,j,x,h=>by simp at h
 | m+1,j,x,h=>by
  rw [List.replicate_succ,List.flatten_cons] at h
  by_cases c:j<z.length
  ·rw [List.getElem?_append_left c] at h
   exact ⟨by omega,by rw [Nat.mod_eq_of_lt (by omega)];exact h⟩
  ·rw [List.getElem?_append_right (by omega)] at h
   obtain ⟨b,a⟩:=IY hz m _ x h
   refine ⟨b,?_⟩
   rw [hz] at a
   rw [←a]
   congr 1
   rw [←Nat.mod_eq_sub_mod (by omega)]
theorem Xx (h:Rel w0 n M e st a w) (t:TypeId) (len cap:Operand) (hob:(Be P e true st (.makeSlice t len cap)).1) :
  Yields' P w0 M (Be P e true st (.makeSlice t len cap)).2.2 (Be P e true st (.makeSlice t len cap)).2.1 w (do pure (.value (← Instr.makeSlice t (a.eval len) (a.eval cap)))):=by
 unfold Be at hob ⊢
 cases he:Kq P t with
 | none=>simp [he] at hob
 | some p =>
 obtain ⟨el,sz,ag,ao⟩:=p
 cases hz:C5 P el with
 | none=>simp [he,hz] at hob
 | some z =>
 simp only [he,hz] at hob ⊢
 obtain ⟨_,hl,hc,il,ic,h0,h1,ab,ak,aa,C,af⟩:=hob
 obtain ⟨J,hu,r,ad,ae⟩:=Hh he
 have Q:J.size=sz:=by
  obtain ⟨i',d,h1,h2,_⟩:=MF ae
  rw [r] at h1;cases h1;exact h2
 obtain ⟨i',v,hi',hv,s,am,rfl⟩:=Ge hz
 rw [r] at hi';cases hi'
 obtain ⟨ah,_⟩:=(Bh h hl).int il
 obtain ⟨aj,_⟩:=(Bh h hc).int ic
 generalize AO (Ar e len)=l at *
 generalize AO (Ar e cap)=c at *
 obtain ⟨E,rfl⟩:=Int.eq_ofNat_of_zero_le h0
 obtain ⟨f,rfl⟩:=Int.eq_ofNat_of_zero_le (Int.le_trans h0 h1)
 have b:=run_make (P:=P) w t el J v hu r hv (J9 (Ar e len)) (J9 (Ar e cap)) E f h0 h1 (by rw [ad,Int.mul_comm];omega) (by omega)
 rw [←ah,←aj] at b
 simp only [Int.toNat_natCast,Q] at b
 have D:f≤maxLen:=by unfold maxLen;omega
 have K:=size_madeCells v.cells (f*sz)
 have g:RowR w0 M w v.cells (IX v).cells:=(Q2 s).cells
 have H:=(Q2 (w0:=w0) (M:=M) (w:=w) s).cellsOne (fun vs e=>by have:=Np s;rw [e] at this;cases this)
 by_cases hl0:(E:Int)=0
 ·rw [Ae hl0,Ae hl0]
  have:E=0:=by omega
  subst this
  obtain ⟨r1,r2⟩:=h.st.addRow (cs:=madeCells v.cells (f*sz)) (ty:=el) (k:=0) (sz:=sz) D (Nat.zero_le _) K
  refine .value ⟨_,_,_,b,r2,r1,?_⟩
  have N:=h.st.NR
  exact R.list (xs:=[]) sz (fun _=>undef) (Nat.zero_le _) D (fun i r=>absurd r (by simp)) (fun i r=>absurd r (by simp)) ⟨by simp [Mem.addRow,N],by simp [Mem.addRow,N],fun _=>by simp [Mem.addRow,N]⟩
 ·rw [Af hl0,Af hl0]
  by_cases hmk0:Jo e t=true
  case neg =>
   rw [Af hmk0,Af hmk0]
   obtain rfl:sz=1:=by
    rcases af with q | q | q
    ·exact absurd q hl0
    ·exact absurd q hmk0
    ·exact q
   have y:v.cells.size=1:=by rw [g.1,C]
   obtain ⟨u,hu0⟩:∃ u,v.cells[0]? = some u:=⟨_,Array.getElem?_eq_getElem (by omega)⟩
   have U:(IX v).cells[0]? = some (Yb (IX v).cells 0):=by
    rw [List.getElem?_eq_getElem (by omega)]
    simp [Yb,List.getD,List.getElem?_eq_getElem (show 0<(IX v).cells.length by omega)]
   have Z:R w0 M w u (Yb (IX v).cells 0):=g.get hu0 U
   have O:(Yb (IX v).cells 0).one=true:=H _ (List.mem_of_getElem? U)
   have G:u.cells = #[u]:=(Z.cells_one O).1
   obtain ⟨V,F⟩:=h.st.newTop (madeCells v.cells (f*1)) el (f*1)
   have m:(List.replicate E (Yb (IX v).cells 0)).length=E:=List.length_replicate
   have hR:=R.row (us:=fun _=>u) (xs:=List.replicate E (Yb (IX v).cells 0)) (cs:=madeCells v.cells (f*1)) (ty:=el) (sz:=1) (k:=f*1) (cap:=f) (o := .none)
    (fun i r=>⟨by rw [G];rfl,by rw [List.getElem_replicate];exact Z⟩)
    (fun i r j hj=>by
     have hi':i<E:=by rw [m] at r;exact r
     have:i*1+j<f*1:=by omega
     have h3:(madeCells v.cells (f*1))[i*1+j]? = some v.cells[(i*1+j) % v.cells.size]! := by
      simp only [madeCells,Array.getElem?_map,Array.getElem?_range,Ae this,Option.map_some]
     obtain rfl:j=0:=by omega
     rw [h3,y,Nat.mod_one,G,getElem!_pos v.cells 0 (by omega)]
     rw [Array.getElem?_eq_getElem (by omega)] at hu0
     simpa using hu0)
    (by rw [m];omega) D (by rw [m];omega) (M.newTop w.heap.size (f*1)) (by simp [Mem.newTop]) F trivial
   rw [m] at hR
   exact .value ⟨_,_,_,b,F,V,hR⟩
  rw [Ae hmk0,Ae hmk0]
  obtain ⟨r1,r2⟩:=h.st.addVec (cs:=madeCells v.cells (f*sz)) (ty:=el) (cap:=f) (sz:=sz) (xs:=(List.replicate E (IX v).cells).flatten) D aa K
   (by rw [K];simp only [List.length_flatten,List.map_replicate,List.sum_replicate_nat,C];exact Nat.mul_le_mul_right _ (by omega))
   (fun x F=>by
    obtain ⟨q,hq,F⟩:=List.mem_flatten.1 F
    rw [List.eq_of_mem_replicate hq] at F
    exact H x F)
   (fun i u x ai F=>by
    obtain ⟨_,h2⟩:=IY C E i x F
    have h3:u=v.cells[i % v.cells.size]! := by
     obtain ⟨q1,q2⟩:=Array.getElem?_eq_some_iff.1 ai
     rw [←q2];simp [madeCells]
    have y:v.cells.size=sz:=by rw [g.1,C]
    have h4:v.cells[i % sz]? = some u:=by
     have Y:i % sz<v.cells.size:=by rw [y];exact Nat.mod_lt _ aa
     rw [h3,y,getElem!_pos v.cells (i % sz) Y,Array.getElem?_eq_getElem Y]
    exact g.get h4 h2)
  refine .value ⟨_,_,_,b,r2,r1,?_⟩
  have N:=h.st.NR
  exact .vec (by simp [Mem.addRow,N]) (Nat.zero_le _) fun _=>⟨by simp [Mem.addRow,N],by simp [Mem.addRow,N],by omega⟩
theorem Zd (h:Rel w0 n M e st a w) (t:TypeId) (m:Nat) (ps:Array (Nat × Operand)) (hmk:Jo e t=true) (hob:(Be P e true st (.buildSlice t m ps)).1) :
  Yields' P w0 M (Be P e true st (.buildSlice t m ps)).2.2 (Be P e true st (.buildSlice t m ps)).2.1 w (do pure (.value (← Instr.buildSlice t m (ps.map fun (i,x)=>(i,a.eval x))))):=by
 unfold Be at hob ⊢
 cases he:Kq P t with
 | none=>simp [he] at hob
 | some p =>
  obtain ⟨el,sz,ag,ad⟩:=p
  simp only [he,hmk] at hob ⊢
  obtain ⟨_,F,hr,ab,b,hz,q,Y⟩:=hob
  obtain ⟨i,K,g,_,G⟩:=Hh he
  obtain ⟨z,U⟩:=Option.isSome_iff_exists.1 hz
  obtain ⟨i',v,l,hv,hc,hs,rfl⟩:=Ge U
  have hl:ps.toList.length=m:=by simpa using congrArg List.length hr
  have d:∀ p∈ps.toList,(a.eval p.2).cells.size=sz:=fun p N=>by
   rw [(Bh h (F p N)).cells.1]
   exact q _ (List.mem_map.2 ⟨p,N,rfl⟩)
  obtain ⟨zc,hzc⟩:∃ zc:Array Value,if m*sz=0 then zc = #[] else zc=v.cells:=by
   by_cases h0:m*sz=0
   ·exact ⟨#[],by rw [Ae h0]⟩
   ·exact ⟨v.cells,by rw [Af h0]⟩
  obtain ⟨r,a1,a2,a3,a4⟩:=Vb sz (ps.toList.map fun p=>a.eval p.2) 0 ((Array.range (m*sz)).map (zc[· % zc.size]!)) (fun u K=>by obtain ⟨p,N,rfl⟩:=List.mem_map.1 K;exact d p N) (by simp [hl])
  have hm:m≤maxLen:=by
   have:m*1≤m*sz:=Nat.mul_le_mul_left _ b
   simp [maxLen];omega
  let us:Nat→Value:=fun i=>(ps.toList.map fun p=>a.eval p.2).getD i undef
  have o:∀ i (g:i<(ps.toList.map fun p=>Ar e p.2).length),(us i).cells.size=sz∧R w0 M w (us i) (ps.toList.map fun p=>Ar e p.2)[i]:=fun i g=>by
   have l:i<ps.toList.length:=by simpa using g
   have V:i<ps.size:=by simpa using l
   have e1:us i=a.eval (ps.toList[i]).2:=by simp [us,List.getD,Array.getElem?_eq_getElem V]
   rw [e1]
   refine ⟨d _ (List.getElem_mem _),?_⟩
   simp only [List.getElem_map]
   exact Bh h (F _ (List.getElem_mem _))
  have s:(ps.toList.map fun p=>Ar e p.2).length=m:=by simp [←hl]
  have J:=MO (ys:=ps.toList.map fun p=>Ar e p.2) (sz:=sz) q
  rw [s] at J
  have c:r.size=m*sz:=by rw [a2];simp
  have C:∀ j,j<m*sz→(flat us m)[j]? = r[j]? := fun j hj=>by
   have hk:j / sz<m:=(Nat.div_lt_iff_lt_mul b).2 hj
   have H:=Nat.mod_lt j b
   have ej:j / sz*sz+j % sz=j:=by rw [Nat.mul_comm];exact Nat.div_add_mod j sz
   have f:=JI (us:=us) (m:=m) (sz:=sz) (fun i g=>(o i (by rw [s];exact g)).1) (j / sz) hk (j % sz) H
   rw [ej] at f
   have Z:j / sz<ps.toList.length:=by omega
   have O:j / sz<ps.size:=by simpa using Z
   have f2:=a4 (j / sz) (us (j / sz)) (by simp [us,List.getD,Array.getElem?_eq_getElem O]) (j % sz) H
   rw [Nat.zero_add,ej] at f2
   rw [f,f2]
  obtain ⟨D,hx⟩:=h.st.addVec (cs:=r) (ty:=el) (cap:=m) (sz:=sz) (xs:=(ps.toList.map fun p=>Ar e p.2).flatMap fun y=>y.pub.cells) hm b c (by rw [J,c];exact Nat.le_refl _) (Xb (fun i g=>(o i g).2) Y)
   (fun i v x k aa=>by
    have g:i<m*sz:=by rw [←c];exact (Array.getElem?_eq_some_iff.1 k).1
    rw [←C i g] at k
    rw [←s] at k
    exact Zfz b o q k aa)
  have Q:=h.st.NR
  refine .value ⟨.slice (some ⟨w.heap.size,0,none⟩) m m,_,_,?_,hx,D,.vec (by simp [Mem.addRow,Q]) (Nat.zero_le _) fun _=>⟨by simp [Mem.addRow,Q],by simp [Mem.addRow,Q],Nat.le_refl _⟩⟩
  have e0:¬ (m*sz > 2 ^ 24):=by omega
  have E:(ps.map fun (i,x)=>(i,a.eval x)).toList=((ps.toList.map fun p=>a.eval p.2).zipIdx 0).map fun x=>(x.2,x.1):=by
   rw [Array.toList_map]
   exact Wn hr a.eval
  by_cases h0:m*sz=0
  ·rw [Ae h0] at hzc
   subst hzc
   simp only [Instr.buildSlice,Sem.run_bind,run_underlying K,Result.andThen_ok,BW G,Af e0,Ae h0,Sem.run_pure,E,a1,newRow,run_newObj]
   rfl
  ·rw [Af h0] at hzc
   subst hzc
   simp only [Instr.buildSlice,Sem.run_bind,run_underlying K,Result.andThen_ok,BW G,Af e0,Af h0,Sem.run_pure,zeroValue,typeInfo,run_program,l,hv,E,a1,newRow,run_newObj]
   rfl
theorem ZcY (h:Rel w0 n M e st a w) (o:Oper) (hob:(Be P e true st o.op).1) :
  Yields' P w0 M (Be P e true st o.op).2.2 (Be P e true st o.op).2.1 w (execOp a.eval o):=by
 obtain ⟨q,op,g,p,k,j⟩:=o
 cases op with
 | move x=>exact LF h.st rfl (Bh h hob)
 | assign x=>exact LF h.st rfl (Bh h hob)
 | pick c x y=>exact Zf0 h c x y hob
 | alloc t=>exact Zd5 h t hob
 | box t x=>exact Zh6 h t x hob
 | build t ps=>exact Zdp h t ps hob
 | buildSlice t m ps =>
  cases hmk:Jo e t with
  | false=>exact VX h t m ps hmk hob
  | true=>exact Zd h t m ps hmk hob
 | load t x =>
  have:=ZfW h t x hob
  have e:(Be P e true st (.load t x)).2.2=st:=by simp only [Be];split<;>rfl
  simp only [e]
  exact this
 | store t x v=>exact Zd8 h t x v hob
 | nilCheck x=>exact Yk h ⟨q,.nilCheck x,g,p,k,j⟩ x rfl hob
 | binOp op t x y u=>exact ZcQ h op t x y u hob
 | unOp op t x=>exact ZfQ h op t x hob
 | convert s d x=>exact Z5 h s d x hob
 | makeFunc f fi cap =>
  cases f with
  | func f=>exact YM h f fi cap hob
  | _=>exact hob.elim
 | slice t x lo hi mx=>exact ZcM h t x lo hi mx hob
 | makeSlice t len cap=>exact Xx h t len cap hob
 | fieldAddr t x f=>exact Xg h t x f hob
 | field t x f=>exact Zdx h t x f hob
 | indexAddr t x i=>exact W2 h t x i hob
 | index t x i=>exact ZdZ h t x i hob
 | extract x i=>exact ZY h x i hob
 | call c =>
  obtain ⟨callee,l,C⟩:=c
  cases callee with
  | builtin b =>
   cases b with
   | len =>
    simp only [Be] at hob ⊢
    split at hob
    ·rename_i x t hx ht
     obtain ⟨r,z⟩:=hob
     have ea:l = #[x]:=Array.toList_inj.1 (by simpa using hx)
     have et:C = #[t]:=Array.toList_inj.1 (by simpa using ht)
     subst ea;subst et
     exact (ZhZ h x t g r z).congr (LG .len #[x] #[t] q g p k j _ (fun _=>by simp [builtin]))
    ·exact hob.elim
   | append =>
    simp only [Be] at hob ⊢
    split at hob
    ·rename_i s x t t' hx ht
     obtain ⟨_,r,z,rfl,D⟩:=hob
     have ea:l = #[s,x]:=Array.toList_inj.1 (by simpa using hx)
     have et:C = #[t,t]:=Array.toList_inj.1 (by simpa using ht)
     subst ea;subst et
     exact (WO h s x t g r z D).congr (LG .append #[s,x] #[t,t] q g p k j _ (fun _=>by simp [builtin]))
    ·exact hob.elim
   | min =>
    simp only [Be] at hob ⊢
    split at hob
    ·rename_i x y hx
     obtain ⟨r,z,D,E,_⟩:=hob
     have ea:l = #[x,y]:=Array.toList_inj.1 (by simpa using hx)
     subst ea
     exact (ZhX h x y C g r z D E).congr (LG .min #[x,y] C q g p k j _ (fun _=>by simp [builtin]))
    ·exact hob.elim
   | max =>
    simp only [Be] at hob ⊢
    split at hob
    ·rename_i x y hx
     obtain ⟨r,z,D,E⟩:=hob
     have ea:l = #[x,y]:=Array.toList_inj.1 (by simpa using hx)
     subst ea
     exact (ZhJ h x y C g r z D E).congr (LG .max #[x,y] C q g p k j _ (fun _=>by simp [builtin]))
    ·exact hob.elim
   | _=>exact hob.elim
  | _=>exact hob.elim
 | _=>exact hob.elim
end
def FW (ro:Option Nat):Fence:={ Fence.wide with round:=ro }
theorem Wq (ro:Option Nat) (f:FuncId):(FW ro).fn f:=trivial
theorem Vj (ro:Option Nat):(FW ro).depth.isSome=true→∀ n,1≤n:=fun h=>by cases h
theorem UW {ro:Option Nat} {n:Nat} {P:Program} {f:FuncId} {args:Array Value} {w:World} {Q:Ending→World→Prop} (h:Calls P f args w Q):CallsIn (FW ro) n P f args w Q:=by
 cases ro with
 | none=>exact callsIn_wide.2 h
 | some l=>exact CallsIn.inRound (F:=Fence.wide) l (callsIn_wide.2 h)
theorem SQ {n:Nat} {P:Program} {f:FuncId} {args:Array Value} {w:World} {Q:Ending→World→Prop} (h:CallsIn (FW none) n P f args w Q):Calls P f args w Q:=callsIn_wide.1 h
def J0 (P:Program) (f:FuncId):Prop:=∀ args w,(callFunc f args).run P w = .ok (.enter f args) w
def Comes' (w0:World) (M:Mem) (w:World) (Post:AV→St→Prop) (en:Ending) (w':World):Prop :=
 ∃ v M' r st',en = .returned v∧Post r st'∧Ext w0 M w M' w'∧RelSt w0 M' st' w'∧R w0 M' w' v r
def ACalls (P:Program) (w0:World) (f:FuncId) (args:List AV) (st:St) (Post:AV→St→Prop):Prop :=
 J0 P f∧∀ (M:Mem) (w:World) (vals:Array Value),RelSt w0 M st w→RowR w0 M w vals args→Calls P f vals w (Comes' w0 M w Post)
theorem Comes'.mono {w0:World} {M:Mem} {w:World} {Post Post':AV→St→Prop} (hp:∀ r s,Post r s→Post' r s) {en:Ending} {w':World} (h:Comes' w0 M w Post en w'):Comes' w0 M w Post' en w' :=
 let ⟨v,M',r,st',a1,a2,a3,a4,a5⟩:=h;⟨v,M',r,st',a1,hp _ _ a2,a3,a4,a5⟩
theorem ACalls.mono {P:Program} {w0:World} {f:FuncId} {args:List AV} {st:St} {Post Post':AV→St→Prop} (h:ACalls P w0 f args st Post) (hp:∀ r s,Post r s→Post' r s):ACalls P w0 f args st Post' :=
 ⟨h.1,fun M w a c b=>(h.2 M w a c b).mono fun _ _ h=>h.mono hp⟩
def Vq (P:Program) (w0:World) (k:Nat) (args:List AV) (st:St) (Post:AV→St→Prop):Prop :=
 ∀ (M:Mem) (w:World) (vals:Array Value),RelSt w0 M st w→RowR w0 M w vals args →
  ∃ fn tmps asg body,(Instr.yield (M.lb k) vals).run P w = .ok (.round (M.lb k) fn tmps asg body) w∧∀ n,RoundIn Fence.wide n P (M.lb k) fn tmps asg body w (Comes' w0 M w Post)
def OJ (P:Program) (w0:World) (fv:AV) (args:List AV) (st:St) (Post:AV→St→Prop):Prop :=
 match fv with
 | .clo f cs=>ACalls P w0 f (args++cs) st Post
 | .yld k=>Vq P w0 k args st Post
 | _=>False
def Lm (e:Env) (dst:Option Nat) (c:Bool) (v:AV):Env :=
 match dst with
 | some d=>(d,c,v)::e
 | none=>e
def LC (n:Nat):Option Nat→Prop
 | some d=>d<n
 | none=>True
def DN (all:List Oper) (e:Env):Option (Nat × Bool)→Bool
 | none=>true
 | some (j,want)=>match (all[j]?).bind (·.dst) with
  | some d=>match D2 e d with
   | some (cj,.val (.bool b))=>cj&&(b == want)
   | _=>false
  | none=>false
def Lr (all:List Oper) (e:Env):Option (Nat × Bool)→Prop
 | none=>True
 | some (j,_)=>match (all[j]?).bind (·.dst) with
  | some d=>match D2 e d with
   | some (_,v)=>VY v=true
   | none=>False
  | none=>False
def JW:List Operand→List Nat
 | []=>[]
 | .tmp t::r=>t::JW r
 | _::r=>JW r
def Zd3 (all:List Oper):Option (Nat × Bool)→List Nat
 | none=>[]
 | some (j,_)=>((all[j]?).bind (·.dst)).toList
def S4 (all:List Oper) (o:Oper):List Nat:=1000000::(JW o.op.operands.toList++Zd3 all o.guard)
def DO (d:Bool) (all:List Oper) (o:Oper) (e:Env):Env:=if d then Dz (S4 all o) e else e
def MK (P:Program) (w0:World) (c d:Bool) (fv:AV) (args:List AV) (st:St) (k:AV→St→Prop):Prop :=
 (∃ v,(c=true→OJ P w0 fv args st fun r s=>r=v∧s=st)∧k v st) ∨
 (d=false∧∃ Post,(c=true→OJ P w0 fv args st Post)∧∀ v st',(c=true→Post v st')→(c=false→st'=st)→k v st')
theorem Oz {P:Program} {w0:World} {c d:Bool} {f:FuncId} {cs args:List AV} {st:St} {k:AV→St→Prop} (v:AV)
  (h:ACalls P w0 f (args++cs) st fun r s=>r=v∧s=st) (hk:k v st):MK P w0 c d (.clo f cs) args st k := .inl ⟨v,fun _=>h,hk⟩
theorem Ub {P:Program} {w0:World} {f:FuncId} {cs args:List AV} {st:St} {k:AV→St→Prop} (Post:AV→St→Prop)
  (h:ACalls P w0 f (args++cs) st Post) (hk:∀ v s,Post v s→k v s):MK P w0 true false (.clo f cs) args st k := .inr ⟨rfl,Post,fun _=>h,fun v s a _=>hk v s (a rfl)⟩
theorem ZC {P:Program} {w0:World} {c:Bool} {i:Nat} {args:List AV} {st:St} {k:AV→St→Prop} (Post:AV→St→Prop)
  (h:c=true→Vq P w0 i args st Post) (hk:∀ v s,(c=true→Post v s)→(c=false→s=st)→k v s):MK P w0 c false (.yld i) args st k := .inr ⟨rfl,Post,h,hk⟩
def argP (e:Env) (x:AV):AV:=if Jo e 0=true then x else x.pub
theorem R.argP {w0:World} {M:Mem} {w:World} {v:Value} {x:AV} (e:Env) (h:R w0 M w v x):R w0 M w v (Go.Ev.argP e x):=by
 unfold Go.Ev.argP
 split
 ·exact h
 ·exact h.pub
def evS (P:Program) (w0:World) (n:Nat) (d:Bool) (all:List Oper) (R:List Oper→Env→St→Prop) (K:Env→St→Prop):List Oper→Env→St→Prop
 | [],e,st=>K e st
 | o::os,e,st =>
  Lr all (DO d all o e) o.guard∧LC n o.dst ∧
  match o.op with
  | .call ⟨.value f,args,_⟩ =>
   (DN all (DO d all o e) o.guard=true→AP (DO d all o e) true f∧∀ x∈args.toList,AP (DO d all o e) true x) ∧
   MK P w0 (DN all (DO d all o e) o.guard) d (Ar (DO d all o e) f) (args.toList.map fun x=>argP (DO d all o e) (Ar (DO d all o e) x)) st
    fun v st'=>R os (Lm e o.dst (DN all (DO d all o e) o.guard) v) st'
  | op=>match Be P (DO d all o e) (DN all (DO d all o e) o.guard) st op with
   | (ob,v,st')=>(DN all (DO d all o e) o.guard=true→ob)∧((DN all (DO d all o e) o.guard=false∨d=true)→st'=st)∧evS P w0 n d all R K os (Lm e o.dst (DN all (DO d all o e) o.guard) v) st'
def YK (P:Program) (w0:World) (n:Nat) (d:Bool) (all:List Oper) (K:Env→St→Prop):Nat→List Oper→Env→St→Prop
 | 0,_,_,_=>False
 | c+1,os,e,st=>evS P w0 n d all (YK P w0 n d all K c) K os e st
theorem Am {P:Program} {w0:World} {n:Nat} {d:Bool} {all:List Oper} {K:Env→St→Prop} {c:Nat} {os:List Oper} {e:Env} {st:St}:YK P w0 n d all K (c+1) os e st=evS P w0 n d all (YK P w0 n d all K c) K os e st:=rfl
def LK:Op→Bool
 | .call ⟨.value _,_,_⟩=>true
 | _=>false
theorem Wh {P:Program} {w0:World} {n:Nat} {d:Bool} {all:List Oper} {R:List Oper→Env→St→Prop} {K:Env→St→Prop} {o:Oper} {os:List Oper} {e:Env} {st:St} (hc:¬ LK o.op=true) :
  evS P w0 n d all R K (o::os) e st=(Lr all (DO d all o e) o.guard∧LC n o.dst∧match Be P (DO d all o e) (DN all (DO d all o e) o.guard) st o.op with
   | (ob,v,st')=>(DN all (DO d all o e) o.guard=true→ob)∧((DN all (DO d all o e) o.guard=false∨d=true)→st'=st)∧evS P w0 n d all R K os (Lm e o.dst (DN all (DO d all o e) o.guard) v) st'):=by
 obtain ⟨dst,op,c,g,a,guard⟩:=o
 cases op with
 | call cc =>
  obtain ⟨callee,b,h⟩:=cc
  cases callee with
  | value f=>exact absurd rfl hc
  | _=>rfl
 | _=>rfl
section
variable {P:Program} {w0:World} {n:Nat} {M:Mem} {e:Env} {st:St} {a:Act} {w:World}
theorem Sm (h:Rel w0 n M e st a w) (ro:Option Nat) (m:Nat) (o:Oper) (hob:(Be P e true st o.op).1) (Q:Exit→Act→World→Prop) (K:Act→World→Prop)
  (hK:∀ v w' M',Ext w0 M w M' w'→RelSt w0 M' (Be P e true st o.op).2.2 w'→R w0 M' w' v (Be P e true st o.op).2.1→K (a.put o.dst v) w'):o.wpIn (FW ro) m P a w K Q:=by
 have hd:∀ c,o.op ≠ .defer c:=by
  intro c j
  rw [j] at hob
  exact hob
 obtain ⟨v,w',M',b,g,i,d⟩:=ZcY (P:=P) h o hob
 refine ⟨fun f _=>Wq ro f,?_⟩
 have hs:Oper.semAt (FW ro).round a.eval o=execOp a.eval o:=by
  cases ro with
  | none=>rfl
  | some l=>exact Oper.semAt_some l a.eval o hd
 rw [hs]
 rcases b with b | ⟨b,rfl⟩
 ·rw [b];exact hK v w' M' g i d
 ·rw [b];exact hK _ w' M' g i d
theorem Xz {v:Value} {f:FuncId} {xs:List AV} (h:R w0 M w v (.clo f xs)):∃ cs,v = .func (.func f) #[] cs∧RowR w0 M w cs xs:=by
 cases h with
 | clo hl h=>exact ⟨_,rfl,hl,h⟩
theorem Zf6 {v:Value} {k:Nat} (h:R w0 M w v (.yld k)):v = .func (.yield (M.lb k)) #[] #[]:=by
 cases h with
 | yld hk=>rfl
theorem Zgh (h:Rel w0 n M e st a w) {args:Array Operand} (hargs:∀ x∈args.toList,AP e true x):RowR w0 M w (args.map a.eval) (args.toList.map fun x=>argP e (Ar e x)):=by
 refine .mk (by simp) (fun i u y hu hy=>?_)
 by_cases c:i<args.size
 ·simp only [Array.getElem?_map,Array.getElem?_eq_getElem c,Option.map_some,Option.some.injEq] at hu
  simp only [List.getElem?_map,Array.getElem?_toList,Array.getElem?_eq_getElem c,Option.map_some,Option.some.injEq] at hy
  subst hu;subst hy
  exact (Bh h (hargs _ (by simp))).argP e
 ·simp [Array.getElem?_eq_none (Nat.le_of_not_lt c)] at hu
theorem RowR.append {cs ds:Array Value} {xs ys:List AV} (h:RowR w0 M w cs xs) (k:RowR w0 M w ds ys):RowR w0 M w (cs++ds) (xs++ys):=by
 refine .mk (by simp [h.1,k.1]) (fun i u y a b=>?_)
 by_cases c:i<cs.size
 ·rw [Array.getElem?_append_left c] at a
  rw [List.getElem?_append_left (h.1▸c)] at b
  exact h.get a b
 ·rw [Array.getElem?_append_right (by omega)] at a
  rw [List.getElem?_append_right (by have:=h.1;omega)] at b
  rw [h.1] at a
  exact k.get a b
theorem KL (h:Rel w0 n M e st a w) (ro:Option Nat) (m:Nat) {dst:Option Tmp} {f:Operand} {args:Array Operand} {ts:Array TypeId} {type:TypeId} {pos:String} {after:Array Edge} {guard:Option (Nat × Bool)}
  (hf:AP e true f) (hargs:∀ x∈args.toList,AP e true x) {Post:AV→St→Prop} (hv:OJ P w0 (Ar e f) (args.toList.map fun x=>argP e (Ar e x)) st Post) (Q:Exit→Act→World→Prop) (K:Act→World→Prop)
  (hK:∀ r s,Post r s→∀ v w' M',Ext w0 M w M' w'→RelSt w0 M' s w'→R w0 M' w' v r→K (a.put dst v) w') :
  (⟨dst,.call ⟨.value f,args,ts⟩,type,pos,after,guard⟩:Oper).wpIn (FW ro) m P a w K Q:=by
 have i:=Zgh h hargs
 have p:=Bh h hf
 refine ⟨fun f _=>Wq ro f,?_⟩
 have hs:Oper.semAt (FW ro).round a.eval ⟨dst,.call ⟨.value f,args,ts⟩,type,pos,after,guard⟩=execOp a.eval ⟨dst,.call ⟨.value f,args,ts⟩,type,pos,after,guard⟩:=by
  cases ro with
  | none=>rfl
  | some l=>exact Oper.semAt_some l a.eval _ (fun c hh=>by cases hh)
 rw [hs]
 cases hx:Ar e f with
 | clo g xs =>
  rw [hx] at p hv
  obtain ⟨cs,ef,D⟩:=Xz p
  have b:(execOp a.eval ⟨dst,.call ⟨.value f,args,ts⟩,type,pos,after,guard⟩).run P w = .ok (.enter g (args.map a.eval++cs)) w:=by
   simp [execOp,resolve,ef,Deferred.ofValue,invoke,hv.1 (args.map a.eval++cs) w]
  rw [b]
  refine ⟨fun q=>Vj ro q m,UW ((hv.2 M w _ h.st (i.append D)).mono ?_)⟩
  rintro en w' ⟨u,M',r,s,rfl,z,C,E,y⟩
  exact hK r s z u w' M' C E y
 | yld k =>
  rw [hx] at p hv
  have ef:=Zf6 p
  obtain ⟨H,o,t,j,G,d⟩:=hv M w _ h.st i
  have b:(execOp a.eval ⟨dst,.call ⟨.value f,args,ts⟩,type,pos,after,guard⟩).run P w = .ok (.round (M.lb k) H o t j) w:=by
   simp [execOp,resolve,ef,Deferred.ofValue,invoke,G]
  rw [b]
  refine ⟨fun q=>Vj ro q m,?_⟩
  have:=d (m-1)
  refine RoundIn.mono (F:=FW ro) (by cases ro<;>exact this) ?_
  rintro en w' ⟨u,M',r,s,rfl,z,C,E,y⟩
  exact hK r s z u w' M' C E y
 | _=>rw [hx] at hv;exact hv.elim
theorem Le (a:Act) (dst:Option Nat) (v:Value) (s:Nat) (hd:LC a.tmps.size dst):(a.put dst v).tmps.getD s undef=if dst=some s then v else a.tmps.getD s undef:=by
 cases dst with
 | none=>simp [Act.put]
 | some d =>
  simp only [LC] at hd
  simp only [Act.put,Option.some.injEq]
  by_cases c:d=s
  ·subst c
   simp [hd]
  ·rw [Af c]
   simp [Array.getElem?_setIfInBounds_ne c]
theorem Qz (a:Act) (dst:Option Nat) (v:Value):(a.put dst v).tmps.size=a.tmps.size:=by cases dst<;>simp [Act.put]
theorem KO (a:Act) (dst:Option Nat) (v:Value):(a.put dst v).defers=a.defers:=by cases dst<;>rfl
theorem Rel.put (h:Rel w0 n M e st a w) {M':Mem} {w':World} {st':St} (hx:Ext w0 M w M' w') (hst:RelSt w0 M' st' w') {dst:Option Nat} (hd:LC n dst) {c:Bool} {v:Value} {r:AV} (hv:entryOk w0 M' w' v (c,r)) :
  Rel w0 n M' (Lm e dst c r) st' (a.put dst v) w':=by
 refine ⟨hst,by rw [Qz];exact h.size,fun s x hs=>?_⟩
 rw [Le a dst v s (by rw [h.size];exact hd)]
 cases dst with
 | none=>exact (h.env s x hs).mono hx
 | some d =>
  simp only [Lm,D2] at hs
  simp only [Option.some.injEq]
  by_cases q:d=s
  ·rw [Ae q] at hs ⊢
   cases hs
   exact hv
  ·rw [Af q] at hs ⊢
   exact (h.env s x hs).mono hx
theorem Xh {ops:Array Oper} {ts:Array Value} {j d:Nat} (h:(ops[j]?).bind (·.dst)=some d):yielded ops ts j=match ts.getD d undef with | .bool b=>some b | _=>none:=by
 unfold yielded
 simp only [h]
 rw [Array.getD_eq_getD_getElem?]
 change (match ts[(d:Nat)]? with | some (.bool b)=>some b | _=>none)=_
 cases ts[(d:Nat)]? with
 | none=>rfl
 | some v=>cases v<;>rfl
theorem OE (h:Rel w0 n M e st a w) {all:List Oper} {o:Oper} (hg:Lr all e o.guard):Region.wanted o (yielded all.toArray a.tmps)=DN all e o.guard:=by
 unfold Region.wanted DN
 cases hgd:o.guard with
 | none=>rfl
 | some p =>
  obtain ⟨j,want⟩:=p
  rw [hgd] at hg
  simp only [Lr] at hg
  have f:(all.toArray[j]?).bind (·.dst)=(all[j]?).bind (·.dst):=by simp
  dsimp only
  cases hd:(all[j]?).bind (·.dst) with
  | none=>simp [hd] at hg
  | some d =>
   rw [Xh (f.trans hd)]
   simp only [hd] at hg ⊢
   cases hl:D2 e d with
   | none=>simp [hl] at hg
   | some x =>
    obtain ⟨cj,v⟩:=x
    simp only [hl] at hg ⊢
    have c:=h.env d _ hl
    cases v with
    | val u =>
     cases u<;>try cases hg
     rename_i b
     unfold entryOk at c
     cases cj with
     | true =>
      rw [Ae rfl] at c
      obtain ⟨g,_⟩:=c.val_inv
      rw [g]
      cases b<;>cases want<;>rfl
     | false =>
      rw [Af (by simp)] at c
      rw [c]
      rfl
    | _=>cases hg
def Zdt (e' e:Env):Prop:=∀ s x,D2 e' s=some x→D2 e s=some x
theorem Rel.sub {e':Env} (h:Rel w0 n M e st a w) (hs:Zdt e' e):Rel w0 n M e' st a w:=⟨h.st,h.size,fun s x b=>h.env s x (hs s x b)⟩
theorem IZ:∀ (K:List Nat) (e:Env) (s:Nat) (x:Bool × AV),D2 (Dz K e) s=some x→D2 e s=some x
 | [],_,_,_,h=>by simp [Dz,D2] at h
 | k::K,e,s,x,h=>by
  simp only [Dz] at h
  cases hk:D2 e k with
  | none =>
   simp only [hk] at h
   exact IZ K e s x h
  | some y =>
   obtain ⟨c,v⟩:=y
   simp only [hk,D2] at h
   by_cases q:k=s
   ·rw [Ae q] at h
    subst q
    rw [hk];exact h
   ·rw [Af q] at h
    exact IZ K e s x h
theorem Bm (K:List Nat) (e:Env):Zdt (Dz K e) e:=IZ K e
theorem MI:∀ (K:List Nat) (e:Env) (s:Nat) (x:Bool × AV),D2 (Dz K e) s=some x→s∈K
 | [],_,_,_,h=>by simp [Dz,D2] at h
 | k::K,e,s,x,h=>by
  simp only [Dz] at h
  cases hk:D2 e k with
  | none =>
   simp only [hk] at h
   exact List.mem_cons_of_mem _ (MI K e s x h)
  | some y =>
   obtain ⟨c,v⟩:=y
   simp only [hk,D2] at h
   by_cases q:k=s
   ·exact q▸List.mem_cons_self
   ·rw [Af q] at h
    exact List.mem_cons_of_mem _ (MI K e s x h)
theorem Zef (d:Bool) (all:List Oper) (o:Oper) (e:Env):Zdt (DO d all o e) e:=by
 unfold DO
 split
 ·exact Bm _ _
 ·exact fun _ _ h=>h
theorem Su (ro:Option Nat) (m:Nat) (d:Bool) (all:List Oper) (KK:Env→St→Prop) (Q:Exit→Act→World→Prop):∀ (c:Nat) (os:List Oper) (e:Env) (st:St) (a:Act) (w:World) (M:Mem),Rel w0 n M e st a w →
  YK P w0 n d all KK c os e st→(∀ e' st' a' w' M',KK e' st'→Rel w0 n M' e' st' a' w'→Ext w0 M w M' w'→a'.defers=a.defers→Q .normal a' w')→wpListIn (FW ro) m P all.toArray Q os a w
 | 0,_,_,_,_,_,_,_,h,_=>h.elim
 | c+1,os,e,st,a,w,M,hr,h,x=>by
  have F:∀ (os:List Oper) (e:Env) (st:St) (a:Act) (w:World) (M:Mem),Rel w0 n M e st a w→evS P w0 n d all (YK P w0 n d all KK c) KK os e st →
    (∀ e' st' a' w' M',KK e' st'→Rel w0 n M' e' st' a' w'→Ext w0 M w M' w'→a'.defers=a.defers→Q .normal a' w')→wpListIn (FW ro) m P all.toArray Q os a w:=by
   intro os
   induction os with
   | nil=>exact fun e st a w M hr h x=>x e st a w M h hr (.refl _ _ _) rfl
   | cons o os ih =>
    intro e st a w M hr h x
    have hv:=Zef d all o e
    have i:=hr.sub hv
    by_cases hc:LK o.op=true
    ·obtain ⟨dst,op,type,pos,after,guard⟩:=o
     cases op<;>try cases hc
     rename_i cc
     obtain ⟨callee,args,ts⟩:=cc
     cases callee<;>try cases hc
     rename_i f
     simp only [evS] at h
     obtain ⟨E,hd,y,z⟩:=h
     unfold wpListIn
     rw [OE i E]
     have j:∀ v s,YK P w0 n d all KK c os (Lm e dst (DN all (DO d all ⟨dst,.call ⟨.value f,args,ts⟩,type,pos,after,guard⟩ e) guard) v) s→∀ u w' M',Ext w0 M w M' w'→RelSt w0 M' s w' →
       entryOk w0 M' w' u (DN all (DO d all ⟨dst,.call ⟨.value f,args,ts⟩,type,pos,after,guard⟩ e) guard,v)→wpListIn (FW ro) m P all.toArray Q os (a.put dst u) w':=by
      intro v s D u w' M' hx hst hu
      exact Su ro m d all KK Q c os _ _ _ _ M' (hr.put hx hst hd hu) D (fun e' st' a' t l k b C G=>x e' st' a' t l k b (hx.trans C) (G.trans (KO a dst u)))
     cases hcc:DN all (DO d all ⟨dst,.call ⟨.value f,args,ts⟩,type,pos,after,guard⟩ e) guard with
     | true =>
      rw [hcc] at y z j
      obtain ⟨K,N⟩:=y rfl
      rw [Ae rfl]
      rcases z with ⟨v,k,b⟩ | ⟨_,Post,k,b⟩
      ·refine KL i ro m K N (k rfl) Q _ (fun r s H u w' M' hx hst hu=>?_)
       obtain ⟨rfl,rfl⟩:=H
       exact j _ _ b u w' M' hx hst hu
      ·exact KL i ro m K N (k rfl) Q _ (fun r s H u w' M' hx hst hu=>j _ _ (b r s (fun _=>H) (fun q=>by cases q)) u w' M' hx hst hu)
     | false =>
      rw [hcc] at y z j
      rw [Af (by simp)]
      refine ⟨fun g _=>Wq ro g,?_⟩
      rcases z with ⟨v,k,b⟩ | ⟨_,Post,k,b⟩
      ·exact j _ _ b undef w M (.refl _ _ _) hr.st rfl
      ·exact j .junk st (b .junk st (fun q=>by cases q) (fun _=>rfl)) undef w M (.refl _ _ _) hr.st rfl
    ·rw [Wh hc] at h
     obtain ⟨E,hd,y,J,p⟩:=h
     unfold wpListIn
     rw [OE i E]
     have j:∀ u w' M',Ext w0 M w M' w'→RelSt w0 M' (Be P (DO d all o e) (DN all (DO d all o e) o.guard) st o.op).2.2 w' →
       entryOk w0 M' w' u (DN all (DO d all o e) o.guard,(Be P (DO d all o e) (DN all (DO d all o e) o.guard) st o.op).2.1)→wpListIn (FW ro) m P all.toArray Q os (a.put o.dst u) w':=by
      intro u w' M' hx hst hu
      exact ih _ _ _ _ M' (hr.put hx hst hd hu) p (fun e' st' a' t l k b C G=>x e' st' a' t l k b (hx.trans C) (G.trans (KO a o.dst u)))
     cases hcc:DN all (DO d all o e) o.guard with
     | true =>
      rw [hcc] at y j
      rw [Ae rfl]
      exact Sm i ro m o (y rfl) Q _ (fun v w' M' hx hst hv=>j v w' M' hx hst hv)
     | false =>
      rw [hcc] at J j
      rw [Af (by simp)]
      refine ⟨fun g _=>Wq ro g,j undef w M (.refl _ _ _) ?_ rfl⟩
      have q:(Be P (DO d all o e) false st o.op).2.2=st:=J (.inl rfl)
      rw [q]
      exact hr.st
  exact F os e st a w M hr h x
end
end Go.Ev
