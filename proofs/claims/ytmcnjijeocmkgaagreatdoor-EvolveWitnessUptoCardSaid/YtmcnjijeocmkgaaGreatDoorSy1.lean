/-
  Part 1 of the proof: rules and walks that the claim's last text uses.
-/
import Derived.Below
import Derived.Laws.BytesArg
import Derived.Laws.IdiomStrings
import Derived.Laws.MakeOwn
import Derived.Laws.Rows
import Derived.Laws.Runes
import Derived.Laws.Small
import Derived.Laws.StructEq
import Derived.Lib.ConvBytes
import Derived.Lib.Strings
import Derived.Orders
import Derived.RangeFuncNested
import Derived.RangeFuncRecord
import Derived.WalkKit
set_option linter.unusedSimpArgs false
set_option linter.unusedVariables false
set_option maxRecDepth 100000
set_option maxHeartbeats 4000000
namespace Go
theorem Aa.{u} {c:Prop} {h:Decidable c} {α:Sort u} {t e:α} (hc:¬c:=by omega):ite c t e=e:=if_neg hc
theorem Ab.{u} {c:Prop} {h:Decidable c} {α:Sort u} {t e:α} (hc:c:=by omega):ite c t e=t:=if_pos hc
theorem Ac {p:Prop} [Decidable p] (h:¬p:=by omega):decide p=false:=decide_eq_false h
theorem Ad {a b:Prop} (h:a) (k:b):a∧b:=⟨h,k⟩
theorem Ae.{u,v} {α:Type u} {β:Type v} (a:α) (f:α→Option β):(some a).bind f=f a:=rfl
theorem Af {p:Prop} [Decidable p] (h:¬p):decide p=false:=decide_eq_false h
theorem Ag {p:Prop} [Decidable p] (h:p):decide p=true:=decide_eq_true h
theorem Ah.{u} {c:Prop} {h:Decidable c} (hc:c) {α:Sort u} {t e:α}:ite c t e=t:=if_pos hc
theorem Ai.{u} {c:Prop} {h:Decidable c} (hc:¬c) {α:Sort u} {t e:α}:ite c t e=e:=if_neg hc
theorem Aj.{u} {α:Type u} {a:α} {l:List α} {i:Nat}:l[i]?=some a↔∃ h:i<l.length,l[i]=a:=List.getElem?_eq_some_iff
end Go
namespace Go.Ev
open Go Go.RowKit
inductive Own where
 | none | full | seed | row (id:Nat)
 deriving DecidableEq
inductive AV where
 | val (v:Value)
 | list (xs:List AV) (o:Own)
 | elem (x:AV) (off:Nat)
 | box (l off:Nat)
 | clo (f:FuncId) (caps:List AV)
 | agg (cs:List AV)
 | tup (vs:List AV)
 | yld (k:Nat)
 | vec (id ver o n:Nat)
 | vel (id ver off:Nat)
abbrev Ak (x:Int):AV := .val (.int .i64 x)
abbrev AV.junk:AV := .tup []
instance:Inhabited AV:=⟨.junk⟩
def AV.cells:AV→List AV
 | .agg cs=>cs
 | x=>[x]
def AV.one:AV→Bool
 | .agg _ | .tup _=>false
 | _=>true
def J4:Value→Bool
 | .bool _ | .int _ _ | .float _ _ | .pointer none | .nilFunc | .nilIface | .map none=>true
 | .string s=>decide (s.size≤maxLen)
 | _=>false
structure LoopA where
 e:List (Nat × Bool × AV)
 n:Nat
 ps:Array Tmp
 asg:Code
 body:Code
 st:LoopState
 pend:Option Code
inductive RowA where
 | grow (n sz:Nat)
 | vec (ver sz:Nat) (cells:List AV)
 | dead (ver:Nat)
structure St where
 boxes:List (List AV)
 rows:List RowA
 loops:List LoopA
abbrev Am:=List (List AV)
abbrev Aq:=List RowA
abbrev Ar:=List LoopA
structure Mem where
 N:Nat
 NR:Nat
 bx:Nat→Nat
 top:Nat→Nat
 fr:Nat→Nat
 blk:Nat→Nat
 cap:Nat→Nat
 rsz:Nat→Nat
 NL:Nat
 lb:Nat→Nat
def Mem.imm (M:Mem) (w0:World) (b off:Nat):Prop:=b<w0.heap.size∨off<M.top b
def ZgV (M:Mem) (b off cap n sz:Nat):Own→Prop
 | .none=>True
 | .full | .seed=>n=cap
 | .row id=>id<M.NR∧n≤M.fr id∧(n=M.fr id→b=M.blk id∧off=0∧cap=M.cap id∧sz=M.rsz id)
inductive R (w0:World) (M:Mem) (w:World):Value→AV→Prop
 | flat {v:Value} (h:J4 v=true):R w0 M w v (.val v)
 | agg {cs:Array Value} {xs:List AV} (hl:cs.size=xs.length) (h1:∀ x∈xs,x.one=true) (h:∀ i (h1:i<cs.size) (h2:i<xs.length),R w0 M w cs[i] xs[i]):R w0 M w (.agg cs) (.agg xs)
 | tup {cs:Array Value} {xs:List AV} (hl:cs.size=xs.length) (h:∀ i (h1:i<cs.size) (h2:i<xs.length),R w0 M w cs[i] xs[i]):R w0 M w (.tuple cs) (.tup xs)
 | nil {o:Own} (ho:∀ id,o ≠ .row id):R w0 M w (.slice none 0 0) (.list [] o)
 | emp {a:Addr} {o:Own} (ho:∀ id,o ≠ .row id):R w0 M w (.slice (some a) 0 0) (.list [] o)
 | list {b off cap:Nat} {xs:List AV} {o:Own} (sz:Nat) (us:Nat→Value) (hc:xs.length≤cap) (hm:cap≤maxLen)
   (hcell:∀ i,i<xs.length→(us i).cells.size=sz∧∀ j,j<sz→M.imm w0 b (off+i*sz+j)∧w.cell? ⟨b,off+i*sz+j,none⟩=(us i).cells[j]?)
   (hu:∀ i (hi:i<xs.length),R w0 M w (us i) xs[i]) (ho:ZgV M b off cap xs.length sz o):R w0 M w (.slice (some ⟨b,off,none⟩) xs.length cap) (.list xs o)
 | elem {b off:Nat} {x:AV} (u:Value) (k:Nat) (hcell:∀ j,j<u.cells.size→M.imm w0 b (off+j)∧w.cell? ⟨b,off+j,none⟩=u.cells[j]?) (hu:R w0 M w u x) :
   R w0 M w (.pointer (some ⟨b,off+k,none⟩)) (.elem x k)
 | box {l off:Nat} (hl:l<M.N):R w0 M w (.pointer (some ⟨M.bx l,off,none⟩)) (.box l off)
 | clo {f:FuncId} {cs:Array Value} {xs:List AV} (hl:cs.size=xs.length) (h:∀ i (h1:i<cs.size) (h2:i<xs.length),R w0 M w cs[i] xs[i]):R w0 M w (.func (.func f) #[] cs) (.clo f xs)
 | yld {k:Nat} (hk:k<M.NL):R w0 M w (.func (.yield (M.lb k)) #[] #[]) (.yld k)
 | vec {id ver o n:Nat} {p:Option Addr} {cap:Nat} (hi:id<M.NR) (hv:ver≤M.fr id) (h:ver=M.fr id→p=some ⟨M.blk id,o*M.rsz id,none⟩∧cap+o=M.cap id∧n≤cap):R w0 M w (.slice p n cap) (.vec id ver o n)
 | vel {id ver off:Nat} {a:Addr} (hi:id<M.NR) (hv:ver≤M.fr id) (h:ver=M.fr id→a=⟨M.blk id,off,none⟩):R w0 M w (.pointer (some a)) (.vel id ver off)
structure Ext (w0:World) (M:Mem) (w:World) (M':Mem) (w':World):Prop where
 N:M.N≤M'.N
 bx:∀ l,l<M.N→M'.bx l=M.bx l
 NR:M.NR≤M'.NR
 rows:∀ id,id<M.NR→M.fr id≤M'.fr id∧(M'.fr id=M.fr id→M'.blk id=M.blk id∧M'.cap id=M.cap id∧M'.rsz id=M.rsz id)
 cell:∀ b off v,M.imm w0 b off→w.cell? ⟨b,off,none⟩=some v→w'.cell? ⟨b,off,none⟩=some v∧M'.imm w0 b off
 size:w.heap.size≤w'.heap.size
 NL:M.NL≤M'.NL
 lb:∀ k,k<M.NL→M'.lb k=M.lb k
 lnew:∀ k,M.NL≤k→k<M'.NL→w.heap.size≤M'.lb k
 objs:∀ b o,w.heap[b]? = some o→o.isCells=false→(∀ k,k<M.NL→M.lb k≠b)→w'.heap[b]? = some o
def KeepsObj (w w':World):Prop:=∀ (b:Nat) (o:Obj),w.heap[b]? = some o→o.isCells=false→w'.heap[b]? = some o
theorem KeepsObj.refl (w:World):KeepsObj w w:=fun _ _ h _=>h
theorem KeepsObj.trans {a b c:World} (h:KeepsObj a b) (k:KeepsObj b c):KeepsObj a c:=fun i o e d=>k i o (h i o e d) d
theorem KeepsObj.alloc (w:World) (o:Obj):KeepsObj w (w.alloc o):=fun b _ h _=>(Below.heap_alloc w o b (Array.getElem?_eq_some_iff.1 h).1).trans h
theorem Ext.refl (w0:World) (M:Mem) (w:World):Ext w0 M w M w :=
 ⟨Nat.le_refl _,fun _ _=>rfl,Nat.le_refl _,fun _ _=>⟨Nat.le_refl _,fun _=>⟨rfl,rfl,rfl⟩⟩,fun _ _ _ h k=>⟨k,h⟩,Nat.le_refl _,Nat.le_refl _,fun _ _=>rfl,fun _ _ _=>by omega,fun _ _ h _ _=>h⟩
theorem Ext.trans {w0:World} {M1 M2 M3:Mem} {w1 w2 w3:World} (h:Ext w0 M1 w1 M2 w2) (k:Ext w0 M2 w2 M3 w3):Ext w0 M1 w1 M3 w3 where
 N:=Nat.le_trans h.N k.N
 bx:=fun l n=>(k.bx l (Nat.lt_of_lt_of_le n h.N)).trans (h.bx l n)
 NR:=Nat.le_trans h.NR k.NR
 rows:=fun id f=>by
  obtain ⟨a1,a2⟩:=h.rows id f
  obtain ⟨t,D⟩:=k.rows id (Nat.lt_of_lt_of_le f h.NR)
  refine ⟨Nat.le_trans a1 t,fun e=>?_⟩
  have E:M2.fr id=M1.fr id:=by omega
  have z:M3.fr id=M2.fr id:=by omega
  obtain ⟨y,s,r⟩:=a2 E
  obtain ⟨x,u,C⟩:=D z
  exact ⟨x.trans y,u.trans s,C.trans r⟩
 cell:=fun b d v a p=>by
  obtain ⟨q,w⟩:=h.cell b d v a p
  exact k.cell b d v w q
 size:=Nat.le_trans h.size k.size
 NL:=Nat.le_trans h.NL k.NL
 lb:=fun i a=>(k.lb i (Nat.lt_of_lt_of_le a h.NL)).trans (h.lb i a)
 lnew:=fun i j g=>by
  by_cases c:i<M2.NL
  ·rw [k.lb i c];exact h.lnew i j c
  ·exact Nat.le_trans h.size (k.lnew i (by omega) g)
 objs:=fun b o j g m=>k.objs b o (h.objs b o j g m) g fun i a=>by
  by_cases c:i<M1.NL
  ·rw [h.lb i c];exact m i c
  ·have:=h.lnew i (by omega) a
   have:=(Array.getElem?_eq_some_iff.1 j).1
   omega
theorem Rl {u:Value} {j:Nat} (h:j<u.cells.size):∃ v,u.cells[j]? = some v:=⟨_,Array.getElem?_eq_getElem h⟩
theorem R.mono {w0:World} {M M':Mem} {w w':World} (hx:Ext w0 M w M' w') {v:Value} {x:AV} (h:R w0 M w v x):R w0 M' w' v x:=by
 induction h with
 | flat h=>exact .flat h
 | agg hl r _ ih=>exact .agg hl r ih
 | tup hl _ ih=>exact .tup hl ih
 | nil ho=>exact .nil ho
 | emp ho=>exact .emp ho
 | @list b off cap xs o sz us hc hm hcell _ ho ih =>
  refine .list sz us hc hm (fun i d=>⟨(hcell i d).1,fun j l=>?_⟩) ih ?_
  ·obtain ⟨f,g⟩:=(hcell i d).2 j l
   obtain ⟨v,hv⟩:=Rl (u:=us i) (j:=j) (by rw [(hcell i d).1];exact l)
   obtain ⟨t,s⟩:=hx.cell _ _ v f (g.trans hv)
   exact ⟨s,t.trans hv.symm⟩
  ·cases o with
   | none=>trivial
   | full=>exact ho
   | seed=>exact ho
   | row id =>
    obtain ⟨r,y,z⟩:=ho
    obtain ⟨q,m⟩:=hx.rows id r
    refine ⟨Nat.lt_of_lt_of_le r hx.NR,Nat.le_trans y q,fun e=>?_⟩
    have C:M'.fr id=M.fr id:=by omega
    obtain ⟨a,b,c⟩:=m C
    rw [a,b,c]
    exact z (by omega)
 | @elem b off x u k hcell _ ih =>
  refine .elem u k (fun j l=>?_) ih
  obtain ⟨f,g⟩:=hcell j l
  obtain ⟨v,hv⟩:=Rl (u:=u) (j:=j) l
  obtain ⟨t,s⟩:=hx.cell _ _ v f (g.trans hv)
  exact ⟨s,t.trans hv.symm⟩
 | box hl=>rw [←hx.bx _ hl];exact .box (Nat.lt_of_lt_of_le hl hx.N)
 | clo hl _ ih=>exact .clo hl ih
 | yld hk=>rw [←hx.lb _ hk];exact .yld (Nat.lt_of_lt_of_le hk hx.NL)
 | @vec id ver o n p cap d hv h =>
  obtain ⟨q,m⟩:=hx.rows id d
  refine .vec (Nat.lt_of_lt_of_le d hx.NR) (Nat.le_trans hv q) (fun e=>?_)
  obtain ⟨q1,q2,q3⟩:=m (by omega)
  rw [q1,q2,q3]
  exact h (by omega)
 | @vel id ver off a d hv h =>
  obtain ⟨q,m⟩:=hx.rows id d
  refine .vel (Nat.lt_of_lt_of_le d hx.NR) (Nat.le_trans hv q) (fun e=>?_)
  obtain ⟨q1,q2,q3⟩:=m (by omega)
  rw [q1]
  exact h (by omega)
theorem R.cells {w0:World} {M:Mem} {w:World} {v:Value} {x:AV} (h:R w0 M w v x) :
  v.cells.size=x.cells.length∧∀ i (h1:i<v.cells.size) (h2:i<x.cells.length),R w0 M w v.cells[i] x.cells[i]:=by
 have one:∀ (u:Value) (y:AV),u.cells = #[u]→y.cells=[y]→R w0 M w u y →
   u.cells.size=y.cells.length∧∀ i (h1:i<u.cells.size) (h2:i<y.cells.length),R w0 M w u.cells[i] y.cells[i]:=by
  intro u y a b c
  rw [a,b]
  refine ⟨rfl,fun i h1 h2=>?_⟩
  have:i=0:=by simp at h2;exact h2
  subst this
  exact c
 cases h with
 | agg hl _ h=>exact ⟨hl,h⟩
 | flat hf=>exact one _ _ (by cases v<;>first | rfl | simp [J4] at hf) rfl (.flat hf)
 | tup hl h=>exact one _ _ rfl rfl (.tup hl h)
 | nil ho=>exact one _ _ rfl rfl (.nil ho)
 | emp ho=>exact one _ _ rfl rfl (.emp ho)
 | list sz us hc hm hcell a ho=>exact one _ _ rfl rfl (.list sz us hc hm hcell a ho)
 | elem u k hcell a=>exact one _ _ rfl rfl (.elem u k hcell a)
 | box hl=>exact one _ _ rfl rfl (.box hl)
 | clo hl h=>exact one _ _ rfl rfl (.clo hl h)
 | yld hk=>exact one _ _ rfl rfl (.yld hk)
 | vec hi hv h=>exact one _ _ rfl rfl (.vec hi hv h)
 | vel hi hv h=>exact one _ _ rfl rfl (.vel hi hv h)
theorem R.oneCell {w0:World} {M:Mem} {w:World} {v:Value} {x:AV} (h:R w0 M w v x) (hx:x.one=true):v.oneCell'=true:=by
 cases h with
 | agg=>cases hx
 | flat hf=>cases v<;>first | rfl | simp [J4] at hf
 | tup=>cases hx
 | _=>rfl
theorem R.cellsOne {w0:World} {M:Mem} {w:World} {v:Value} {x:AV} (h:R w0 M w v x) (ht:∀ vs,x ≠ .tup vs):∀ c∈x.cells,c.one=true:=by
 cases h with
 | agg hl h1 h=>exact h1
 | tup=>exact absurd rfl (ht _)
 | _=>intro c hc;simp only [AV.cells,List.mem_singleton] at hc;subst hc;rfl
theorem R.isAgg {w0:World} {M:Mem} {w:World} {v:Value} {xs:List AV} (h:R w0 M w v (.agg xs)):∃ cs,v = .agg cs:=by
 cases h with
 | agg hl h1 h=>exact ⟨_,rfl⟩
theorem R.cells_one {w0:World} {M:Mem} {w:World} {v:Value} {x:AV} (h:R w0 M w v x) (hx:x.one=true):v.cells = #[v]∧x.cells=[x]:=by
 cases h with
 | agg=>cases hx
 | flat hf=>exact ⟨by cases v<;>first | rfl | simp [J4] at hf,rfl⟩
 | tup=>cases hx
 | _=>exact ⟨rfl,rfl⟩
def AV.pubCell:AV→AV
 | .list xs _ => .list xs .none
 | x=>x
def AV.pub:AV→AV
 | .agg cs => .agg (cs.map AV.pubCell)
 | .list xs _ => .list xs .none
 | x=>x
theorem R.pubCell {w0:World} {M:Mem} {w:World} {v:Value} {x:AV} (h:R w0 M w v x):R w0 M w v x.pubCell:=by
 cases h with
 | nil ho=>exact .nil (fun id=>by simp)
 | emp ho=>exact .emp (fun id=>by simp)
 | list sz us hc hm hcell hu ho=>exact .list sz us hc hm hcell hu trivial
 | flat hf=>exact .flat hf
 | agg hl h1 h=>exact .agg hl h1 h
 | tup hl h=>exact .tup hl h
 | elem u k hcell hu=>exact .elem u k hcell hu
 | box hl=>exact .box hl
 | clo hl h=>exact .clo hl h
 | yld hk=>exact .yld hk
 | vec hi hv h=>exact .vec hi hv h
 | vel hi hv h=>exact .vel hi hv h
theorem AV.one_pubCell (x:AV):x.pubCell.one=x.one:=by cases x<;>rfl
theorem R.pub {w0:World} {M:Mem} {w:World} {v:Value} {x:AV} (h:R w0 M w v x):R w0 M w v x.pub:=by
 cases h with
 | nil ho=>exact .nil (fun id=>by simp)
 | emp ho=>exact .emp (fun id=>by simp)
 | list sz us hc hm hcell hu ho=>exact .list sz us hc hm hcell hu trivial
 | flat hf=>exact .flat hf
 | agg hl h1 h=>exact .agg (by simpa using hl) (fun x d=>by obtain ⟨y,c,rfl⟩:=List.mem_map.1 d;rw [AV.one_pubCell];exact h1 y c) (fun i a b=>by simp only [List.getElem_map];exact (h i a (by simpa using b)).pubCell)
 | tup hl h=>exact .tup hl h
 | elem u k hcell hu=>exact .elem u k hcell hu
 | box hl=>exact .box hl
 | clo hl h=>exact .clo hl h
 | yld hk=>exact .yld hk
 | vec hi hv h=>exact .vec hi hv h
 | vel hi hv h=>exact .vel hi hv h
theorem AV.pub_cells_length (x:AV):x.pub.cells.length=x.cells.length:=by cases x<;>simp [AV.pub,AV.cells]
def MZ (P:Program) (t:TypeId):Option (Nat × Bool) :=
 match P.info? t,P.underlying t with
 | some i,some d=>some (i.size,match d with | .struct _ | .array _ _=>true | _=>false)
 | _,_=>none
def HS (P:Program) (t:TypeId) (f:Nat):Option (Nat × Nat × Bool) :=
 match P.underlying t with
 | some (.struct fs)=>match fs[f]? with
  | some x=>(MZ P x.type).map fun (s,a)=>(x.offset,s,a)
  | none=>none
 | _=>none
def OV (P:Program) (t:TypeId):Option (TypeId × Nat × Bool × Nat) :=
 match P.underlying t with
 | some (.slice e)=>match P.info? e,MZ P e with
  | some i,some (s,a)=>some (e,s,a,i.bytes)
  | _,_=>none
 | _=>none
def WJ (P:Program) (t:TypeId):Option (Nat × Nat × Bool) :=
 match P.underlying t with
 | some (.array n e)=>(MZ P e).map fun (s,a)=>(n,s,a)
 | _=>none
def M6 (P:Program) (t:TypeId):Bool :=
 match P.underlying t with | some .string=>true | _=>false
def U0 (P:Program) (t:TypeId):Bool :=
 match P.underlying t with
 | some (.slice e)=>(match P.underlying e with | some (.int .u8)=>true | _=>false)&&(match MZ P e with | some (1,false)=>true | _=>false)
 | _=>false
def Ql (P:Program) (t:TypeId):Option IntKind :=
 match P.underlying t with | some (.int k)=>some k | _=>none
def PC:Value→AV
 | .slice none 0 0 => .list [] .full
 | v => .val v
def Ku:Value→AV
 | .agg cs => .agg (cs.toList.map PC)
 | v=>PC v
def SJ:Value→Bool
 | .slice none 0 0=>true
 | v=>J4 v
def Q5:Value→Bool
 | .agg cs=>cs.toList.all SJ
 | v=>SJ v
def EW (P:Program) (t:TypeId):Option (List AV) :=
 match P.info? t with
 | some i=>match i.zero with
  | some z=>if Q5 z&&z.cells.size == i.size then some (Ku z).cells else none
  | none=>none
 | none=>none
abbrev Env:=List (Nat × Bool × AV)
def Eu:Env→Nat→Option (Bool × AV)
 | [],_=>none
 | (k,c,v)::r,s=>if k=s then some (c,v) else Eu r s
def EY:List Nat→Env→Env
 | [],_=>[]
 | s::K,e=>match Eu e s with
  | some (c,v)=>(s,c,v)::EY K e
  | none=>EY K e
def AD (e:Env):Operand→AV
 | .tmp t=>match Eu e t with | some (_,v)=>v | none => .junk
 | .const v=>Ku v
 | .func f => .clo f []
 | .global _ => .junk
def Ba (e:Env) (c:Bool):Operand→Prop
 | .tmp t=>match Eu e t with | some (c',_)=>(c=true→c'=true) | none=>False
 | .const v=>Q5 v=true
 | .func _=>True
 | .global _=>False
def LR:AV→Bool
 | .val (.bool b)=>b
 | _=>false
def Zr:AV→Bool
 | .val (.bool _)=>true
 | _=>false
def AV.sel (t:Bool):AV→AV→AV
 | .val (.bool x),.val (.bool y) => .val (.bool (if t then x else y))
 | a,b=>if t then a else b
def Dh (l:List AV) (off:Nat) (xs:List AV):List AV:=l.take off++xs++l.drop (off+xs.length)
def nth (l:List AV) (i:Nat):AV:=l.getD i .junk
def S3 (P:Program):List Field→Option (List (Nat × Nat))
 | []=>some []
 | f::fs=>match P.info? f.type,S3 P fs with
  | some i,some r=>some ((f.offset,i.size)::r)
  | _,_=>none
def HA (P:Program) (t:TypeId):Option (List (Nat × Nat)) :=
 match P.underlying t with
 | some (.struct fs)=>S3 P fs.toList
 | _=>none
def LQ (P:Program) (t:TypeId) (i:Nat):Option (Nat × Nat) :=
 match HA P t with
 | some l=>l[i]?
 | none=>match WJ P t with
  | some (_,s,_)=>some (i*s,s)
  | none=>none
def TS (P:Program) (t:TypeId):List AV→List (Nat × AV)→List AV
 | cs,[]=>cs
 | cs,(i,x)::r=>match LQ P t i with
  | some (o,_)=>TS P t (Dh cs o x.cells) r
  | none=>cs
def Qq (P:Program) (t:TypeId):Nat→List (Nat × AV)→Prop
 | _,[]=>True
 | n,(i,x)::r=>(match LQ P t i with
  | some (o,s)=>x.cells.length=s∧o+s≤n
  | none=>False)∧Qq P t n r
def CM:AV→Bool
 | .tup _=>false
 | _=>true
def Il:AV→Bool
 | .agg _=>true
 | _=>false
def inK:IntKind→Int→Prop
 | .i8,n => -128≤n∧n≤127
 | .i16,n => -32768≤n∧n≤32767
 | .i32,n => -2147483648≤n∧n≤2147483647
 | .i64,n => -9223372036854775808≤n∧n≤9223372036854775807
 | .u8,n=>0≤n∧n≤255
 | .u16,n=>0≤n∧n≤65535
 | .u32,n=>0≤n∧n≤4294967295
 | .u64,n=>0≤n∧n≤18446744073709551615
def Eb (x y:ByteArray):Bool:=x.data.toList == y.data.toList
def X7 (x y:ByteArray):Bool:=Op.bytesLess x.data.toList y.data.toList
def evBin:BinOp→Value→Value→Prop × Value
 | .add,.int k a,.int k' b=>(k=k'∧inK k (a+b),.int k (a+b))
 | .sub,.int k a,.int k' b=>(k=k'∧inK k (a-b),.int k (a-b))
 | .mul,.int k a,.int k' b=>(k=k'∧inK k (a*b),.int k (a*b))
 | .quo,.int k a,.int k' b=>(k=k'∧b≠0∧inK k (a.tdiv b),.int k (a.tdiv b))
 | .rem,.int k a,.int k' b=>(k=k'∧b≠0,.int k (a.tmod b))
 | .eql,.int k a,.int k' b=>(k=k',.bool (decide (a=b)))
 | .neq,.int k a,.int k' b=>(k=k',.bool (!decide (a=b)))
 | .lss,.int k a,.int k' b=>(k=k',.bool (decide (a<b)))
 | .leq,.int k a,.int k' b=>(k=k',.bool (decide (a≤b)))
 | .gtr,.int k a,.int k' b=>(k=k',.bool (decide (b<a)))
 | .geq,.int k a,.int k' b=>(k=k',.bool (decide (b≤a)))
 | .add,.string x,.string y=>(x.size+y.size≤9223372036854775807,.string (x++y))
 | .eql,.string x,.string y=>(True,.bool (Eb x y))
 | .neq,.string x,.string y=>(True,.bool (!Eb x y))
 | .lss,.string x,.string y=>(True,.bool (X7 x y))
 | .leq,.string x,.string y=>(True,.bool (X7 x y||Eb x y))
 | .gtr,.string x,.string y=>(True,.bool (!(X7 x y||Eb x y)))
 | .geq,.string x,.string y=>(True,.bool (!X7 x y))
 | .shr,.int k a,.int _ b=>(b=1∧0≤a,.int k (a / 2))
 | _,_,_=>(False,undef)
def evBB:BinOp→Bool→Bool→Prop × Bool
 | .eql,a,b=>(True,a == b)
 | .neq,a,b=>(True,a != b)
 | _,_,_=>(False,false)
def P4 (P:Program) (t:TypeId):Bool :=
 match P.underlying t with | some .bool=>true | _=>false
def Ni (P:Program) (t:TypeId):AV→AV→Prop
 | .val (.int k _),.val (.int k' _)=>(Ql P t).isSome=true∧k=k'
 | .val (.string _),.val (.string _)=>M6 P t=true
 | .val (.bool _),.val (.bool _)=>P4 P t=true
 | _,_=>False
def eqCell:AV→AV→Bool
 | .val (.int _ a),.val (.int _ b)=>decide (a=b)
 | .val (.string a),.val (.string b)=>Eb a b
 | .val (.bool a),.val (.bool b)=>a == b
 | _,_=>false
def Tu:List AV→List AV→Bool
 | [],[]=>true
 | x::xs,y::ys=>eqCell x y&&Tu xs ys
 | _,_=>false
def Zau (P:Program):List Field→Nat→List AV→List AV→Prop
 | [],_,[],[]=>True
 | f::fs,i,x::xs,y::ys=>f.name ≠ "_" ∧ f.offset=i∧MZ P f.type=some (1,false)∧Ni P f.type x y∧Zau P fs (i+1) xs ys
 | _,_,_,_=>False
def eqT (P:Program) (t:TypeId):Option (List Field) :=
 match P.underlying t with
 | some (.struct fs)=>if P.stoodInHeld t=false∧P.eqGuardType P.depth t=false then some fs.toList else none
 | _=>none
def Vj (P:Program) (op:BinOp) (t:TypeId) (xs ys:List AV):Prop × Bool :=
 match eqT P t,op with
 | some fs,.eql=>(Zau P fs 0 xs ys,Tu xs ys)
 | some fs,.neq=>(Zau P fs 0 xs ys,!Tu xs ys)
 | _,_=>(False,false)
def OD:AV→List AV
 | .agg xs=>xs
 | _=>[]
def evUn:UnOp→Value→Prop × Value
 | .not,.bool b=>(True,.bool (!b))
 | .neg,.int k a=>(inK k (0-a),.int k (0-a))
 | _,_=>(False,undef)
def J5:AV→Value
 | .val v=>v
 | _=>undef
def H6:AV→Bool
 | .val _=>true
 | _=>false
def A6:AV→Int
 | .val (.int _ n)=>n
 | _=>0
def L0:AV→IntKind
 | .val (.int k _)=>k
 | _ => .i64
def FO:AV→Bool
 | .val (.int _ _)=>true
 | _=>false
def Bj:AV→List AV
 | .list xs _=>xs
 | _=>[]
def C6:AV→Bool
 | .list _ _=>true
 | _=>false
def PZ:AV→Bool
 | .val (.string _)=>true
 | _=>false
def Zgh:AV→ByteArray
 | .val (.string s)=>s
 | _ => .empty
def XZ:AV→Prop
 | .val (.int .u8 n)=>0≤n∧n≤255
 | _=>False
def GG (xs:List AV):ByteArray:=⟨(xs.map fun x=>UInt8.ofNat (A6 x).toNat).toArray⟩
def Ih (l:List UInt8):List AV:=l.map fun b => .val (.int .u8 b.toNat)
def IH (rows:Aq) (id ver:Nat):Option (Nat × List AV) :=
 match rows[id]? with
 | some (.vec v sz cs)=>if v=ver then some (sz,cs) else none
 | _=>none
def BK (st:St):AV→List AV
 | .box l _=>st.boxes.getD l []
 | .elem x _=>x.cells
 | .vel id ver _=>match IH st.rows id ver with | some (_,cs)=>cs | none=>[]
 | _=>[]
def FV:AV→Nat
 | .box _ o=>o
 | .elem _ o=>o
 | .vel _ _ o=>o
 | _=>0
def Et (st:St):AV→Bool
 | .box l _=>decide (l<st.boxes.length)
 | .elem (.tup _) _=>false
 | .elem _ _=>true
 | .vel id ver _=>(IH st.rows id ver).isSome
 | _=>false
def Uw (x:AV) (n:Nat):AV :=
 match x with
 | .box l o => .box l (o+n)
 | .elem y o => .elem y (o+n)
 | .vel id ver o => .vel id ver (o+n)
 | x=>x
def RI (agg:Bool) (cs:List AV) (off sz:Nat):AV:=if agg then .agg ((cs.drop off).take sz) else nth cs off
def Xf (st:St) (a:AV) (xs:List AV):St :=
 match a with
 | .box l o=>{ st with boxes:=st.boxes.set l (Dh (st.boxes.getD l []) o xs) }
 | .vel id ver o=>match IH st.rows id ver with
  | some (sz,cs)=>{ st with rows:=st.rows.set id (.vec ver sz (Dh cs o xs)) }
  | none=>st
 | _=>st
def QG:AV→Bool
 | .box _ _=>true
 | .vel _ _ _=>true
 | _=>false
def Vb (P:Program) (t:TypeId) (x:AV):Prop × AV :=
 match x with
 | .val (.string s)=>(M6 P t=true,.val (.int .i64 s.size))
 | .list xs _=>((OV P t).isSome=true,.val (.int .i64 xs.length))
 | .vec _ _ _ n=>((OV P t).isSome=true,.val (.int .i64 n))
 | _=>(False,.junk)
def D1 (P:Program) (el sz by8:Nat) (n:Nat) (xs:List AV):Prop :=
 0<sz∧(EW P el).isSome=true∧(n+xs.length)*by8≤140737488355328∧n+xs.length≤4611686018427387904∧(∀ y∈xs,y.cells.length=sz∧CM y=true)
def B2 (P:Program) (st:St) (t:TypeId) (s x:AV):Prop × AV × St :=
 match OV P t with
 | some (el,sz,_,by8) =>
  match s with
  | .list ys .full=>if (Bj x).length=0 then (C6 x=true∧0<sz,.list ys .full,st)
   else (C6 x=true∧D1 P el sz by8 ys.length (Bj x)∧(∀ y∈ys,y.cells.length=sz),.list (ys++(Bj x).map AV.pub) (.row st.rows.length),{ st with rows:=st.rows++[.grow (ys.length+(Bj x).length) sz] })
  | .list ys (.row id)=>(C6 x=true∧D1 P el sz by8 ys.length (Bj x)∧(∀ y∈ys,y.cells.length=sz)∧st.rows[id]? = some (.grow ys.length sz),.list (ys++(Bj x).map AV.pub) (.row id),{ st with rows:=st.rows.set id (.grow (ys.length+(Bj x).length) sz) })
  | .list ys .seed=>(C6 x=true∧D1 P el sz by8 0 (Bj x)∧ys.length=0∧0<(Bj x).length,.vec st.rows.length 0 0 (Bj x).length,{ st with rows:=st.rows++[.vec 0 sz ((Bj x).flatMap fun y=>y.pub.cells)] })
  | .vec id ver o n=>match IH st.rows id ver with
   | some (sz',cs)=>(C6 x=true∧D1 P el sz by8 n (Bj x)∧sz'=sz∧o=0∧n*sz≤cs.length,.vec id (ver+1) 0 (n+(Bj x).length),{ st with rows:=st.rows.set id (.vec (ver+1) sz (cs.take (n*sz)++(Bj x).flatMap fun y=>y.pub.cells)) })
   | none=>(False,.junk,st)
  | _=>(False,.junk,st)
 | none=>(False,.junk,st)
def Ei (e:Env) (d:Int):Option Operand→Int
 | some y=>A6 (AD e y)
 | none=>d
def P1 (e:Env) (c:Bool):Option Operand→Prop
 | some y=>Ba e c y∧FO (AD e y)=true
 | none=>True
def Xo (st:St) (x:Prop × AV × St):Prop × AV × St:=(x.1,x.2.1,st)
def K0 (e:Env) (t:TypeId):Bool :=
 match Eu e (1000000+t) with
 | some _=>true
 | none=>false
def BB (P:Program) (e:Env) (c:Bool) (st:St):Op→Prop × AV × St
 | .move x | .assign x=>(Ba e c x,AD e x,st)
 | .pick b x y=>(Ba e c b∧Zr (AD e b)=true∧(c=true→LR (AD e b)=true→Ba e true x)∧(c=true→LR (AD e b)=false→Ba e true y),AV.sel (LR (AD e b)) (AD e x) (AD e y),st)
 | .alloc t=>match EW P t with
  | some z=>(c=true,.box st.boxes.length 0,{ st with boxes:=st.boxes++[z] })
  | none=>(False,.junk,st)
 | .box _ x=>(c=true∧Ba e c x∧CM (AD e x)=true,.box st.boxes.length 0,{ st with boxes:=st.boxes++[(AD e x).cells] })
 | .build t ps=>match EW P t with
  | some z=>(((HA P t).isSome=true∨(WJ P t).isSome=true)∧(∀ p∈ps.toList,Ba e c p.2∧CM (AD e p.2)=true)∧Qq P t z.length (ps.toList.map fun p=>(p.1,AD e p.2)),.agg (TS P t z (ps.toList.map fun p=>(p.1,AD e p.2))),st)
  | none=>(False,.junk,st)
 | .buildSlice t n ps =>
  let vs:=ps.toList.map fun p=>AD e p.2
  match OV P t with
  | some (el,sz,_,_)=>match K0 e t with
   | false=>((∀ p∈ps.toList,Ba e c p.2)∧ps.toList.map (·.1)=List.range n∧n*sz≤16777216∧0<sz∧(EW P el).isSome=true∧(∀ x∈vs,x.cells.length=sz),.list (vs.map AV.pub) .full,st)
   | true=>(c=true∧(∀ p∈ps.toList,Ba e c p.2)∧ps.toList.map (·.1)=List.range n∧n*sz≤16777216∧0<sz∧(EW P el).isSome=true∧(∀ x∈vs,x.cells.length=sz)∧(∀ x∈vs,CM x=true),.vec st.rows.length 0 0 n,{ st with rows:=st.rows++[.vec 0 sz (vs.flatMap fun x=>x.pub.cells)] })
  | none=>(False,.junk,st)
 | .load t a=>match MZ P t with
  | some (sz,ag)=>(Ba e c a∧Et st (AD e a)=true∧FV (AD e a)+sz≤(BK st (AD e a)).length∧(ag=true∨sz=1),RI ag (BK st (AD e a)) (FV (AD e a)) sz,st)
  | none=>(False,.junk,st)
 | .store t a v=>match MZ P t with
  | some (sz,_)=>(c=true∧Ba e c a∧Ba e c v∧QG (AD e a)=true∧Et st (AD e a)=true∧CM (AD e v)=true∧(AD e v).cells.length=sz∧FV (AD e a)+sz≤(BK st (AD e a)).length,.junk,Xf st (AD e a) (AD e v).cells)
  | none=>(False,.junk,st)
 | .nilCheck x=>(Ba e c x∧Et st (AD e x)=true,AD e x,st)
 | .binOp op t x y _=>if Zr (AD e x)&&Zr (AD e y) then (Ba e c x∧Ba e c y∧P4 P t=true∧(evBB op (LR (AD e x)) (LR (AD e y))).1,.val (.bool (evBB op (LR (AD e x)) (LR (AD e y))).2),st)
  else if Il (AD e x)&&Il (AD e y) then (Ba e c x∧Ba e c y∧(Vj P op t (OD (AD e x)) (OD (AD e y))).1,.val (.bool (Vj P op t (OD (AD e x)) (OD (AD e y))).2),st)
  else (Ba e c x∧Ba e c y∧H6 (AD e x)=true∧H6 (AD e y)=true∧(evBin op (J5 (AD e x)) (J5 (AD e y))).1,.val (evBin op (J5 (AD e x)) (J5 (AD e y))).2,st)
 | .unOp op _ x=>(Ba e c x∧H6 (AD e x)=true∧(evUn op (J5 (AD e x))).1,.val (evUn op (J5 (AD e x))).2,st)
 | .convert s d x=>match Ql P s,Ql P d with
  | some _,some k=>(Ba e c x∧FO (AD e x)=true∧inK k (A6 (AD e x)),.val (.int k (A6 (AD e x))),st)
  | some _,none=>(Ba e c x∧FO (AD e x)=true∧M6 P d=true,.val (.string (Utf8.encode (A6 (AD e x)))),st)
  | none,_=>if M6 P s&&M6 P d then (Ba e c x∧PZ (AD e x)=true,AD e x,st)
   else if U0 P s&&M6 P d then match AD e x with
    | .vec id ver o n=>match IH st.rows id ver with
     | some (sz',cs)=>(Ba e c x∧sz'=1∧o+n≤cs.length∧n≤9223372036854775807∧(∀ y∈(cs.drop o).take n,XZ y),.val (.string (GG ((cs.drop o).take n))),st)
     | none=>(False,.junk,st)
    | _=>(Ba e c x∧C6 (AD e x)=true∧(Bj (AD e x)).length≤9223372036854775807∧(∀ y∈Bj (AD e x),XZ y),.val (.string (GG (Bj (AD e x)))),st)
   else if M6 P s&&U0 P d then (c=true∧Ba e c x∧PZ (AD e x)=true,.list (Ih (Zgh (AD e x)).data.toList) .none,st)
   else (False,.junk,st)
 | .makeFunc (.func f) fi cap=>(fi.size=0∧(∀ x∈cap.toList,Ba e c x),.clo f (cap.toList.map (AD e)),st)
 | .makeSlice t len cap=>match OV P t with
  | some (el,sz,_,by8)=>match EW P el with
   | some z=>(c=true∧Ba e c len∧Ba e c cap∧FO (AD e len)=true∧FO (AD e cap)=true∧0≤A6 (AD e len)∧A6 (AD e len)≤A6 (AD e cap)∧A6 (AD e cap)*by8≤140737488355328∧A6 (AD e cap)≤4611686018427387904∧0<sz∧z.length=sz∧(A6 (AD e len)=0∨K0 e t=true∨sz=1),
     if A6 (AD e len)=0 then .list [] (.row st.rows.length) else if K0 e t=true then .vec st.rows.length 0 0 (A6 (AD e len)).toNat else .list (List.replicate (A6 (AD e len)).toNat (nth z 0)) .none,
     if A6 (AD e len)=0 then { st with rows:=st.rows++[.grow 0 sz] } else if K0 e t=true then { st with rows:=st.rows++[.vec 0 sz ((List.replicate (A6 (AD e len)).toNat z).flatten)] } else st)
   | none=>(False,.junk,st)
  | none=>(False,.junk,st)
 | .slice t x lo hi mx=>match AD e x with
  | .vec id ver o n=>match OV P t,IH st.rows id ver with
   | some (_,sz,_,_),some (sz',_)=>(Ba e c x∧P1 e c lo∧P1 e c hi∧mx.isNone=true∧0≤Ei e 0 lo∧Ei e 0 lo≤Ei e n hi∧Ei e n hi≤n∧(Ei e 0 lo=0∨Ei e 0 lo<n)∧sz'=sz,.vec id ver (o+(Ei e 0 lo).toNat) ((Ei e n hi).toNat-(Ei e 0 lo).toNat),st)
   | _,_=>(False,.junk,st)
  | .val (.string s) =>
   (M6 P t=true∧Ba e c x∧P1 e c lo∧P1 e c hi∧mx.isNone=true∧0≤Ei e 0 lo∧Ei e 0 lo≤Ei e s.size hi∧Ei e s.size hi≤s.size,.val (.string (s.extract (Ei e 0 lo).toNat (Ei e s.size hi).toNat)),st)
  | .list xs _=>match OV P t with
   | some (_,sz,_,_)=>match mx with
    | none=>(Ba e c x∧P1 e c lo∧P1 e c hi∧0≤Ei e 0 lo∧Ei e 0 lo≤Ei e xs.length hi∧Ei e xs.length hi≤xs.length∧(Ei e 0 lo=0∨∀ y∈xs,y.cells.length=sz),.list ((xs.take (Ei e xs.length hi).toNat).drop (Ei e 0 lo).toNat) .none,st)
    | some m=>(Ba e c x∧P1 e c lo∧P1 e c hi∧P1 e c (some m)∧Ei e 0 lo=0∧Ei e 1 hi=0∧Ei e 1 (some m)=0,.list [] .full,st)
   | none=>(False,.junk,st)
  | _=>(False,.junk,st)
 | .fieldAddr t x f=>match HS P t f with
  | some (o,sz,_)=>(Ba e c x∧Et st (AD e x)=true∧0<sz,Uw (AD e x) o,st)
  | none=>(False,.junk,st)
 | .field t x f=>match HS P t f with
  | some (o,sz,ag)=>(Ba e c x∧Il (AD e x)=true∧o+sz≤(AD e x).cells.length∧(ag=true∨sz=1),RI ag (AD e x).cells o sz,st)
  | none=>(False,.junk,st)
 | .indexAddr t x i=>Xo st <| match OV P t with
  | some (_,sz,_,_)=>match AD e x with
   | .vec id ver o n=>match IH st.rows id ver with
    | some (sz',_)=>(Ba e c x∧Ba e c i∧FO (AD e i)=true∧0≤A6 (AD e i)∧A6 (AD e i)<n∧sz'=sz,.vel id ver ((o+(A6 (AD e i)).toNat)*sz),st)
    | none=>(False,.junk,st)
   | _=>(Ba e c x∧Ba e c i∧C6 (AD e x)=true∧FO (AD e i)=true∧0≤A6 (AD e i)∧A6 (AD e i)<(Bj (AD e x)).length∧(nth (Bj (AD e x)) (A6 (AD e i)).toNat).cells.length=sz,.elem (nth (Bj (AD e x)) (A6 (AD e i)).toNat) 0,st)
  | none=>match WJ P t with
   | some (n,sz,_)=>(Ba e c x∧Ba e c i∧Et st (AD e x)=true∧FO (AD e i)=true∧0≤A6 (AD e i)∧A6 (AD e i)<n,Uw (AD e x) ((A6 (AD e i)).toNat*sz),st)
   | none=>(False,.junk,st)
 | .index t x i=>Xo st <| match AD e x with
  | .val (.string s)=>(M6 P t=true∧Ba e c x∧Ba e c i∧FO (AD e i)=true∧0≤A6 (AD e i)∧A6 (AD e i)<s.size,.val (.int .u8 (s.get! (A6 (AD e i)).toNat).toNat),st)
  | .agg cs=>match WJ P t with
   | some (n,sz,ag)=>(Ba e c x∧Ba e c i∧FO (AD e i)=true∧0≤A6 (AD e i)∧A6 (AD e i)<n∧cs.length=n*sz∧(ag=true∨sz=1),RI ag cs ((A6 (AD e i)).toNat*sz) sz,st)
   | none=>(False,.junk,st)
  | _=>(False,.junk,st)
 | .extract x i=>Xo st <| match AD e x with
  | .tup vs=>(Ba e c x∧i<vs.length,nth vs i,st)
  | _=>(False,.junk,st)
 | .call ⟨.builtin .len,args,ts⟩=>match args.toList,ts.toList with
  | [x],[t]=>(Ba e c x∧(Vb P t (AD e x)).1,(Vb P t (AD e x)).2,st)
  | _,_=>(False,.junk,st)
 | .call ⟨.builtin .append,args,ts⟩=>match args.toList,ts.toList with
  | [s,x],[t,t']=>(c=true∧Ba e c s∧Ba e c x∧t=t'∧(B2 P st t (AD e s) (AD e x)).1,(B2 P st t (AD e s) (AD e x)).2)
  | _,_=>(False,.junk,st)
 | .call ⟨.builtin .min,args,_⟩=>match args.toList with
  | [x,y]=>(Ba e c x∧Ba e c y∧FO (AD e x)=true∧FO (AD e y)=true∧True,.val (.int (L0 (AD e x)) (if A6 (AD e y)<A6 (AD e x) then A6 (AD e y) else A6 (AD e x))),st)
  | _=>(False,.junk,st)
 | .call ⟨.builtin .max,args,_⟩=>match args.toList with
  | [x,y]=>(Ba e c x∧Ba e c y∧FO (AD e x)=true∧FO (AD e y)=true,.val (.int (L0 (AD e x)) (if A6 (AD e x)<A6 (AD e y) then A6 (AD e y) else A6 (AD e x))),st)
  | _=>(False,.junk,st)
 | _=>(False,.junk,st)
def entryOk (w0:World) (M:Mem) (w:World) (v:Value) (x:Bool × AV):Prop:=if x.1=true then R w0 M w v x.2 else v=undef
structure LoopSt (w0:World) (M:Mem) (w:World) (ls:Ar):Prop where
 NL:M.NL=ls.length
 inj:∀ k k',k<M.NL→k'<M.NL→M.lb k=M.lb k'→k=k'
 record:∀ k la,ls[k]? = some la→w0.heap.size≤M.lb k∧∃ r:Loop,w.heap[M.lb k]? = some (.loop r)∧r.state=la.st∧r.pending=la.pend∧r.params=la.ps∧r.assign=la.asg∧r.body=la.body ∧
  r.tmps.size=la.n∧∀ s x,Eu la.e s=some x→entryOk w0 M w (r.tmps.getD s undef) x
theorem entryOk.mono {w0:World} {M M':Mem} {w w':World} (hx:Ext w0 M w M' w') {v:Value} {x:Bool × AV} (h:entryOk w0 M w v x):entryOk w0 M' w' v x:=by
 unfold entryOk at *
 split
 ·rename_i c;rw [Ah c] at h;exact h.mono hx
 ·rename_i c;rw [Ai c] at h;exact h
theorem LoopSt.mono {w0:World} {M M':Mem} {w w':World} {ls:List LoopA} (h:LoopSt w0 M w ls) (hx:Ext w0 M w M' w') (hN:M'.NL=M.NL) (hk:KeepsObj w w'):LoopSt w0 M' w' ls where
 NL:=hN.trans h.NL
 inj:=fun k c f d e=>h.inj k c (hN▸f) (hN▸d) (by rw [hx.lb k (hN▸f),hx.lb c (hN▸d)] at e;exact e)
 record:=fun k j a=>by
  have b:k<M.NL:=by rw [h.NL];exact (Aj.1 a).1
  obtain ⟨a1,r,a2,a3,a4,a5,a6,a7,g,i⟩:=h.record k j a
  rw [hx.lb k b]
  exact ⟨a1,r,hk _ _ a2 rfl,a3,a4,a5,a6,a7,g,fun s x hs=>(i s x hs).mono hx⟩
def RowOk (w0:World) (M:Mem) (w:World) (id:Nat):RowA→Prop
 | .grow n sz=>M.fr id=n∧M.rsz id=sz∧w0.heap.size≤M.blk id∧M.top (M.blk id)=n*sz∧(∀ l,l<M.N→M.bx l≠M.blk id)∧M.cap id≤maxLen∧n≤M.cap id ∧
  ∃ c ty,w.heap[M.blk id]? = some (.cells c ty (0,0))∧c.size=M.cap id*sz
 | .vec ver sz cs=>M.fr id=ver∧M.rsz id=sz∧w0.heap.size≤M.blk id∧M.top (M.blk id)=0∧(∀ l,l<M.N→M.bx l≠M.blk id)∧M.cap id≤maxLen∧0<sz ∧
  ∃ c ty,w.heap[M.blk id]? = some (.cells c ty (0,0))∧c.size=M.cap id*sz∧cs.length≤c.size∧(∀ x∈cs,x.one=true)∧∀ i (h1:i<c.size) (h2:i<cs.length),R w0 M w c[i] cs[i]
 | .dead ver=>M.fr id=ver∧w0.heap.size≤M.blk id∧(∀ l,l<M.N→M.bx l≠M.blk id)∧M.blk id<w.heap.size
theorem RowOk.base {w0:World} {M:Mem} {w:World} {id:Nat} {x:RowA} (h:RowOk w0 M w id x):w0.heap.size≤M.blk id:=by
 cases x with
 | grow n sz=>exact h.2.2.1
 | vec v sz cs=>exact h.2.2.1
 | dead v=>exact h.2.1
theorem RowOk.ne {w0:World} {M:Mem} {w:World} {id:Nat} {x:RowA} (h:RowOk w0 M w id x):∀ l,l<M.N→M.bx l≠M.blk id:=by
 cases x with
 | grow n sz=>exact h.2.2.2.2.1
 | vec v sz cs=>exact h.2.2.2.2.1
 | dead v=>exact h.2.2.1
theorem RowOk.lt {w0:World} {M:Mem} {w:World} {id:Nat} {x:RowA} (h:RowOk w0 M w id x):M.blk id<w.heap.size:=by
 cases x with
 | grow n sz=>obtain ⟨_,_,_,_,_,_,_,c,b,a,_⟩:=h;exact (Array.getElem?_eq_some_iff.1 a).1
 | vec v sz cs=>obtain ⟨_,_,_,_,_,_,_,c,b,a,_⟩:=h;exact (Array.getElem?_eq_some_iff.1 a).1
 | dead v=>exact h.2.2.2
theorem RowOk.keep {w0:World} {M M':Mem} {w w':World} {id:Nat} {x:RowA} (h:RowOk w0 M w id x) (hx:Ext w0 M w M' w') (e1:M'.fr id=M.fr id) (e2:M'.rsz id=M.rsz id) (e3:M'.blk id=M.blk id) (e4:M'.cap id=M.cap id)
  (e5:M'.top (M.blk id)=M.top (M.blk id)) (e6:∀ l,l<M'.N→M'.bx l≠M.blk id) (e7:w'.heap[M.blk id]? = w.heap[M.blk id]?):RowOk w0 M' w' id x:=by
 cases x with
 | grow n sz =>
  obtain ⟨a1,a2,a3,a4,a5,a6,a7,c,d,a,b⟩:=h
  simp only [RowOk,e1,e2,e3,e4,e5,e7]
  exact ⟨a1,a2,a3,a4,e6,a6,a7,c,d,a,b⟩
 | vec v sz cs =>
  obtain ⟨a1,a2,a3,a4,a5,a6,a7,c,d,a,b,k,j,f⟩:=h
  simp only [RowOk,e1,e2,e3,e4,e5,e7]
  exact ⟨a1,a2,a3,a4,e6,a6,a7,c,d,a,b,k,j,fun i g e=>(f i g e).mono hx⟩
 | dead v =>
  obtain ⟨a1,a2,a3,a4⟩:=h
  simp only [RowOk,e1,e3]
  exact ⟨a1,a2,e6,Nat.lt_of_lt_of_le a4 hx.size⟩
structure RelSt (w0:World) (M:Mem) (st:St) (w:World):Prop where
 below:Below w0.heap.size w0 w
 N:M.N=st.boxes.length
 NR:M.NR=st.rows.length
 top:∀ b,w.heap.size≤b→M.top b=0
 inj:∀ l l',l<M.N→l'<M.N→M.bx l=M.bx l'→l=l'
 box:∀ l cs,st.boxes[l]? = some cs→w0.heap.size≤M.bx l∧M.top (M.bx l)=0∧∃ c ty,w.heap[M.bx l]? = some (.cells c ty (0,0))∧c.size=cs.length∧(∀ x∈cs,x.one=true) ∧
  ∀ i (h1:i<c.size) (h2:i<cs.length),R w0 M w c[i] cs[i]
 row:∀ id x,st.rows[id]? = some x→RowOk w0 M w id x
 rowinj:∀ i j,i<M.NR→j<M.NR→M.blk i=M.blk j→i=j
 loop:LoopSt w0 M w st.loops
structure Rel (w0:World) (n:Nat) (M:Mem) (e:Env) (st:St) (a:Act) (w:World):Prop where
 st:RelSt w0 M st w
 size:a.tmps.size=n
 env:∀ s x,Eu e s=some x→entryOk w0 M w (a.tmps.getD s undef) x
section
variable {P:Program} {w0:World} {n:Nat} {M:Mem} {e:Env} {st:St} {a:Act} {w:World}
theorem OC {t:TypeId} {s:Nat} {b:Bool} (h:MZ P t=some (s,b)):∃ i d,P.info? t=some i∧i.size=s∧P.underlying t=some d∧(match d with | .struct _ | .array _ _=>true | _=>false)=b:=by
 unfold MZ at h
 split at h
 ·rename_i i d h1 h2
  simp only [Option.some.injEq,Prod.mk.injEq] at h
  exact ⟨i,d,h1,h.1,h2,h.2⟩
 ·cases h
theorem CC {t:TypeId} {s:Nat} {b:Bool} (h:MZ P t=some (s,b)) (w:World):(sizeOf t).run P w = .ok s w:=by
 obtain ⟨i,d,a,c,_,_⟩:=OC h
 simp [sizeOf,typeInfo,a,c]
theorem Xk {t:TypeId} {s:Nat} {b:Bool} (h:MZ P t=some (s,b)) (w:World):(isAgg t).run P w = .ok b w:=by
 obtain ⟨i,d,_,_,a,h4⟩:=OC h
 unfold isAgg
 rw [Sem.run_bind,run_underlying a w]
 subst h4
 cases d<;>rfl
theorem YL {t:TypeId} {f o s:Nat} {b:Bool} (h:HS P t f=some (o,s,b)):∃ fs x,P.underlying t=some (.struct fs)∧fs[f]? = some x∧x.offset=o∧MZ P x.type=some (s,b):=by
 unfold HS at h
 split at h
 ·rename_i fs h1
  split at h
  ·rename_i x h2
   obtain ⟨⟨e,d⟩,c,a⟩:=Option.map_eq_some_iff.1 h
   simp only [Prod.mk.injEq] at a
   obtain ⟨rfl,rfl,rfl⟩:=a
   exact ⟨fs,x,h1,h2,rfl,c⟩
  ·cases h
 ·cases h
theorem Iz {t el:TypeId} {s by8:Nat} {b:Bool} (h:OV P t=some (el,s,b,by8)):∃ i,P.underlying t=some (.slice el)∧P.info? el=some i∧i.bytes=by8∧MZ P el=some (s,b):=by
 unfold OV at h
 split at h
 ·rename_i e' h1
  split at h
  ·rename_i i s' b' h2 h3
   simp only [Option.some.injEq,Prod.mk.injEq] at h
   obtain ⟨rfl,rfl,rfl,rfl⟩:=h
   exact ⟨i,h1,h2,rfl,h3⟩
  ·cases h
 ·cases h
theorem UW {t:TypeId} {m s:Nat} {b:Bool} (h:WJ P t=some (m,s,b)):∃ el,P.underlying t=some (.array m el)∧MZ P el=some (s,b):=by
 unfold WJ at h
 split at h
 ·rename_i m' el h1
  obtain ⟨⟨e,d⟩,c,a⟩:=Option.map_eq_some_iff.1 h
  simp only [Prod.mk.injEq] at a
  obtain ⟨rfl,rfl,rfl⟩:=a
  exact ⟨el,h1,c⟩
 ·cases h
theorem GQ {t:TypeId} (h:M6 P t=true):P.underlying t=some .string:=by
 unfold M6 at h
 split at h
 ·assumption
 ·cases h
theorem Uu {t:TypeId} {k:IntKind} (h:Ql P t=some k):P.underlying t=some (.int k):=by
 unfold Ql at h
 split at h
 ·rename_i k' h1;cases h;exact h1
 ·cases h
theorem ZdH:R w0 M w undef .junk := .tup rfl (fun i a=>absurd a (by simp))
theorem Zbs {v:Value} (h:SJ v=true):R w0 M w v (PC v):=by
 unfold PC
 split
 ·exact .nil (fun id=>by simp)
 ·rename_i hne
  refine .flat ?_
  unfold SJ at h
  split at h
  ·exact absurd rfl hne
  ·exact h
theorem Zdf {v:Value} (h:SJ v=true):(PC v).one=true:=by
 unfold PC
 split<;>rfl
theorem Un {v:Value} (h:Q5 v=true):R w0 M w v (Ku v):=by
 cases v with
 | agg cs =>
  have a:∀ x∈cs.toList,SJ x=true:=List.all_eq_true.1 h
  refine .agg (by simp) (fun x c=>?_) (fun i e d=>?_)
  ·obtain ⟨y,b,rfl⟩:=List.mem_map.1 c
   exact Zdf (a y b)
  ·simp only [List.getElem_map,Array.getElem_toList]
   exact Zbs (a _ (by simp))
 | _=>exact Zbs h
theorem BE (h:Rel w0 n M e st a w) {x:Operand} (ho:Ba e true x):R w0 M w (a.eval x) (AD e x):=by
 cases x with
 | tmp t =>
  simp only [Ba,AD] at *
  cases hl:Eu e t with
  | none=>simp [hl] at ho
  | some x =>
   obtain ⟨c,v⟩:=x
   simp only [hl] at ho ⊢
   have:=h.env t _ hl
   unfold entryOk at this
   rw [Ah (by simpa using ho)] at this
   exact this
 | const v=>exact Un ho
 | func f=>exact .clo rfl (fun i b=>absurd b (by simp))
 | global g=>exact ho.elim
theorem R.val_inv {v u:Value} (h:R w0 M w v (.val u)):v=u∧J4 u=true:=by cases h;exact ⟨rfl,‹_›⟩
theorem R.plain {v:Value} {x:AV} (h:R w0 M w v x) (hp:H6 x=true):v=J5 x∧J4 (J5 x)=true∧x = .val (J5 x):=by
 cases x with
 | val u=>obtain ⟨rfl,a⟩:=h.val_inv;exact ⟨rfl,a,rfl⟩
 | _=>cases hp
theorem R.int {v:Value} {x:AV} (h:R w0 M w v x) (hp:FO x=true):v = .int (L0 x) (A6 x)∧x = .val (.int (L0 x) (A6 x)):=by
 cases x with
 | val u =>
  obtain ⟨rfl,a⟩:=h.val_inv
  cases v<;>first | exact ⟨rfl,rfl⟩ | cases hp
 | _=>cases hp
theorem R.bool {v:Value} {x:AV} (h:R w0 M w v x) (hp:Zr x=true):v = .bool (LR x)∧x = .val (.bool (LR x)):=by
 cases x with
 | val u =>
  obtain ⟨rfl,a⟩:=h.val_inv
  cases v<;>first | exact ⟨rfl,rfl⟩ | cases hp
 | _=>cases hp
def Yields' (P:Program) (w0:World) (M:Mem) (st':St) (r:AV) (w:World) (s:Sem Next):Prop :=
 ∃ v w' M',(s.run P w = .ok (.value v) w'∨(s.run P w = .ok .skip w'∧v=undef))∧Ext w0 M w M' w'∧RelSt w0 M' st' w'∧R w0 M' w' v r
theorem Oc (hst:RelSt w0 M st w) {s:Sem Next} {v:Value} {r:AV} (hs:s.run P w = .ok (.value v) w) (hr:R w0 M w v r):Yields' P w0 M st r w s :=
 ⟨v,w,M,.inl hs,Ext.refl _ _ _,hst,hr⟩
theorem OX {k:IntKind} {m:Int} (h:inK k m):k.wrap m=m:=by
 cases k<;>simp only [inK] at h<;>simp only [IntKind.wrap,IntKind.signed,IntKind.bits]<;>simp<;>omega
theorem Ss (x y:ByteArray):(x.toList == y.toList)=Eb x y:=by
 unfold Eb
 rw [Lib.toList_data,Lib.toList_data]
theorem Za0 {op:BinOp} {x y:Value} {t:TypeId} {X Y:Operand} (h:(evBin op x y).1) :
  (do eqGuard op t X Y x y;binOp op t x y:Sem Value).run P w = .ok (evBin op x y).2 w:=by
 unfold evBin at h ⊢
 split at h<;>simp only at h ⊢ <;> try exact h.elim
 case h_1 k a k' b=>obtain ⟨rfl,h⟩:=h;simp [eqGuard,binOp,Op.intArith,OX h]
 case h_2 k a k' b=>obtain ⟨rfl,h⟩:=h;simp [eqGuard,binOp,Op.intArith,OX h]
 case h_3 k a k' b=>obtain ⟨rfl,h⟩:=h;simp [eqGuard,binOp,Op.intArith,OX h]
 case h_4 k a k' b =>
  obtain ⟨rfl,c,h⟩:=h
  simp [eqGuard,binOp,Op.intDiv,c,OX h]
 case h_5 k a k' b =>
  obtain ⟨rfl,c⟩:=h
  simp [eqGuard,binOp,Op.intDiv,c]
 case h_6 k a k' b=>subst h;simp [eqGuard,binOp,Op.intCmp];rfl
 case h_7 k a k' b=>subst h;simp [eqGuard,binOp,Op.intCmp];rfl
 case h_8 k a k' b=>subst h;simp [eqGuard,binOp,Op.intCmp]
 case h_9 k a k' b=>subst h;simp [eqGuard,binOp,Op.intCmp]
 case h_10 k a k' b=>subst h;simp [eqGuard,binOp,Op.intCmp]
 case h_11 k a k' b=>subst h;simp [eqGuard,binOp,Op.intCmp]
 case h_12 x y =>
  have e:¬ (((x.size+y.size:Nat):Int) > IntKind.i64.max):=by simp [IntKind.max,IntKind.signed,IntKind.bits];omega
  simp only [eqGuard,binOp,Op.stringOp,Ai e]
  simp
 case h_13 x y=>simp [eqGuard,binOp,Op.stringOp,Ss]
 case h_14 x y=>simp [eqGuard,binOp,Op.stringOp,Ss]
 case h_15 x y=>simp [eqGuard,binOp,Op.stringOp,Lib.toList_data,X7]
 case h_16 x y=>simp [eqGuard,binOp,Op.stringOp,Lib.toList_data,X7,Eb]
 case h_17 x y=>simp [eqGuard,binOp,Op.stringOp,Lib.toList_data,X7,Eb]
 case h_18 x y=>simp [eqGuard,binOp,Op.stringOp,Lib.toList_data,X7]
 case h_19 k a k' b =>
  obtain ⟨rfl,h⟩:=h
  have e:Nat.min (Int.toNat 1) k.bits=1:=by cases k<;>rfl
  have d:min (Int.toNat 1) k.bits=1:=by cases k<;>rfl
  simp only [eqGuard,binOp,Op.shift,e,d]
  simp [Int.fdiv_eq_ediv_of_nonneg]
section
theorem ZC {d:Nat} {t:TypeId} {u v:Value} (h:Ni P t (.val u) (.val v)):(Op.equalIn (d+1) t u v).run P w = .ok (eqCell (.val u) (.val v)) w:=by
 unfold Ni at h
 split at h
 ·rename_i k a k' b e1 e2
  cases e1;cases e2
  obtain ⟨h1,rfl⟩:=h
  unfold Ql at h1
  split at h1
  ·rename_i k1 hk
   rw [run_equalIn_int w d t _ k1 a b hk];rfl
  ·cases h1
 ·rename_i a b e1 e2
  cases e1;cases e2
  unfold M6 at h
  split at h
  ·rename_i hk
   rw [run_equalIn_string w d t a b hk,Ss];rfl
  ·cases h
 ·rename_i a b e1 e2
  cases e1;cases e2
  unfold P4 at h
  split at h
  ·rename_i hk
   rw [run_equalIn_bool' w d t a b hk];rfl
  ·cases h
 ·exact h.elim
theorem ZZ {t:TypeId} {x y:AV} (h:Ni P t x y):∃ u v,x = .val u∧y = .val v:=by
 unfold Ni at h
 split at h
 ·exact ⟨_,_,rfl,rfl⟩
 ·exact ⟨_,_,rfl,rfl⟩
 ·exact ⟨_,_,rfl,rfl⟩
 ·exact h.elim
theorem Zbx {t:TypeId} (ht:MZ P t=some (1,false)) {cs:Array Value} {i:Nat} {v:Value} (h:cs[i]? = some v):(part t cs i).run P w = .ok v w:=by
 obtain ⟨c,d,f,e,a,h4⟩:=OC ht
 have b:(isAgg t).run P w = .ok false w:=by
  simp only [isAgg,Sem.run_bind,run_underlying a,Result.andThen_ok]
  cases d<;>first | (cases h4;done) | rfl | (cases h4;rfl)
 simp [part,b,h]
theorem Nr (d:Nat) {cs ds:Array Value}:∀ (fs:List Field) (i:Nat) (xs ys:List AV),Zau P fs i xs ys→(∀ j v,xs[j]? = some (.val v)→cs[i+j]? = some v)→(∀ j v,ys[j]? = some (.val v)→ds[i+j]? = some v) →
  (Op.eqFields (d+1) cs ds fs).run P w = .ok (Tu xs ys) w
 | [],_,[],[],_,_,_=>by simp [Op.eqFields,Tu]
 | f::fs,i,x::xs,y::ys,h,hx,hy=>by
  obtain ⟨k,rfl,c,e,l⟩:=h
  obtain ⟨u,v,rfl,rfl⟩:=ZZ e
  have g:=Zbx (w:=w) c (hx 0 u rfl)
  have b:=Zbx (w:=w) c (hy 0 v rfl)
  simp only [Nat.add_zero] at g b
  have ih:=Nr d fs _ xs ys l (fun j v a=>by rw [Nat.add_assoc,Nat.add_comm 1 j];exact hx (j+1) v a) (fun j v a=>by rw [Nat.add_assoc,Nat.add_comm 1 j];exact hy (j+1) v a)
  simp only [Op.eqFields,Ah k,Sem.run_bind,g,b,Result.andThen_ok,ZC e,Tu]
  cases hc:eqCell (.val u) (.val v)
  ·simp
  ·simp [ih]
 | [],_,[],_::_,h,_,_=>h.elim
 | [],_,_::_,_,h,_,_=>h.elim
 | _::_,_,[],_,h,_,_=>h.elim
 | _::_,_,_::_,[],h,_,_=>h.elim
theorem Zeg {op:BinOp} {t:TypeId} {cs ds:Array Value} {xs ys:List AV} {X Y:Operand} (h:(Vj P op t xs ys).1) (hx:∀ (j:Nat) (v:Value),xs[j]? = some (.val v)→cs[j]? = some v) (hy:∀ (j:Nat) (v:Value),ys[j]? = some (.val v)→ds[j]? = some v) :
  (do eqGuard op t X Y (.agg cs) (.agg ds);binOp op t (.agg cs) (.agg ds):Sem Value).run P w = .ok (.bool (Vj P op t xs ys).2) w:=by
 unfold Vj at h ⊢
 unfold eqT at h ⊢
 cases hu:P.underlying t with
 | none=>rw [hu] at h;exact h.elim
 | some d =>
  cases d<;>(try (rw [hu] at h;exact h.elim))
  rename_i fs
  rw [hu] at h
  simp only at h ⊢
  by_cases hc:P.stoodInHeld t=false∧P.eqGuardType P.depth t=false
  ·rw [Ah hc] at h ⊢
   have c:P.fieldsOf t=fs:=by unfold Program.fieldsOf;rw [hu]
   have b:P.underlying t=some (.struct (P.fieldsOf t)):=by rw [c];exact hu
   cases op<;>simp only at h ⊢ <;> (try exact h.elim)
   ·have:=Nr (P:=P) (w:=w) 9998 fs.toList 0 xs ys h (fun j v a=>by rw [Nat.zero_add];exact hx j v a) (fun j v a=>by rw [Nat.zero_add];exact hy j v a)
    simp only [Sem.run_bind,run_eqGuard_agg w _ t X Y cs ds hc.2,Result.andThen_ok,run_eql_struct,run_equalIn_agg w 9999 t cs ds b hc.1,c,this]
   ·have:=Nr (P:=P) (w:=w) 9998 fs.toList 0 xs ys h (fun j v a=>by rw [Nat.zero_add];exact hx j v a) (fun j v a=>by rw [Nat.zero_add];exact hy j v a)
    simp only [Sem.run_bind,run_eqGuard_agg w _ t X Y cs ds hc.2,Result.andThen_ok,run_neq_struct,run_equalIn_agg w 9999 t cs ds b hc.1,c,this]
  ·rw [Ai hc] at h;exact h.elim
end
theorem R.aggC {w0:World} {M:Mem} {w:World} {v:Value} {x:AV} (h:R w0 M w v x) (hx:Il x=true):∃ cs,v = .agg cs∧∀ (j:Nat) (u:Value),(OD x)[j]? = some (.val u)→cs[j]? = some u:=by
 cases h with
 | @agg cs xs hl h1 h =>
  refine ⟨cs,rfl,fun j u c=>?_⟩
  replace c:xs[j]? = some (.val u):=c
  obtain ⟨b,e⟩:=Aj.1 c
  have hr:=h j (by omega) b
  have a:xs[j]'b = .val u:=e
  rw [a] at hr
  have d:j<cs.size:=by omega
  rw [Array.getElem?_eq_getElem d]
  generalize cs[j]=q at hr
  cases hr
  rfl
 | _=>cases hx
theorem Zdb {op:BinOp} {x y:Value} (h:(evBin op x y).1):J4 (evBin op x y).2=true:=by
 unfold evBin at h ⊢
 split at h<;>simp only at h ⊢ <;> try first | exact h.elim | rfl
 rename_i x y
 have e:(x++y).size=x.size+y.size:=ByteArray.size_append
 simp only [J4,maxLen,e]
 simp
 omega
theorem ZcL {op:UnOp} {x:Value} (h:(evUn op x).1):(Op.unary op x).run P w = .ok (evUn op x).2 w:=by
 unfold evUn at h ⊢
 split at h<;>simp only at h ⊢ <;> try exact h.elim
 ·simp [Op.unary]
 ·have e:=OX h
  simp only [Op.unary,Op.intArith,e]
  rfl
theorem ZeV {op:UnOp} {x:Value} (h:(evUn op x).1):J4 (evUn op x).2=true:=by
 unfold evUn at h ⊢
 split at h<;>simp only at h ⊢ <;> first | exact h.elim | rfl
theorem F9 (b o j:Nat):(⟨b,o,none⟩:Addr).add j=⟨b,o+j,none⟩:=by
 unfold Addr.add
 split
 ·subst j;rfl
 ·rfl
theorem I5 {rows:List RowA} {id ver sz:Nat} {cs:List AV} (h:IH rows id ver=some (sz,cs)):rows[id]? = some (.vec ver sz cs):=by
 unfold IH at h
 split at h
 ·rename_i v s c he
  split at h
  ·rename_i hv;cases h;rw [he,hv]
  ·cases h
 ·cases h
theorem UO {rows:List RowA} {id ver:Nat} (h:(IH rows id ver).isSome=true):∃ sz cs,IH rows id ver=some (sz,cs):=by
 obtain ⟨⟨a,b⟩,h⟩:=Option.isSome_iff_exists.1 h
 exact ⟨a,b,h⟩
theorem ZbG (hst:RelSt w0 M st w) {v:Value} {x:AV} (h:R w0 M w v x) (hr:Et st x=true) :
  ∃ b o,v = .pointer (some ⟨b,o+FV x,none⟩)∧(∀ c∈BK st x,c.one=true)∧∀ j (hj:j<(BK st x).length),∃ u,w.cell? ⟨b,o+j,none⟩=some u∧R w0 M w u (BK st x)[j]:=by
 cases x with
 | box l off =>
  cases h with
  | box hl =>
   have n:l<st.boxes.length:=by simpa [Et] using hr
   obtain ⟨cs,d⟩:∃ cs,st.boxes[l]? = some cs:=⟨_,List.getElem?_eq_getElem n⟩
   obtain ⟨_,_,c,i,C,z,t,p⟩:=hst.box l cs d
   have e:BK st (.box l off)=cs:=by simp [BK,List.getD,d]
   refine ⟨M.bx l,0,by simp [FV],by rw [e];exact t,fun j hj=>?_⟩
   simp only [e] at hj ⊢
   refine ⟨c[j]'(by omega),?_,p j (by omega) hj⟩
   rw [Nat.zero_add,cell_of_row w _ j c i _ C]
   exact Array.getElem?_eq_getElem (by omega)
 | elem y k =>
  cases h with
  | @elem b off x u k hcell hu =>
   obtain ⟨hs,p⟩:=hu.cells
   refine ⟨b,off,rfl,?_,fun j hj=>?_⟩
   ·refine hu.cellsOne (fun vs hv=>?_)
    subst hv
    simp [Et] at hr
   ·have f:j<u.cells.size:=by rw [hs];exact hj
    refine ⟨u.cells[j],?_,p j f hj⟩
    rw [(hcell j f).2]
    exact Array.getElem?_eq_getElem f
 | vel id ver off =>
  cases h with
  | @vel _ _ _ a hi hv hh =>
   obtain ⟨sz,cs,d⟩:=UO (show (IH st.rows id ver).isSome=true from hr)
   obtain ⟨r,E,J,H,D,F,G,c,i,q,K,s,m,g⟩:=hst.row id _ (I5 d)
   have e:BK st (.vel id ver off)=cs:=by simp [BK,d]
   refine ⟨M.blk id,0,by rw [hh r.symm];simp [FV],by rw [e];exact m,fun j hj=>?_⟩
   simp only [e] at hj ⊢
   refine ⟨c[j]'(by omega),?_,g j (by omega) hj⟩
   rw [Nat.zero_add,cell_of_row w _ j c i _ q]
   exact Array.getElem?_eq_getElem (by omega)
 | _=>cases hr
theorem Yields'.value {s:Sem Value} {st':St} {r:AV} (h:∃ v w' M',s.run P w = .ok v w'∧Ext w0 M w M' w'∧RelSt w0 M' st' w'∧R w0 M' w' v r) :
  Yields' P w0 M st' r w (do pure (.value (← s))):=by
 obtain ⟨v,w',M',hs,a,c,b⟩:=h
 exact ⟨v,w',M',.inl (by simp [hs]),a,c,b⟩
theorem Yields'.here (hst:RelSt w0 M st w) {s:Sem Value} {v:Value} {r:AV} (hs:s.run P w = .ok v w) (hr:R w0 M w v r) :
  Yields' P w0 M st r w (do pure (.value (← s))) := .value ⟨v,w,M,hs,Ext.refl _ _ _,hst,hr⟩
theorem Zci {t:TypeId} (h:P4 P t=true):P.underlying t=some .bool:=by
 unfold P4 at h
 split at h
 ·assumption
 ·cases h
theorem ZfH {op:BinOp} {a b:Bool} {t:TypeId} {X Y:Operand} (ht:P4 P t=true) (h:(evBB op a b).1):(do eqGuard op t X Y (.bool a) (.bool b);binOp op t (.bool a) (.bool b):Sem Value).run P w = .ok (.bool (evBB op a b).2) w:=by
 have c:=Zci ht
 cases op<;>try exact h.elim
 ·simp [eqGuard,binOp,run_equal_bool w t a b c,evBB]
 ·simp [eqGuard,binOp,run_equal_bool w t a b c,evBB];cases a<;>cases b<;>rfl
theorem Zgb (h:Rel w0 n M e st a w) (op:BinOp) (t:TypeId) (x y:Operand) (u:TypeId) (hob:(BB P e true st (.binOp op t x y u)).1) :
  Yields' P w0 M (BB P e true st (.binOp op t x y u)).2.2 (BB P e true st (.binOp op t x y u)).2.1 w (do pure (.value (← (do eqGuard op t x y (a.eval x) (a.eval y);binOp op t (a.eval x) (a.eval y))))):=by
 simp only [BB] at hob ⊢
 by_cases hc:(Zr (AD e x)&&Zr (AD e y))=true
 ·rw [Ah hc] at hob ⊢
  simp only [Bool.and_eq_true] at hc
  obtain ⟨f,d,l,b⟩:=hob
  obtain ⟨g,_⟩:=(BE h f).bool hc.1
  obtain ⟨c,_⟩:=(BE h d).bool hc.2
  rw [g,c]
  exact .here h.st (ZfH l b) (.flat rfl)
 ·rw [Ai hc] at hob ⊢
  by_cases hg:(Il (AD e x)&&Il (AD e y))=true
  ·rw [Ah hg] at hob ⊢
   simp only [Bool.and_eq_true] at hg
   obtain ⟨f,d,b⟩:=hob
   obtain ⟨cs,g,i⟩:=(BE h f).aggC hg.1
   obtain ⟨m,c,j⟩:=(BE h d).aggC hg.2
   rw [g,c]
   exact .here h.st (Zeg b i j) (.flat rfl)
  rw [Ai hg] at hob ⊢
  obtain ⟨f,d,px,k,b⟩:=hob
  obtain ⟨g,_,_⟩:=(BE h f).plain px
  obtain ⟨c,_,_⟩:=(BE h d).plain k
  rw [g,c]
  exact .here h.st (Za0 b) (.flat (Zdb b))
theorem Zi8 (h:Rel w0 n M e st a w) (op:UnOp) (t:TypeId) (x:Operand) (hob:(BB P e true st (.unOp op t x)).1) :
  Yields' P w0 M st (.val (evUn op (J5 (AD e x))).2) w (do pure (.value (← Op.unary op (a.eval x)))):=by
 obtain ⟨c,px,b⟩:=hob
 obtain ⟨d,_,_⟩:=(BE h c).plain px
 rw [d]
 exact .here h.st (ZcL b) (.flat (ZeV b))
theorem ZkY {t:Bool} {u v:Value} {x y:AV} (hx:t=true→R w0 M w u x) (hy:t=false→R w0 M w v y):R w0 M w (if t then u else v) (AV.sel t x y):=by
 have a:AV.sel false x y=y:=by unfold AV.sel;split<;>rfl
 have b:AV.sel true x y=x:=by unfold AV.sel;split<;>rfl
 cases t
 ·rw [a];exact hy rfl
 ·rw [b];exact hx rfl
theorem ZhV (h:Rel w0 n M e st a w) (b x y:Operand) (hob:(BB P e true st (.pick b x y)).1) :
  Yields' P w0 M st (AV.sel (LR (AD e b)) (AD e x) (AD e y)) w (do pure (.value (if ← asBool (a.eval b) then a.eval x else a.eval y))):=by
 obtain ⟨f,c,i,g⟩:=hob
 obtain ⟨d,_⟩:=(BE h f).bool c
 refine Oc h.st (v:=if LR (AD e b) then a.eval x else a.eval y) ?_ (ZkY (fun q=>BE h (i rfl q)) (fun q=>BE h (g rfl q)))
 rw [d]
 simp [asBool]
theorem TM {t:TypeId} {sz:Nat} {ag:Bool} (ht:MZ P t=some (sz,ag)) {b o:Nat} {f:Nat→Value} (hc:∀ j,j<sz→w.cell? ⟨b,o+j,none⟩=some (f j)) (h1:ag=true∨sz=1) :
  (loadVar t ⟨b,o,none⟩).run P w = .ok (if ag then .agg ((List.range sz).map f).toArray else f 0) w:=by
 unfold loadVar
 rw [Sem.run_bind,Xk ht]
 cases ag with
 | true =>
  simp only [Result.andThen_ok,if_true,Sem.run_bind,CC ht,run_loadCells w ⟨b,o,none⟩ sz f (fun j a=>by rw [F9];exact hc j a)]
  rfl
 | false =>
  have:sz=1:=by simpa using h1
  subst this
  have:=hc 0 (by omega)
  simp only [Nat.add_zero] at this
  simp [this]
theorem Ul {cs:List AV} {f:Nat→Value} {o sz:Nat} {ag:Bool} (h1:∀ c∈cs,c.one=true) (ho:o+sz≤cs.length) (hs:ag=true∨sz=1)
  (hR:∀ j (hj:o+j<cs.length),R w0 M w (f j) cs[o+j]):R w0 M w (if ag then .agg ((List.range sz).map f).toArray else f 0) (RI ag cs o sz):=by
 unfold RI
 cases ag with
 | true =>
  simp only [if_true]
  refine .agg (by simp;omega) (fun x a=>h1 x (List.mem_of_mem_drop (List.mem_of_mem_take a))) (fun i a1 a2=>?_)
  simp only [List.getElem_take,List.getElem_drop,List.getElem_toArray,List.getElem_map,List.getElem_range]
  exact hR i (by simp at a1;omega)
 | false =>
  have:sz=1:=by simpa using hs
  subst this
  have:=hR 0 (by omega)
  simp only [Nat.add_zero] at this
  simpa [nth,List.getD,List.getElem?_eq_getElem (show o<cs.length by omega)] using this
theorem Zii (h:Rel w0 n M e st a w) (t:TypeId) (x:Operand) (hob:(BB P e true st (.load t x)).1) :
  Yields' P w0 M st (BB P e true st (.load t x)).2.1 w (do pure (.value (← Instr.loadAt t (a.eval x)))):=by
 unfold BB at hob ⊢
 cases ht:MZ P t with
 | none=>simp [ht] at hob
 | some p =>
  obtain ⟨sz,r⟩:=p
  simp only [ht] at hob ⊢
  obtain ⟨D,z,k,q⟩:=hob
  obtain ⟨b,o,ev,g,m⟩:=ZbG h.st (BE h D) z
  rw [ev]
  have d:∀ j,j<sz→∃ u,w.cell? ⟨b,o+FV (AD e x)+j,none⟩=some u∧∀ c,R w0 M w u ((BK st (AD e x))[FV (AD e x)+j]'c):=by
   intro j c
   obtain ⟨u,s,y⟩:=m (FV (AD e x)+j) (by omega)
   exact ⟨u,by rw [←s,Nat.add_assoc],fun _=>y⟩
  let f:Nat→Value:=fun j=>((w.cell? ⟨b,o+FV (AD e x)+j,none⟩).getD undef)
  have C:∀ j,j<sz→w.cell? ⟨b,o+FV (AD e x)+j,none⟩=some (f j):=fun j c=>by
   obtain ⟨u,i,_⟩:=d j c
   simp [f,i]
  refine .here h.st (v:=if r then .agg ((List.range sz).map f).toArray else f 0) ?_ (Ul g k q (fun j c=>?_))
  ·simp only [Instr.loadAt,Instr.sureAddr,Sem.run_bind,Sem.run_pure,Result.andThen_ok]
   exact TM ht C q
  ·by_cases hjs:j<sz
   ·obtain ⟨u,i,l⟩:=d j hjs
    have:f j=u:=by simp [f,i]
    rw [this]
    exact l c
   ·obtain ⟨u,i,l⟩:=m (FV (AD e x)+j) c
    have:f j=u:=by simp [f,Nat.add_assoc,i]
    rw [this]
    exact l
theorem UM (hst:RelSt w0 M st w) {v:Value} {x:AV} (h:R w0 M w v x) (hr:Et st x=true):∃ b o,v = .pointer (some ⟨b,o,none⟩)∧∀ k,R w0 M w (.pointer (some ⟨b,o+k,none⟩)) (Uw x k):=by
 cases x with
 | box l off=>cases h with | box hl=>exact ⟨_,_,rfl,fun k => .box hl⟩
 | elem y k =>
  cases h with
  | @elem b off x u k hcell hu=>exact ⟨_,_,rfl,fun d=>by rw [Nat.add_assoc];exact .elem u (k+d) hcell hu⟩
 | vel id ver off =>
  cases h with
  | @vel _ _ _ a hi hv hh =>
   obtain ⟨sz,cs,c⟩:=UO (show (IH st.rows id ver).isSome=true from hr)
   have f:=(hst.row id _ (I5 c)).1
   have e:=hh f.symm
   exact ⟨M.blk id,off,by rw [e],fun k => .vel hi hv fun _=>rfl⟩
 | _=>cases hr
theorem ZbM (h:Rel w0 n M e st a w) (o:Oper) (x:Operand) (ho:o.op = .nilCheck x) (hob:(BB P e true st (.nilCheck x)).1) :
  Yields' P w0 M st (AD e x) w (execOp a.eval o):=by
 obtain ⟨c,d⟩:=hob
 obtain ⟨b,f,ev,_⟩:=UM h.st (BE h c) d
 refine Oc h.st (v:=a.eval x) ?_ (BE h c)
 simp only [execOp,ho,ev]
 rfl
theorem Za7 (h:Rel w0 n M e st a w) (f:FuncId) (fi cap:Array Operand) (hob:(BB P e true st (.makeFunc (.func f) fi cap)).1) :
  Yields' P w0 M st (.clo f (cap.toList.map (AD e))) w (do pure (.value (← Instr.makeFunc (.func f) (fi.map a.eval) (cap.map a.eval)))):=by
 obtain ⟨b,c⟩:=hob
 refine .here h.st (v := .func (.func f) (fi.map a.eval) (cap.map a.eval)) rfl ?_
 have:fi.map a.eval = #[]:=by simp [Array.size_eq_zero_iff.1 b]
 rw [this]
 refine .clo (by simp) (fun i d g=>?_)
 simp only [Array.getElem_map,List.getElem_map,Array.getElem_toList]
 exact BE h (c _ (by simp))
theorem ZT (h:Rel w0 n M e st a w) (t:TypeId) (x:Operand) (f:Nat) (hob:(BB P e true st (.fieldAddr t x f)).1) :
  Yields' P w0 M (BB P e true st (.fieldAddr t x f)).2.2 (BB P e true st (.fieldAddr t x f)).2.1 w (do pure (.value (← Instr.fieldAt t (a.eval x) f))):=by
 unfold BB at hob ⊢
 cases hf:HS P t f with
 | none=>simp [hf] at hob
 | some p =>
  obtain ⟨o,sz,r⟩:=p
  simp only [hf] at hob ⊢
  obtain ⟨l,j,s⟩:=hob
  obtain ⟨u,y,k,d,g,m⟩:=YL hf
  obtain ⟨b,i,ev,q⟩:=UM h.st (BE h l) j
  refine .here h.st (v := .pointer (some ⟨b,i+o,none⟩)) ?_ (q o)
  rw [ev]
  have c:¬ sz=0:=by omega
  simp [Instr.fieldAt,run_underlying k,d,Instr.sureAddr,fieldPlace,g,F9,CC m,c]
theorem Zh {t:TypeId} {sz:Nat} {ag:Bool} (ht:MZ P t=some (sz,ag)) {cs:Array Value} {o:Nat} (ho:o+sz≤cs.size) (h1:ag=true∨sz=1) :
  (part t cs o).run P w = .ok (if ag then .agg ((List.range sz).map fun j=>cs.getD (o+j) undef).toArray else cs.getD o undef) w:=by
 unfold part
 rw [Sem.run_bind,Xk ht]
 cases ag with
 | true =>
  simp only [Result.andThen_ok,if_true,Sem.run_bind,CC ht,Sem.run_pure]
  congr 2
  apply Array.ext
  ·simp;omega
  ·intro i h1 b
   simp at h1 b
   simp [show o+i<cs.size by omega]
 | false =>
  have:sz=1:=by simpa using h1
  subst this
  have a:o<cs.size:=by omega
  simp [a]
theorem R.agg_inv {v:Value} {x:AV} (h:R w0 M w v x) (ha:Il x=true):∃ cs,v = .agg cs∧cs.size=x.cells.length∧(∀ y∈x.cells,y.one=true)∧∀ j (hj:j<x.cells.length),R w0 M w (cs.getD j undef) x.cells[j]:=by
 cases x with
 | agg xs =>
  cases h with
  | agg hl h1 hR =>
   rename_i cs
   refine ⟨cs,rfl,hl,h1,fun j hj=>?_⟩
   have a:j<cs.size:=by rw [hl];exact hj
   have e:cs.getD j undef=cs[j]:=by simp [a]
   rw [e]
   exact hR j a hj
 | _=>cases ha
theorem Zfk (h:Rel w0 n M e st a w) (t:TypeId) (x:Operand) (f:Nat) (hob:(BB P e true st (.field t x f)).1) :
  Yields' P w0 M (BB P e true st (.field t x f)).2.2 (BB P e true st (.field t x f)).2.1 w (do pure (.value (← Instr.field t (a.eval x) f))):=by
 unfold BB at hob ⊢
 cases hf:HS P t f with
 | none=>simp [hf] at hob
 | some p =>
  obtain ⟨o,sz,g⟩:=p
  simp only [hf] at hob ⊢
  obtain ⟨m,k,c,hs⟩:=hob
  obtain ⟨u,y,l,i,h3,q⟩:=YL hf
  obtain ⟨cs,ev,s,b,r⟩:=(BE h m).agg_inv k
  rw [ev]
  refine .here h.st (v:=if g then .agg ((List.range sz).map fun j=>cs.getD (o+j) undef).toArray else cs.getD o undef) ?_ (Ul (f:=fun j=>cs.getD (o+j) undef) b c hs (fun j d=>r _ d))
  subst h3
  simp [Instr.field,run_underlying l,i,asAgg,Zh (w:=w) q (cs:=cs) (o:=y.offset) (by omega) hs]
theorem R.list_inv {v:Value} {x:AV} (h:R w0 M w v x) (hl:C6 x=true) :
  (∃ a cap,v = .slice a (Bj x).length cap∧(a=none→Bj x=[]∧cap=0)∧(Bj x).length≤cap∧cap≤maxLen):=by
 cases x with
 | list xs o =>
  cases h with
  | nil ho=>exact ⟨none,0,rfl,fun _=>⟨rfl,rfl⟩,Nat.zero_le _,by simp [maxLen]⟩
  | emp ho=>exact ⟨_,0,rfl,fun e=>(by cases e),Nat.zero_le _,by simp [maxLen]⟩
  | list sz us hc hm hcell hu ho=>exact ⟨_,_,rfl,fun e=>(by cases e),hc,hm⟩
 | _=>cases hl
theorem R.list_elem {v:Value} {xs:List AV} {o:Own} (h:R w0 M w v (.list xs o)) {i:Nat} (hi:i<xs.length) {sz:Nat} (hsz:xs[i].cells.length=sz) :
  ∃ b off cap,v = .slice (some ⟨b,off,none⟩) xs.length cap∧R w0 M w (.pointer (some ⟨b,off+i*sz,none⟩)) (.elem xs[i] 0):=by
 cases h with
 | nil ho=>exact absurd hi (by simp)
 | emp ho=>exact absurd hi (by simp)
 | @list b off cap _ _ sz' us hc hm hcell hu ho =>
  obtain ⟨a,c⟩:=hcell i hi
  have e:sz'=sz:=by rw [←a,(hu i hi).cells.1,hsz]
  subst e
  exact ⟨b,off,cap,rfl,.elem (us i) 0 (fun j d=>c j (by omega)) (hu i hi)⟩
theorem Js {x:AV} (h:C6 x=true):∃ xs o,x = .list xs o:=by
 cases x with
 | list xs o=>exact ⟨xs,o,rfl⟩
 | _=>cases h
theorem ZgF {l:List AV} {i:Nat} (h:i<l.length):nth l i=l[i]:=by simp [nth,List.getD,List.getElem?_eq_getElem h]
theorem Zad (h:Rel w0 n M e st a w) (t:TypeId) (x i:Operand) (hob:(BB P e true st (.indexAddr t x i)).1) :
  Yields' P w0 M (BB P e true st (.indexAddr t x i)).2.2 (BB P e true st (.indexAddr t x i)).2.1 w (do pure (.value (← Instr.indexAt t (a.eval x) (a.eval i)))):=by
 unfold BB Xo at hob ⊢
 cases he:OV P t with
 | some p =>
  obtain ⟨Z,sz,Y,V⟩:=p
  simp only [he] at hob ⊢
  split at hob
  ·rename_i id ver o n' hx0
   cases hvr:IH st.rows id ver with
   | none=>simp [hvr] at hob
   | some p =>
    obtain ⟨F,cs⟩:=p
    simp only [hvr] at hob ⊢
    obtain ⟨u,l,f,j,z,rfl⟩:=hob
    obtain ⟨r,s,_,_,c⟩:=Iz he
    obtain ⟨y,_⟩:=(BE h l).int f
    have hR:=BE h u
    rw [hx0] at hR
    generalize A6 (AD e i)=m at *
    obtain ⟨k,rfl⟩:=Int.eq_ofNat_of_zero_le j
    have g:k<n':=by omega
    generalize hev:a.eval x=v at hR
    cases hR with
    | @vec _ _ _ _ p D hid hv hh =>
     obtain ⟨J,N,_⟩:=h.st.row id _ (I5 hvr)
     obtain ⟨rfl,G,H⟩:=hh J.symm
     refine .here h.st (v := .pointer (some ⟨M.blk id,o*M.rsz id+k*F,none⟩)) ?_ ?_
     ·rw [y]
      simp [Instr.indexAt,asIntOf,run_underlying s,CC c,F9]
      omega
     ·refine .vel hid hv fun _=>?_
      rw [N,Int.toNat_natCast,Nat.add_mul]
  rename_i hx0
  obtain ⟨u,l,Q,f,j,z,d⟩:=hob
  obtain ⟨r,s,_,_,c⟩:=Iz he
  obtain ⟨y,_⟩:=(BE h l).int f
  have hR:=BE h u
  obtain ⟨xs,o,C⟩:=Js Q
  rw [C] at hR z d ⊢
  simp only [Bj] at z d ⊢
  generalize A6 (AD e i)=m at *
  obtain ⟨k,rfl⟩:=Int.eq_ofNat_of_zero_le j
  have g:k<xs.length:=by omega
  simp only [Int.toNat_natCast] at d ⊢
  rw [ZgF g] at d ⊢
  obtain ⟨b,E,D,ev,hE⟩:=hR.list_elem g d
  refine .here h.st (v := .pointer (some ⟨b,E+k*sz,none⟩)) ?_ hE
  rw [ev,y]
  simp [Instr.indexAt,asIntOf,run_underlying s,CC c,F9]
  omega
 | none =>
  simp only [he] at hob ⊢
  cases ha:WJ P t with
  | none=>simp [ha] at hob
  | some p =>
   obtain ⟨m,sz,Y⟩:=p
   simp only [ha] at hob ⊢
   obtain ⟨u,l,K,f,j,z⟩:=hob
   obtain ⟨Z,s,c⟩:=UW ha
   obtain ⟨y,_⟩:=(BE h l).int f
   obtain ⟨b,O,ev,g⟩:=UM h.st (BE h u) K
   generalize A6 (AD e i)=q at *
   obtain ⟨k,rfl⟩:=Int.eq_ofNat_of_zero_le j
   have U:k<m:=by omega
   refine .here h.st (v := .pointer (some ⟨b,O+k*sz,none⟩)) ?_ (by simpa using g (k*sz))
   rw [ev,y]
   simp [Instr.indexAt,asIntOf,run_underlying s,CC c,Instr.sureAddr,F9]
   omega
theorem getElem?_get! (s:ByteArray) (k:Nat) (hk:k<s.size):s[k]? = some (s.get! k):=by
 rw [getElem?_pos s k hk]
 congr 1
 simp only [ByteArray.get!]
 have:k<s.data.size:=hk
 rw [getElem!_pos s.data k this]
 rfl
theorem Zfr (h:Rel w0 n M e st a w) (t:TypeId) (x i:Operand) (hob:(BB P e true st (.index t x i)).1) :
  Yields' P w0 M (BB P e true st (.index t x i)).2.2 (BB P e true st (.index t x i)).2.1 w (do pure (.value (← Instr.index t (a.eval x) (a.eval i)))):=by
 unfold BB Xo at hob ⊢
 simp only at hob ⊢
 split at hob
 ·rename_i s hx0
  obtain ⟨hs,D,C,d,z,J⟩:=hob
  obtain ⟨E,_⟩:=(BE h C).int d
  have u:=BE h D
  rw [hx0] at u
  obtain ⟨ev,_⟩:=u.val_inv
  generalize A6 (AD e i)=q at *
  obtain ⟨k,rfl⟩:=Int.eq_ofNat_of_zero_le z
  have y:k<s.size:=by omega
  refine .here h.st (v := .int .u8 (s.get! k).toNat) ?_ (.flat rfl)
  rw [ev,E]
  have G:s[k]? = some (s.get! k):=getElem?_get! s k y
  simp [Instr.index,asIntOf,run_underlying (GQ hs),G]
 ·rename_i cs hx0
  cases ha:WJ P t with
  | none=>simp [ha] at hob
  | some p =>
   obtain ⟨m,sz,K⟩:=p
   simp only [ha] at hob ⊢
   obtain ⟨D,C,d,z,J,H,hs⟩:=hob
   obtain ⟨O,N,g⟩:=UW ha
   obtain ⟨E,_⟩:=(BE h C).int d
   have u:=BE h D
   rw [hx0] at u
   obtain ⟨c,ev,r,b,o⟩:=u.agg_inv rfl
   simp only [AV.cells] at r b o
   generalize A6 (AD e i)=q at *
   obtain ⟨k,rfl⟩:=Int.eq_ofNat_of_zero_le z
   have y:k<m:=by omega
   have l:k*sz+sz≤cs.length:=by rw [H,←Nat.succ_mul];exact Nat.mul_le_mul_right _ y
   refine .here h.st (v:=if K then .agg ((List.range sz).map fun j=>c.getD (k*sz+j) undef).toArray else c.getD (k*sz) undef) ?_ ?_
   ·rw [ev,E]
    simp only [Instr.index,asIntOf,Sem.run_bind,Sem.run_pure,Result.andThen_ok,run_underlying N]
    rw [Ah ⟨by omega,by omega⟩]
    simp only [Sem.run_bind,CC g,Result.andThen_ok,Int.toNat_natCast]
    exact Zh g (by rw [r];exact l) hs
   ·simp only [Int.toNat_natCast]
    exact Ul (f:=fun j=>c.getD (k*sz+j) undef) b l hs (fun j F=>o _ F)
 ·exact hob.elim
theorem Zb7 (h:Rel w0 n M e st a w) (x:Operand) (i:Nat) (hob:(BB P e true st (.extract x i)).1) :
  Yields' P w0 M (BB P e true st (.extract x i)).2.2 (BB P e true st (.extract x i)).2.1 w (do pure (.value (← Instr.extract (a.eval x) i))):=by
 unfold BB Xo at hob ⊢
 simp only at hob ⊢
 split at hob
 ·rename_i vs hx0
  obtain ⟨c,b⟩:=hob
  have hR:=BE h c
  rw [hx0] at hR
  generalize a.eval x=v at hR ⊢
  cases hR with
  | tup hl hR =>
   rename_i cs
   rw [ZgF b]
   refine .here h.st (v:=cs[i]'(by omega)) ?_ (hR i (by omega) b)
   simp [Instr.extract,show i<cs.size by omega]
 ·exact hob.elim
theorem Zkt (h:Rel w0 n M e st a w) (x:Operand) (t ty:TypeId) (hx:Ba e true x) (hob:(Vb P t (AD e x)).1) :
  Yields' P w0 M st (Vb P t (AD e x)).2 w (do pure (.value (← Builtin.len_ #[t] ty #[a.eval x]))):=by
 have hR:=BE h hx
 unfold Vb at hob ⊢
 split at hob
 ·rename_i s hx0
  rw [hx0] at hR
  obtain ⟨ev,_⟩:=hR.val_inv
  refine .here h.st (v := .int .i64 s.size) ?_ (.flat rfl)
  rw [ev]
  simp [Builtin.len_,run_underlying (GQ hob),goInt]
 ·rename_i xs o hx0
  rw [hx0] at hR
  obtain ⟨b,d,ev,_⟩:=hR.list_inv rfl
  simp only [Bj] at ev
  obtain ⟨p,f⟩:=Option.isSome_iff_exists.1 hob
  obtain ⟨k,sz,j,g⟩:=p
  obtain ⟨i,c,_⟩:=Iz f
  refine .here h.st (v := .int .i64 xs.length) ?_ (.flat rfl)
  rw [ev]
  simp [Builtin.len_,run_underlying c,goInt]
 ·rename_i id ver o n' hx0
  rw [hx0] at hR
  obtain ⟨p,f⟩:=Option.isSome_iff_exists.1 hob
  obtain ⟨k,sz,j,g⟩:=p
  obtain ⟨i,c,_⟩:=Iz f
  generalize hev:a.eval x=v at hR
  cases hR with
  | @vec _ _ _ _ p d hid hv hh =>
   refine .here h.st (v := .int .i64 n') ?_ (.flat rfl)
   simp [Builtin.len_,run_underlying c,goInt]
 ·exact hob.elim
theorem FK {v:Value} {k:IntKind} {q:Nat} {y:Nat} {code:BoundsCode} (hv:v = .int k q) (h:q≤y) (w:World):(Instr.sliceBound v y code).run P w = .ok q w:=by
 subst hv
 simp [Instr.sliceBound,asIntOf]
 omega
theorem Sz (h:Rel w0 n M e st a w) (isl:Bool) (len cap:Nat) (hlc:len≤cap) {lo hi:Option Operand} (hlo:P1 e true lo) (hhi:P1 e true hi)
  {l u:Nat} (el:Ei e 0 lo=l) (eu:Ei e len hi=u) (h1:l≤u) (h2:u≤len) :
  (Instr.sliceBounds isl len cap (lo.map a.eval) (hi.map a.eval) none).run P w = .ok (l,u,cap) w:=by
 have H:∀ (y:Operand),(Ba e true y∧FO (AD e y)=true)→∃ k,a.eval y = .int k (A6 (AD e y)):=fun y d=>⟨_,((BE h d.1).int d.2).1⟩
 cases hi with
 | none =>
  simp only [Ei] at eu
  have eu':u=len:=by omega
  subst eu'
  cases lo with
  | none =>
   simp only [Ei] at el
   have el':l=0:=by omega
   subst el'
   simp [Instr.sliceBounds]
  | some y =>
   obtain ⟨k,b⟩:=H y hlo
   simp only [Ei] at el
   rw [el] at b
   simp [Instr.sliceBounds,FK b h1]
 | some z =>
  obtain ⟨g,c⟩:=H z hhi
  simp only [Ei] at eu
  rw [eu] at c
  have f:u≤cap:=by omega
  cases lo with
  | none =>
   simp only [Ei] at el
   have el':l=0:=by omega
   subst el'
   simp [Instr.sliceBounds,FK c f]
  | some y =>
   obtain ⟨k,b⟩:=H y hlo
   simp only [Ei] at el
   rw [el] at b
   simp [Instr.sliceBounds,FK c f,FK b h1]
theorem R.empty (b off cap:Nat) (hm:cap≤maxLen):R w0 M w (.slice (some ⟨b,off,none⟩) 0 cap) (.list [] .none) :=
 R.list (xs:=[]) 0 (fun _=>undef) (Nat.zero_le _) hm (fun i a=>absurd a (by simp)) (fun i a=>absurd a (by simp)) trivial
theorem R.sub {b off cap : Nat} {xs : List AV} {o : Own} (h : R w0 M w (.slice (some ⟨b, off, none⟩) xs.length cap) (.list xs o)) {l u sz : Nat} (hl : l ≤ u) (hu : u ≤ xs.length) (hsz : l = 0 ∨ ∀ y ∈ xs, y.cells.length = sz) (hne : cap ≠ l) :
    R w0 M w (.slice (some ⟨b, off + l * sz, none⟩) (u - l) (cap - l)) (.list ((xs.take u).drop l) .none) := by
  generalize hv : Value.slice (some ⟨b, off, none⟩) xs.length cap = v at h
  cases h with
  | nil ho => cases hv
  | emp ho => cases hv; simp at hu; subst hu; have : l = 0 := by omega
              subst this; exact absurd rfl hne
  | @list b' off' cap' _ _ sz' us hc hm hcell hus ho =>
    cases hv
    have hlen : ((xs.take u).drop l).length = u - l := by simp; omega
    rw [← hlen]
    have eo : ∀ i, i < u - l → off + l * sz + i * sz' = off + (l + i) * sz' := by
      intro i hi
      rcases hsz with rfl | hsz
      · simp
      · have e : sz' = sz := by
          have h1 : (us i).cells.size = sz' := (hcell i (by omega)).1
          rw [← h1, (hus i (by omega)).cells.1, hsz _ (List.getElem_mem _)]
        rw [e, Nat.add_mul]; omega
    refine .list sz' (fun i => us (l + i)) (by rw [hlen]; omega) (by omega) (fun i hi => ?_) (fun i hi => ?_) trivial
    · rw [hlen] at hi
      obtain ⟨h1, h2⟩ := hcell (l + i) (by omega)
      refine ⟨h1, fun j hj => ?_⟩
      rw [eo i hi]
      exact h2 j hj
    · rw [hlen] at hi
      simp only [List.getElem_drop, List.getElem_take]
      exact hus (l + i) (by omega)
theorem ZfP (h:Rel w0 n M e st a w) (t:TypeId) (x:Operand) (lo hi mx:Option Operand) (hob:(BB P e true st (.slice t x lo hi mx)).1) :
  Yields' P w0 M (BB P e true st (.slice t x lo hi mx)).2.2 (BB P e true st (.slice t x lo hi mx)).2.1 w (do pure (.value (← Instr.sliceAt t (a.eval x) (lo.map a.eval) (hi.map a.eval) (mx.map a.eval)))):=by
 unfold BB at hob ⊢
 simp only at hob ⊢
 split at hob
 ·rename_i id ver o n' hx0
  cases hp:OV P t with
  | none=>simp [hp] at hob
  | some p =>
  obtain ⟨el,sz,ag,ae⟩:=p
  cases hvr:IH st.rows id ver with
  | none=>simp [hp,hvr] at hob
  | some q =>
  obtain ⟨J,cs⟩:=q
  simp only [hp,hvr] at hob ⊢
  obtain ⟨N,l,j,hm,D,C,G,V,rfl⟩:=hob
  have hR:=BE h N
  rw [hx0] at hR
  obtain ⟨i,U,_,_,u⟩:=Iz hp
  cases mx with
  | some _=>cases hm
  | none =>
   obtain ⟨d,f⟩:=Int.eq_ofNat_of_zero_le D
   obtain ⟨E,g⟩:=Int.eq_ofNat_of_zero_le (Int.le_trans D C)
   rw [f,g] at C
   rw [g] at G
   rw [f] at V
   rw [f,g]
   simp only [Int.toNat_natCast]
   generalize hev:a.eval x=v at hR
   cases hR with
   | @vec _ _ _ _ p c hid hv hh =>
    obtain ⟨f1,f2,_⟩:=h.st.row id _ (I5 hvr)
    obtain ⟨rfl,ah,Y⟩:=hh f1.symm
    have K:=Sz (P:=P) h true n' c Y l j f g (by omega) (by omega)
    refine .here h.st (v := .slice (if c=d then some ⟨M.blk id,o*M.rsz id,none⟩ else (some (⟨M.blk id,o*M.rsz id,none⟩:Addr)).map (·.add (d*J))) (E-d) (c-d)) ?_ ?_
    ·simp only [Instr.sliceAt,Instr.slice,Sem.run_bind,run_underlying U,Result.andThen_ok,Option.map_none,K,CC u,Sem.run_pure]
    ·refine .vec hid hv fun _=>⟨?_,by omega,by omega⟩
     by_cases hcl:c=d
     ·have:d=0:=by omega
      rw [Ah hcl,this];simp
     ·rw [Ai hcl]
      simp only [Option.map_some,F9]
      rw [f2,Nat.add_mul]
 ·rename_i s hx0
  obtain ⟨hs,N,l,j,hm,D,C,G⟩:=hob
  have hR:=BE h N
  rw [hx0] at hR
  obtain ⟨ev,hf⟩:=hR.val_inv
  cases mx with
  | some _=>cases hm
  | none =>
   have K:=Sz (P:=P) h false s.size s.size (Nat.le_refl _) l j (Int.toNat_of_nonneg D).symm (Int.toNat_of_nonneg (Int.le_trans D C)).symm (by omega) (by omega)
   refine .here h.st (v := .string (s.extract (Ei e 0 lo).toNat (Ei e s.size hi).toNat)) ?_ (.flat ?_)
   ·rw [ev]
    simp only [Instr.sliceAt,Instr.slice,Sem.run_bind,run_underlying (GQ hs),Result.andThen_ok,Option.map_none,Option.isSome_none,Bool.false_eq_true,if_false,K,Sem.run_pure]
   ·simp only [J4,decide_eq_true_eq] at hf ⊢
    simp only [ByteArray.size_extract]
    omega
 ·rename_i xs o hx0
  cases hp:OV P t with
  | none=>simp [hp] at hob
  | some p =>
   obtain ⟨el,sz,ag,ae⟩:=p
   simp only [hp] at hob ⊢
   cases mx with
   | some m =>
    simp only at hob ⊢
    obtain ⟨N,l,j,hm,D,C,G⟩:=hob
    have hR:=BE h N
    rw [hx0] at hR
    obtain ⟨i,U,_,_,u⟩:=Iz hp
    have H:∀ (y:Operand),(Ba e true y∧FO (AD e y)=true)→∃ k,a.eval y = .int k (A6 (AD e y)):=fun y hy=>⟨_,((BE h hy.1).int hy.2).1⟩
    cases hi with
    | none=>simp [Ei] at C
    | some z =>
     obtain ⟨k2,kz⟩:=H z j
     obtain ⟨k3,km⟩:=H m hm
     simp only [Ei] at C G
     rw [C] at kz
     rw [G] at km
     have K:∀ (ln c:Nat),ln≤c→(Instr.sliceBounds true ln c (lo.map a.eval) ((some z).map a.eval) ((some m).map a.eval)).run P w = .ok (0,0,0) w:=by
      intro ln c Q
      have e1:=FK (P:=P) (k:=k3) (q:=0) (y:=c) (code := .slice3Acap) km (Nat.zero_le _) w
      have e2:=FK (P:=P) (k:=k2) (q:=0) (y:=0) (code := .slice3B) kz (Nat.zero_le _) w
      cases lo with
      | none=>simp [Instr.sliceBounds,e1,e2]
      | some y =>
       obtain ⟨k,ky⟩:=H y l
       simp only [Ei] at D
       rw [D] at ky
       have e3:=FK (P:=P) (k:=k) (q:=0) (y:=0) (code := .slice3C) ky (Nat.zero_le _) w
       simp [Instr.sliceBounds,e1,e2,e3]
     obtain ⟨v,hv⟩:∃ v,a.eval x=v:=⟨_,rfl⟩
     rw [hv] at hR
     have fin:∀ (r:Option Addr) (ln c:Nat),ln≤c→v = .slice r ln c→R w0 M w (.slice r 0 0) (.list [] .full) →
       Yields' P w0 M st (.list [] .full) w (do pure (.value (← Instr.sliceAt t (a.eval x) (lo.map a.eval) (Option.map a.eval (some z)) (Option.map a.eval (some m))))):=by
      intro r ln c Q e1 Z
      refine .here h.st ?_ Z
      rw [hv,e1]
      simp only [Instr.sliceAt,Instr.slice,Sem.run_bind,run_underlying U,Result.andThen_ok,K ln c Q,CC u,Sem.run_pure]
      simp
     cases hR with
     | nil ho=>exact fin none 0 0 (Nat.le_refl _) rfl (by simpa using R.nil (fun id=>by simp))
     | @emp r _ ho=>exact fin (some r) 0 0 (Nat.le_refl _) rfl (.emp (fun id=>by simp))
     | @list b off c _ _ J us hc hm' hcell hu' ho =>
      exact fin _ _ c hc rfl (R.list (xs:=[]) 0 (fun _=>undef) (Nat.zero_le _) (Nat.zero_le _) (fun i hi=>absurd hi (by simp)) (fun i hi=>absurd hi (by simp)) rfl)
   | none =>
   obtain ⟨N,l,j,D,C,G,V⟩:=hob
   have hR:=BE h N
   rw [hx0] at hR
   obtain ⟨i,U,_,_,u⟩:=Iz hp
   ·obtain ⟨d,f⟩:=Int.eq_ofNat_of_zero_le D
    obtain ⟨E,g⟩:=Int.eq_ofNat_of_zero_le (Int.le_trans D C)
    rw [f,g] at C
    rw [g] at G
    rw [f] at V
    rw [f,g]
    have O:d≤E:=by omega
    have F:E≤xs.length:=by omega
    simp only [Int.toNat_natCast]
    have aa:d=0∨∀ y∈xs,y.cells.length=sz:=V.imp (fun q=>by omega) id
    have go:∀ (r:Option Addr) (c:Nat),xs.length≤c→a.eval x = .slice r xs.length c →
      R w0 M w (.slice (if c=d then r else r.map (·.add (d*sz))) (E-d) (c-d)) (.list ((xs.take E).drop d) .none) →
      Yields' P w0 M st (.list ((xs.take E).drop d) .none) w (do pure (.value (← Instr.sliceAt t (a.eval x) (lo.map a.eval) (hi.map a.eval) (Option.map a.eval none)))):=by
     intro r c ab ev Z
     have K:=Sz (P:=P) h true xs.length c ab l j f g O F
     refine .here h.st ?_ Z
     rw [ev]
     simp only [Instr.sliceAt,Instr.slice,Sem.run_bind,run_underlying U,Result.andThen_ok,Option.map_none,K,CC u,Sem.run_pure]
    generalize hv:a.eval x=v at hR go
    have af:=hR
    cases hR with
    | nil ho =>
     have e1:E=0:=by simpa using F
     have e2:d=0:=by omega
     subst e1;subst e2
     refine go none 0 (Nat.le_refl _) rfl ?_
     simpa using (R.nil (w0:=w0) (M:=M) (w:=w) (o := .none) (fun id=>by simp))
    | @emp r _ ho =>
     have e1:E=0:=by simpa using F
     have e2:d=0:=by omega
     subst e1;subst e2
     refine go (some r) 0 (Nat.le_refl _) rfl ?_
     simpa using (R.emp (w0:=w0) (M:=M) (w:=w) (a:=r) (o := .none) (fun id=>by simp))
    | @list b off c _ _ J us hc hm' hcell hu' ho =>
     refine go (some ⟨b,off,none⟩) c hc rfl ?_
     by_cases hcl:c=d
     ·have e1:E=d:=by omega
      have:(xs.take E).drop d=[]:=by rw [e1];simp
      rw [this,Ah hcl,e1,Nat.sub_self]
      exact R.empty _ _ _ (by omega)
     ·rw [Ai hcl]
      simp only [Option.map_some,F9]
      exact af.sub O F aa hcl
 ·exact hob.elim
theorem Zkn (h:Rel w0 n M e st a w) (x y:Operand) (ts:Array TypeId) (t:TypeId) (hx:Ba e true x) (hy:Ba e true y) (ix:FO (AD e x)=true) (iy:FO (AD e y)=true) :
  Yields' P w0 M st (.val (.int (L0 (AD e x)) (if A6 (AD e y)<A6 (AD e x) then A6 (AD e y) else A6 (AD e x)))) w (do pure (.value (← Builtin.min_ ts t #[a.eval x,a.eval y]))):=by
 rw [((BE h hx).int ix).1,((BE h hy).int iy).1]
 exact .here h.st (by simp [Builtin.min_,Builtin.min2]) (.flat rfl)
theorem ZjV (h:Rel w0 n M e st a w) (x y:Operand) (ts:Array TypeId) (t:TypeId) (hx:Ba e true x) (hy:Ba e true y) (ix:FO (AD e x)=true) (iy:FO (AD e y)=true) :
  Yields' P w0 M st (.val (.int (L0 (AD e x)) (if A6 (AD e x)<A6 (AD e y) then A6 (AD e y) else A6 (AD e x)))) w (do pure (.value (← Builtin.max_ ts t #[a.eval x,a.eval y]))):=by
 rw [((BE h hx).int ix).1,((BE h hy).int iy).1]
 exact .here h.st (by simp [Builtin.max_,Builtin.max2]) (.flat rfl)
end
section
variable {P:Program} {w0:World} {n:Nat} {M:Mem} {e:Env} {st:St} {a:Act} {w:World}
theorem RelSt.box_lt (h:RelSt w0 M st w) {l:Nat} (hl:l<M.N):M.bx l<w.heap.size:=by
 have a:l<st.boxes.length:=by rw [←h.N];exact hl
 obtain ⟨_,_,c,d,b,_⟩:=h.box l _ (List.getElem?_eq_getElem a)
 exact (Array.getElem?_eq_some_iff.1 b).1
theorem RelSt.row_lt (h:RelSt w0 M st w) {i:Nat} (hi:i<M.NR):M.blk i<w.heap.size:=by
 have a:i<st.rows.length:=by rw [←h.NR];exact hi
 exact (h.row i _ (List.getElem?_eq_getElem a)).lt
theorem RelSt.base_le (h:RelSt w0 M st w):w0.heap.size≤w.heap.size:=h.below.size
theorem RelSt.drew (h:RelSt w0 M st w):RelSt w0 M st w.drew∧Ext w0 M w M w.drew :=
 have b:Ext w0 M w M w.drew:=⟨Nat.le_refl _,fun _ _=>rfl,Nat.le_refl _,fun _ _=>⟨Nat.le_refl _,fun _=>⟨rfl,rfl,rfl⟩⟩,fun _ _ _ j d=>⟨d,j⟩,Nat.le_refl _,Nat.le_refl _,fun _ _=>rfl,fun _ _ _=>by omega,fun _ _ h _ _=>h⟩
 ⟨⟨h.below.drew,h.N,h.NR,h.top,h.inj,fun l cs f=>by
   obtain ⟨a1,a2,c,k,a3,a4,a5,a6⟩:=h.box l cs f
   exact ⟨a1,a2,c,k,a3,a4,a5,fun i g e=>(a6 i g e).mono b⟩,fun id x a=>(h.row id x a).keep b rfl rfl rfl rfl rfl (h.row id x a).ne rfl,h.rowinj,h.loop.mono b rfl fun _ _ h _=>h⟩,b⟩
def Mem.newTop (M:Mem) (b k:Nat):Mem:={ M with top:=fun x=>if x=b then k else M.top x }
theorem QU (M':Mem) (o:Obj) (hN:M'.N=M.N∨M'.N=M.N+1) (hb:∀ l,l<M.N→M'.bx l=M.bx l) (hNR:M.NR≤M'.NR)
  (hr:∀ id,id<M.NR→M.fr id≤M'.fr id∧(M'.fr id=M.fr id→M'.blk id=M.blk id∧M'.cap id=M.cap id∧M'.rsz id=M.rsz id)) (ht:∀ b,b<w.heap.size→M.top b≤M'.top b) (hNL:M'.NL=M.NL:=by rfl) (hlb:M'.lb=M.lb:=by rfl) :
  Ext w0 M w M' (w.alloc o) :=
 ⟨by omega,hb,hNR,hr,fun b g v hi c=>by
  have a:=World.block_lt_of_cell? w _ c
  refine ⟨by rw [World.cell?_alloc_lt _ _ _ a];exact c,?_⟩
  rcases hi with hi | hi
  ·exact .inl hi
  ·exact .inr (Nat.lt_of_lt_of_le hi (ht b a)),by simp,by omega,fun _ _=>by rw [hlb],fun _ _ _=>by omega,fun b e f d _=>KeepsObj.alloc w o b e f d⟩
theorem B6 (w:World) (o:Obj) {k:Nat} (h:k<w.heap.size):(w.alloc o).heap[k]? = w.heap[k]? := Below.heap_alloc w o k h
theorem RelSt.newTop (h:RelSt w0 M st w) (cs:Array Value) (ty:TypeId) (k:Nat) :
  RelSt w0 (M.newTop w.heap.size k) st (w.alloc (.cells cs ty))∧Ext w0 M w (M.newTop w.heap.size k) (w.alloc (.cells cs ty)):=by
 have j:∀ b,b<w.heap.size→(M.newTop w.heap.size k).top b=M.top b:=fun b e=>by simp [Mem.newTop];omega
 have f:Ext w0 M w (M.newTop w.heap.size k) (w.alloc (.cells cs ty)) :=
  QU _ _ (.inl rfl) (fun _ _=>rfl) (Nat.le_refl _) (fun _ _=>⟨Nat.le_refl _,fun _=>⟨rfl,rfl,rfl⟩⟩) (fun b e=>by rw [j b e];exact Nat.le_refl _)
 refine ⟨⟨h.below.alloc h.base_le _,h.N,h.NR,fun b e=>?_,h.inj,fun l c o=>?_,fun id x a=>(h.row id x a).keep f rfl rfl rfl rfl (j _ (h.row id x a).lt) (h.row id x a).ne (B6 _ _ (h.row id x a).lt),h.rowinj,h.loop.mono f rfl (KeepsObj.alloc _ _)⟩,f⟩
 ·simp at e
  have:(M.newTop w.heap.size k).top b=M.top b:=by simp [Mem.newTop];omega
  rw [this]
  exact h.top b (by omega)
 ·obtain ⟨a1,a2,n,g,a3,a4,a5,a6⟩:=h.box l c o
  have d:=(Array.getElem?_eq_some_iff.1 a3).1
  exact ⟨a1,by rw [show (M.newTop w.heap.size k).bx l=M.bx l from rfl,j _ d];exact a2,n,g,by rw [show (M.newTop w.heap.size k).bx l=M.bx l from rfl,B6 _ _ d];exact a3,a4,a5,fun i p m=>(a6 i p m).mono f⟩
theorem RelSt.later (h:RelSt w0 M st w) {w':World} (hb:Below w.heap.size w w') (b k:Nat) (hw:w.heap.size≤b) (hk:b<w'.heap.size∨k=0) :
  RelSt w0 (M.newTop b k) st w'∧Ext w0 M w (M.newTop b k) w':=by
 have s:∀ x,x<w.heap.size→(M.newTop b k).top x=M.top x:=fun x j=>by simp [Mem.newTop];omega
 have p:∀ x,x<w.heap.size→w'.heap[x]? = w.heap[x]? := hb.block
 have m:KeepsObj w w':=fun x o f _=>(p x (Array.getElem?_eq_some_iff.1 f).1).trans f
 have j:Ext w0 M w (M.newTop b k) w' :=
  ⟨Nat.le_refl _,fun _ _=>rfl,Nat.le_refl _,fun _ _=>⟨Nat.le_refl _,fun _=>⟨rfl,rfl,rfl⟩⟩,fun x y v z n=>by
   have a:=World.block_lt_of_cell? w _ n
   refine ⟨?_,z.imp id fun q=>by rw [s x a];exact q⟩
   unfold World.cell? at n ⊢
   simp only [p x a] at n ⊢
   exact n,hb.size,Nat.le_refl _,fun _ _=>rfl,fun _ f g=>absurd g (Nat.not_lt.2 f),fun x o f g _=>m x o f g⟩
 refine ⟨⟨h.below.trans (hb.mono h.base_le),h.N,h.NR,fun x C=>?_,h.inj,fun l c u=>?_,fun id x d=>(h.row id x d).keep j rfl rfl rfl rfl (s _ (h.row id x d).lt) (h.row id x d).ne (p _ (h.row id x d).lt),h.rowinj,h.loop.mono j rfl m⟩,j⟩
 ·have:=hb.size
  by_cases c:x=b
  ·have e:(M.newTop b k).top x=k:=by simp [Mem.newTop,c]
   rw [e]
   rcases hk with hk | hk
   ·omega
   ·exact hk
  ·have e:(M.newTop b k).top x=M.top x:=by simp [Mem.newTop,c]
   rw [e]
   exact h.top x (by omega)
 ·obtain ⟨a1,a2,t,r,a3,a4,a5,a6⟩:=h.box l c u
  have a:=(Array.getElem?_eq_some_iff.1 a3).1
  exact ⟨a1,by rw [show (M.newTop b k).bx l=M.bx l from rfl,s _ a];exact a2,t,r,by rw [show (M.newTop b k).bx l=M.bx l from rfl,p _ a];exact a3,a4,a5,fun i f g=>(a6 i f g).mono j⟩
def Mem.newBox (M:Mem) (b:Nat):Mem:={ M with N:=M.N+1,bx:=fun l=>if l=M.N then b else M.bx l }
theorem RelSt.newBox (h:RelSt w0 M st w) (v:Value) (x:AV) (ty:TypeId) (hR:R w0 M w v x) (hn:CM x=true) :
  RelSt w0 (M.newBox w.heap.size) { st with boxes:=st.boxes++[x.cells] } (w.alloc (.cells v.cells ty))∧Ext w0 M w (M.newBox w.heap.size) (w.alloc (.cells v.cells ty)) ∧
   R w0 (M.newBox w.heap.size) (w.alloc (.cells v.cells ty)) (.pointer (some ⟨w.heap.size,0,none⟩)) (.box st.boxes.length 0):=by
 have d:∀ l,l<M.N→(M.newBox w.heap.size).bx l=M.bx l:=fun l hl=>by simp [Mem.newBox];omega
 have a:(M.newBox w.heap.size).bx M.N=w.heap.size:=by simp [Mem.newBox]
 have m:Ext w0 M w (M.newBox w.heap.size) (w.alloc (.cells v.cells ty)) :=
  QU _ _ (.inr rfl) d (Nat.le_refl _) (fun _ _=>⟨Nat.le_refl _,fun _=>⟨rfl,rfl,rfl⟩⟩) (fun b q=>Nat.le_refl _)
 have o:=hR.mono m
 refine ⟨⟨h.below.alloc h.base_le _,by simp [Mem.newBox,h.N],h.NR,fun b q=>h.top b (by simp at q;omega),fun l k hl f e=>?_,fun l c hl=>?_,fun id x g=>?_,h.rowinj,h.loop.mono m rfl (KeepsObj.alloc _ _)⟩,m,?_⟩
 ·have p:(M.newBox w.heap.size).N=M.N+1:=rfl
  rw [p] at hl f
  by_cases e1:l=M.N
  ·by_cases e2:k=M.N
   ·omega
   ·subst e1
    rw [a,d k (by omega)] at e
    have:=h.box_lt (l:=k) (by omega)
    omega
  ·by_cases e2:k=M.N
   ·subst e2
    rw [a,d l (by omega)] at e
    have:=h.box_lt (l:=l) (by omega)
    omega
   ·rw [d l (by omega),d k (by omega)] at e
    exact h.inj l k (by omega) (by omega) e
 ·by_cases e1:l=M.N
  ·subst e1
   simp only [h.N,List.getElem?_concat_length,Option.some.injEq] at hl
   subst hl
   rw [a]
   obtain ⟨hs,hc⟩:=o.cells
   refine ⟨h.base_le,h.top _ (Nat.le_refl _),v.cells,ty,heap_alloc_new w _,hs,hR.cellsOne (fun vs e=>by subst e;cases hn),hc⟩
  ·have f:l<M.N:=by
    have:l<(st.boxes++[x.cells]).length:=(Aj.1 hl).1
    have p:=h.N
    simp at this
    omega
   rw [List.getElem?_append_left (by rw [←h.N];exact f)] at hl
   obtain ⟨a1,a2,s,n,a3,a4,a5,a6⟩:=h.box l c hl
   have j:=(Array.getElem?_eq_some_iff.1 a3).1
   rw [d l f]
   exact ⟨a1,a2,s,n,by rw [B6 _ _ j];exact a3,a4,a5,fun i t r=>(a6 i t r).mono m⟩
 ·have j:=(h.row id x g).lt
  refine (h.row id x g).keep m rfl rfl rfl rfl rfl (fun l hl=>?_) (B6 _ _ j)
  by_cases e1:l=M.N
  ·subst e1
   rw [a]
   show w.heap.size≠M.blk id
   omega
  ·have p:(M.newBox w.heap.size).N=M.N+1:=rfl
   rw [d l (by omega)]
   exact (h.row id x g).ne l (by omega)
 ·have:=R.box (w0:=w0) (M:=M.newBox w.heap.size) (w:=w.alloc (.cells v.cells ty)) (l:=st.boxes.length) (off:=0) (by rw [←h.N];exact Nat.lt_succ_self _)
  rwa [←h.N,a,h.N] at this
theorem Hh {t:TypeId} {z:List AV} (h:EW P t=some z):∃ i v,P.info? t=some i∧i.zero=some v∧Q5 v=true∧v.cells.size=i.size∧z=(Ku v).cells:=by
 unfold EW at h
 split at h
 ·rename_i i hi
  split at h
  ·rename_i v hv
   split at h
   ·rename_i hc
    simp only [Bool.and_eq_true,beq_iff_eq] at hc
    exact ⟨i,v,hi,hv,hc.1,hc.2,(Option.some.inj h).symm⟩
   ·cases h
  ·cases h
 ·cases h
theorem PH {v:Value} (h:Q5 v=true):CM (Ku v)=true:=by
 have hc:∀ u,CM (PC u)=true:=fun u=>by unfold PC;split<;>rfl
 cases v<;>first | rfl | exact hc _
theorem Zgv (h:Rel w0 n M e st a w) (t:TypeId) (hob:(BB P e true st (.alloc t)).1) :
  Yields' P w0 M (BB P e true st (.alloc t)).2.2 (BB P e true st (.alloc t)).2.1 w (do pure (.value (← Instr.alloc t true (.tuple #[])))):=by
 unfold BB at hob ⊢
 cases hz:EW P t with
 | none=>simp [hz] at hob
 | some z =>
  simp only [hz]
  obtain ⟨i,v,g,hv,b,hs,rfl⟩:=Hh hz
  obtain ⟨f,c,d⟩:=h.st.newBox v (Ku v) t (Un b) (PH b)
  refine .value ⟨_,_,_,?_,c,f,d⟩
  simp [Instr.alloc,zeroValue,typeInfo,g,hv,newVar,newRow]
theorem Zkm (h:Rel w0 n M e st a w) (t:TypeId) (x:Operand) (hob:(BB P e true st (.box t x)).1) :
  Yields' P w0 M (BB P e true st (.box t x)).2.2 (BB P e true st (.box t x)).2.1 w (do pure (.value (← Instr.box t (a.eval x)))):=by
 obtain ⟨_,g,d⟩:=hob
 obtain ⟨f,b,c⟩:=h.st.newBox (a.eval x) (AD e x) t (BE h g) d
 refine .value ⟨_,_,_,?_,b,f,c⟩
 simp [Instr.box,newVar,newRow]
theorem YU (vs:List Value):∀ (k:Nat) (cs:Array Value) (off:Nat),off+k+vs.length≤cs.size →
  ((vs.zipIdx k).foldl (fun cs (x:Value × Nat)=>cs.setIfInBounds (off+x.2) x.1) cs).size=cs.size ∧
  ∀ j,((vs.zipIdx k).foldl (fun cs (x:Value × Nat)=>cs.setIfInBounds (off+x.2) x.1) cs)[j]? = if off+k≤j∧j<off+k+vs.length then vs[j-(off+k)]? else cs[j]? := by
 induction vs with
 | nil=>intro k cs off h;exact ⟨rfl,fun j=>by simp;omega⟩
 | cons v vs ih =>
  intro k cs off h
  simp only [List.length_cons] at h
  simp only [List.zipIdx_cons,List.foldl_cons,List.length_cons]
  obtain ⟨c,b⟩:=ih (k+1) (cs.setIfInBounds (off+k) v) off (by simp;omega)
  refine ⟨by rw [c];simp,fun j=>?_⟩
  rw [b j]
  by_cases c1:off+(k+1)≤j∧j<off+(k+1)+vs.length
  ·rw [Ah c1,Ab,show j-(off+k)=(j-(off+(k+1)))+1 from by omega]
   simp
  ·rw [Ai c1]
   by_cases c2:j=off+k
   ·subst c2
    have a:off+k<cs.size:=by omega
    rw [Ab]
    simp [a]
   ·rw [Aa,Array.getElem?_setIfInBounds_ne (by omega)]
theorem Og {l xs:List AV} {off:Nat} (h:off+xs.length≤l.length):(Dh l off xs).length=l.length:=by
 simp [Dh];omega
theorem ZcJ {l xs:List AV} {off:Nat} (h:off+xs.length≤l.length) (j:Nat):(Dh l off xs)[j]? = if off≤j∧j<off+xs.length then xs[j-off]? else l[j]? := by
 unfold Dh
 rw [List.append_assoc,List.getElem?_append]
 simp only [List.length_take]
 have e:min off l.length=off:=by omega
 rw [e]
 by_cases c1:j<off
 ·rw [Ah c1,Aa,List.getElem?_take,Ah c1]
 ·rw [Ai c1,List.getElem?_append]
  by_cases c2:j-off<xs.length
  ·rw [Ah c2,Ab]
  ·rw [Ai c2,Aa,List.getElem?_drop]
   congr 1
   omega
theorem SQ {l xs:List AV} {off:Nat} (h1:∀ x∈l,x.one=true) (h2:∀ x∈xs,x.one=true):∀ x∈Dh l off xs,x.one=true:=by
 intro x hx
 simp only [Dh,List.mem_append] at hx
 rcases hx with (hx | hx) | hx
 ·exact h1 x (List.mem_of_mem_take hx)
 ·exact h2 x hx
 ·exact h1 x (List.mem_of_mem_drop hx)
def RowR (w0:World) (M:Mem) (w:World) (cs:Array Value) (l:List AV):Prop:=cs.size=l.length∧∀ i (h1:i<cs.size) (h2:i<l.length),R w0 M w cs[i] l[i]
theorem RowR.get {cs:Array Value} {l:List AV} (h:RowR w0 M w cs l) {i:Nat} {v:Value} {x:AV} (hv:cs[i]? = some v) (hx:l[i]? = some x):R w0 M w v x:=by
 obtain ⟨a1,rfl⟩:=Array.getElem?_eq_some_iff.1 hv
 obtain ⟨a2,rfl⟩:=Aj.1 hx
 exact h.2 i a1 a2
theorem RowR.mk {cs:Array Value} {l:List AV} (hs:cs.size=l.length) (h:∀ (i:Nat) (v:Value) (x:AV),cs[i]? = some v→l[i]? = some x→R w0 M w v x):RowR w0 M w cs l :=
 ⟨hs,fun i a b=>h i _ _ (Array.getElem?_eq_getElem a) (List.getElem?_eq_getElem b)⟩
theorem RowR.put {cs cs':Array Value} {l:List AV} (h:RowR w0 M w cs l) {v:Value} {x:AV} (hR:R w0 M w v x) {off:Nat} (hoff:off+x.cells.length≤l.length) (hs:cs'.size=cs.size)
  (hg:∀ j,cs'[j]? = if off≤j∧j<off+v.cells.toList.length then v.cells.toList[j-off]? else cs[j]?):RowR w0 M w cs' (Dh l off x.cells):=by
 obtain ⟨d,e⟩:=hR.cells
 refine .mk (by rw [hs,Og hoff];exact h.1) (fun i u y a b=>?_)
 rw [hg i] at a
 rw [ZcJ hoff] at b
 simp only [Array.length_toList] at a
 rw [←d] at b
 by_cases c:off≤i∧i<off+v.cells.size
 ·rw [Ah c] at a b
  rw [Array.getElem?_toList] at a
  exact RowR.get ⟨d,e⟩ a b
 ·rw [Ai c] at a b
  exact h.get a b
theorem Zah (t:TypeId) (pl:Nat→Option (Nat × Nat)) (hpl:∀ i o s,LQ P t i=some (o,s)→pl i=some (o,s)) :
  ∀ (vs:List (Nat × Value)) (xs:List (Nat × AV)) (cs:Array Value) (l:List AV),vs.length=xs.length→(∀ (k:Nat) (p:Nat × Value) (q:Nat × AV),vs[k]? = some p→xs[k]? = some q→p.1=q.1∧R w0 M w p.2 q.2∧CM q.2=true) →
   RowR w0 M w cs l→(∀ y∈l,y.one=true)→Qq P t l.length xs→∃ cs',Instr.fill pl cs vs=some cs'∧RowR w0 M w cs' (TS P t l xs)∧(∀ y∈TS P t l xs,y.one=true)
 | [],[],cs,l,_,_,h,h1,_=>⟨cs,rfl,h,h1⟩
 | [],_::_,_,_,hl,_,_,_,_=>by cases hl
 | _::_,[],_,_,hl,_,_,_,_=>by cases hl
 | (i,v)::vs,(i',x)::xs,cs,l,hl,hp,h,h1,hf=>by
  obtain ⟨rfl,g,hn⟩:=hp 0 _ _ rfl rfl
  simp only at g hn
  simp only [Qq] at hf
  obtain ⟨b,m⟩:=hf
  simp only [Instr.fill,TS]
  cases hpp:LQ P t i with
  | none=>simp [hpp] at b
  | some p =>
   obtain ⟨o,s⟩:=p
   simp only [hpp] at b ⊢
   obtain ⟨a1,a2⟩:=b
   obtain ⟨C,z⟩:=g.cells
   rw [hpl i o s hpp]
   have r:(decide (v.cells.size≠s)||decide (o+v.cells.size > cs.size))=false:=by have:=h.1;simp;omega
   simp only [r,Bool.false_eq_true,if_false]
   have a:=YU v.cells.toList 0 cs o (by simp;have:=h.1;omega)
   have d:(v.cells.zipIdx.foldl (fun cs (c,j)=>cs.setIfInBounds (o+j) c) cs)=(v.cells.toList.zipIdx 0).foldl (fun cs (x:Value × Nat)=>cs.setIfInBounds (o+x.2) x.1) cs:=by
    rw [←Array.foldl_toList]
    simp
   rw [d]
   simp only [Nat.add_zero] at a
   have f:=h.put g (off:=o) (by omega) a.1 a.2
   refine Zah t pl hpl vs xs _ _ (by simpa using hl) (fun k p q u n=>hp (k+1) p q (by simpa using u) (by simpa using n)) f (SQ h1 (g.cellsOne (fun vs e=>by subst e;cases hn))) ?_
   rw [Og (by omega)]
   exact m
theorem ZbW {α β:Type} (f:α→Sem β) (g:α→β):∀ (l:List α),(∀ x∈l,∀ w,(f x).run P w = .ok (g x) w)→∀ w,(l.mapM f).run P w = .ok (l.map g) w
 | [],_,w=>by simp
 | x::l,h,w=>by simp [h x (by simp),ZbW f g l (fun y a=>h y (by simp [a])) w]
theorem ZeD {α β:Type} (f:α→Sem β) (g:α→β) (xs:Array α) (h:∀ x∈xs.toList,∀ w,(f x).run P w = .ok (g x) w) (w:World):(xs.mapM f).run P w = .ok (xs.map g) w:=by
 rw [Array.mapM_eq_mapM_toList]
 simp only [Sem.run_map,ZbW f g xs.toList h w,Result.andThen_ok]
 congr 1
 apply Array.ext'
 simp
theorem RF:∀ (fs:List Field) (l:List (Nat × Nat)),S3 P fs=some l →
  l=fs.map (fun f=>(f.offset,P.cellsOf f.type))∧∀ f∈fs,∀ w,(sizeOf f.type).run P w = .ok (P.cellsOf f.type) w
 | [],l,h=>by cases h;exact ⟨rfl,fun f hf=>by cases hf⟩
 | f::fs,l,h=>by
  simp only [S3] at h
  split at h
  ·rename_i i r hi hr
   cases h
   obtain ⟨c,b⟩:=RF fs r hr
   have a:P.cellsOf f.type=i.size:=by simp [Program.cellsOf,hi]
   refine ⟨by simp [a,←c],fun g hg w=>?_⟩
   rcases List.mem_cons.1 hg with rfl | hg
   ·simp [sizeOf,typeInfo,hi,a]
   ·exact b g hg w
  ·cases h
theorem ZgD (h:Rel w0 n M e st a w) (t:TypeId) (ps:Array (Nat × Operand)) (hob:(BB P e true st (.build t ps)).1) :
  Yields' P w0 M (BB P e true st (.build t ps)).2.2 (BB P e true st (.build t ps)).2.1 w (do pure (.value (← Instr.build t (ps.map fun (i,x)=>(i,a.eval x))))):=by
 unfold BB at hob ⊢
 cases hz:EW P t with
 | none=>simp [hz] at hob
 | some z =>
  simp only [hz] at hob ⊢
  obtain ⟨K,y,F⟩:=hob
  obtain ⟨i,v,Y,hv,Q,hs,rfl⟩:=Hh hz
  have D:R w0 M w v (Ku v):=Un Q
  have d:RowR w0 M w v.cells (Ku v).cells:=D.cells
  have j:=D.cellsOne (fun vs e=>by have:=PH Q;rw [e] at this;cases this)
  have c:∀ (k:Nat) (p:Nat × Value) (q:Nat × AV),((ps.map fun (i,x)=>(i,a.eval x)).toList)[k]? = some p→(ps.toList.map fun p=>(p.1,AD e p.2))[k]? = some q→p.1=q.1∧R w0 M w p.2 q.2∧CM q.2=true:=by
   intro k p q g V
   simp only [Array.toList_map,List.getElem?_map,Option.map_eq_some_iff] at g V
   obtain ⟨J,U,rfl⟩:=g
   obtain ⟨q0,h2,rfl⟩:=V
   rw [U] at h2
   cases h2
   have E:J∈ps.toList:=List.mem_of_getElem? U
   exact ⟨rfl,BE h (y J E).1,(y J E).2⟩
  have r:((ps.map fun (i,x)=>(i,a.eval x)).toList).length=(ps.toList.map fun p=>(p.1,AD e p.2)).length:=by simp
  cases hpp:HA P t with
  | some l =>
   unfold HA at hpp
   split at hpp
   ·rename_i fs hu
    obtain ⟨e1,Z⟩:=RF _ _ hpp
    have b:∀ i o s,LQ P t i=some (o,s)→((fs.map fun f=>(f.offset,P.cellsOf f.type))[·]?) i=some (o,s):=by
     intro i o s g
     simp only [LQ,HA,hu,hpp] at g
     rw [e1] at g
     simpa using g
    obtain ⟨u,G,C,O⟩:=Zah t _ b _ _ v.cells _ r c d j F
    refine .here h.st (v := .agg u) ?_ (.agg C.1 O C.2)
    have E:=ZeD (P:=P) (fun (f:Field)=>(do pure (f.offset,←sizeOf f.type):Sem (Nat × Nat))) (fun f=>(f.offset,P.cellsOf f.type)) fs (fun f F w=>by simp [Z f F]) w
    simp only [Instr.build,zeroValue,typeInfo,Sem.run_bind,run_program,Result.andThen_ok,Y,hv,Sem.run_pure,run_underlying hu,E,G]
   ·cases hpp
  | none =>
   cases ha:WJ P t with
   | none=>simp [hpp,ha] at K
   | some p =>
    obtain ⟨m,s,ag⟩:=p
    obtain ⟨el,hu,H⟩:=UW ha
    have b:∀ i o N,LQ P t i=some (o,N)→(fun i=>some (i*s,s)) i=some (o,N):=by
     intro i o N g
     simpa [LQ,hpp,ha] using g
    obtain ⟨u,G,C,O⟩:=Zah t _ b _ _ v.cells _ r c d j F
    refine .here h.st (v := .agg u) ?_ (.agg C.1 O C.2)
    simp only [Instr.build,zeroValue,typeInfo,Sem.run_bind,run_program,Result.andThen_ok,Y,hv,Sem.run_pure,run_underlying hu,CC H,G]
theorem X0 (sz:Nat):∀ (vals:List Value) (k:Nat) (cs:Array Value),(∀ v∈vals,v.cells.size=sz)→(k+vals.length)*sz≤cs.size →
  ∃ cs',Instr.fill (fun i=>some (i*sz,sz)) cs ((vals.zipIdx k).map fun x=>(x.2,x.1))=some cs'∧cs'.size=cs.size∧(∀ j,j<k*sz→cs'[j]? = cs[j]?) ∧
   ∀ i v,vals[i]? = some v→∀ j,j<sz→cs'[(k+i)*sz+j]? = v.cells[j]?
 | [],k,cs,_,_=>⟨cs,rfl,rfl,fun _ _=>rfl,fun i v h=>by simp at h⟩
 | v::vals,k,cs,hv,hl=>by
  have f:=hv v (by simp)
  simp only [List.length_cons] at hl
  have d:(k+1)*sz≤cs.size:=Nat.le_trans (Nat.mul_le_mul_right _ (by omega)) hl
  rw [Nat.succ_mul] at d
  simp only [List.zipIdx_cons,List.map_cons,Instr.fill]
  have g:(decide (v.cells.size≠sz)||decide (k*sz+v.cells.size > cs.size))=false:=by simp;omega
  simp only [g,Bool.false_eq_true,if_false]
  have b:(v.cells.zipIdx.foldl (fun cs (c,j)=>cs.setIfInBounds (k*sz+j) c) cs)=(v.cells.toList.zipIdx 0).foldl (fun cs (x:Value × Nat)=>cs.setIfInBounds (k*sz+x.2) x.1) cs:=by
   rw [←Array.foldl_toList]
   simp
  have a:=YU v.cells.toList 0 cs (k*sz) (by simp;omega)
  rw [b]
  simp only [Nat.add_zero,Array.length_toList,f] at a
  obtain ⟨cs',a1,a2,a3,a4⟩:=X0 sz vals (k+1) ((v.cells.toList.zipIdx 0).foldl (fun cs (x:Value × Nat)=>cs.setIfInBounds (k*sz+x.2) x.1) cs) (fun u hu=>hv u (by simp [hu])) (by rw [a.1];rw [show k+1+vals.length=k+(vals.length+1) from by omega];exact hl)
  refine ⟨cs',a1,by rw [a2,a.1],fun j e=>?_,fun i u hu j e=>?_⟩
  ·rw [a3 j (by rw [Nat.succ_mul];omega),a.2 j,Aa]
  ·cases i with
   | zero =>
    simp only [List.getElem?_cons_zero,Option.some.injEq] at hu
    subst hu
    simp only [Nat.add_zero]
    rw [a3 _ (by rw [Nat.succ_mul];omega),a.2,Ab,Array.getElem?_toList]
    congr 1
    omega
   | succ i =>
    have:=a4 i u (by simpa using hu) j e
    rw [←this,show k+(i+1)=k+1+i from by omega]
theorem YE {ps:List (Nat × Operand)} {m:Nat} (h:ps.map (·.1)=List.range m) (f:Operand→Value) :
  (ps.map fun p=>(p.1,f p.2))=((ps.map fun p=>f p.2).zipIdx 0).map fun x=>(x.2,x.1):=by
 have b:ps.length=m:=by simpa using congrArg List.length h
 apply List.ext_getElem?
 intro i
 simp only [List.getElem?_map,List.getElem?_zipIdx]
 cases hp:ps[i]? with
 | none=>simp
 | some p =>
  have a:i<m:=by rw [←b];exact (Aj.1 hp).1
  have:=congrArg (·[i]?) h
  simp [hp,a] at this
  simp [this]
theorem R.row {cs:Array Value} {ty:TypeId} {xs:List AV} {sz k:Nat} (us:Nat→Value) (hu:∀ i (hi:i<xs.length),(us i).cells.size=sz∧R w0 M w (us i) xs[i])
  (hc:∀ i,i<xs.length→∀ j,j<sz→cs[i*sz+j]? = (us i).cells[j]?) {cap:Nat} (hcap:xs.length≤cap) (hm:cap≤maxLen) {o:Own} (hk:xs.length*sz≤k) (M':Mem) (hM:M'.top w.heap.size=k)
  (hx:Ext w0 M w M' (w.alloc (.cells cs ty))) (ho:ZgV M' w.heap.size 0 cap xs.length sz o) :
  R w0 M' (w.alloc (.cells cs ty)) (.slice (some ⟨w.heap.size,0,none⟩) xs.length cap) (.list xs o):=by
 refine .list sz us hcap hm (fun i hi=>⟨(hu i hi).1,fun j a=>⟨.inr ?_,?_⟩⟩) (fun i hi=>((hu i hi).2).mono hx) ho
 ·rw [hM]
  have:(i+1)*sz≤xs.length*sz:=Nat.mul_le_mul_right _ hi
  rw [Nat.succ_mul] at this
  omega
 ·rw [Nat.zero_add,World.cell?_alloc_new]
  exact hc i hi j a
theorem Yt (h:Rel w0 n M e st a w) (t:TypeId) (m:Nat) (ps:Array (Nat × Operand)) (hmk:K0 e t=false) (hob:(BB P e true st (.buildSlice t m ps)).1) :
  Yields' P w0 M (BB P e true st (.buildSlice t m ps)).2.2 (BB P e true st (.buildSlice t m ps)).2.1 w (do pure (.value (← Instr.buildSlice t m (ps.map fun (i,x)=>(i,a.eval x))))):=by
 unfold BB at hob ⊢
 cases he:OV P t with
 | none=>simp [he] at hob
 | some p =>
  obtain ⟨O,sz,ag,V⟩:=p
  simp only [he,hmk] at hob ⊢
  obtain ⟨l,H,K,r,Y,G⟩:=hob
  obtain ⟨i,hu,hi,_,q⟩:=Iz he
  obtain ⟨z,F⟩:=Option.isSome_iff_exists.1 Y
  obtain ⟨i',v,E,hv,hc,hs,rfl⟩:=Hh F
  have N:ps.toList.length=m:=by simpa using congrArg List.length H
  have c:∀ p∈ps.toList,(a.eval p.2).cells.size=sz:=fun p C=>by
   rw [(BE h (l p C)).cells.1]
   exact G _ (List.mem_map.2 ⟨p,C,rfl⟩)
  obtain ⟨zc,hzc⟩:∃ zc:Array Value,if m*sz=0 then zc = #[] else zc=v.cells:=by
   by_cases h0:m*sz=0
   ·exact ⟨#[],by rw [Ah h0]⟩
   ·exact ⟨v.cells,by rw [Ai h0]⟩
  obtain ⟨g,a1,a2,a3,a4⟩:=X0 sz (ps.toList.map fun p=>a.eval p.2) 0 ((Array.range (m*sz)).map (zc[· % zc.size]!)) (fun u hu=>by obtain ⟨p,C,rfl⟩:=List.mem_map.1 hu;exact c p C) (by simp [N])
  obtain ⟨y,Q⟩:=h.st.newTop g O (m*sz)
  have b:((ps.toList.map fun p=>AD e p.2).map AV.pub).length=m:=by simp [←N]
  have f:=R.row (us:=fun i=>((ps.toList.map fun p=>a.eval p.2).getD i undef)) (xs:=(ps.toList.map fun p=>AD e p.2).map AV.pub) (cs:=g) (ty:=O) (sz:=sz) (k:=m*sz) (cap:=m) (o := .full) ?hu ?hc (by rw [b];exact Nat.le_refl _) ?hm (by rw [b];exact Nat.le_refl _) (M.newTop w.heap.size (m*sz)) (by simp [Mem.newTop]) Q b
  case hu =>
   intro k D
   have d:k<ps.toList.length:=by simpa using D
   have Z:(ps.toList.map fun p=>a.eval p.2).getD k undef=a.eval (ps.toList[k]).2:=by simp [List.getD,List.getElem?_eq_getElem d]
   rw [Z]
   refine ⟨c _ (List.getElem_mem _),?_⟩
   simp only [List.getElem_map]
   exact (BE h (l _ (List.getElem_mem _))).pub
  case hc =>
   intro k D j U
   have d:k<ps.toList.length:=by simpa using D
   have:=a4 k (a.eval (ps.toList[k]).2) (by simp [List.getElem?_eq_getElem d]) j U
   rw [Nat.zero_add] at this
   rw [this]
   simp [List.getD,List.getElem?_eq_getElem d]
  case hm =>
   have:m*1≤m*sz:=Nat.mul_le_mul_left _ r
   simp [maxLen]
   omega
  rw [b] at f
  refine .value ⟨_,_,_,?_,Q,y,f⟩
  have J:¬ (m*sz > 2 ^ 24):=by omega
  have s:(ps.map fun (i,x)=>(i,a.eval x)).toList=((ps.toList.map fun p=>a.eval p.2).zipIdx 0).map fun x=>(x.2,x.1):=by
   rw [Array.toList_map]
   exact YE H a.eval
  by_cases h0:m*sz=0
  ·rw [Ah h0] at hzc
   subst hzc
   simp only [Instr.buildSlice,Sem.run_bind,run_underlying hu,Result.andThen_ok,CC q,Ai J,Ah h0,Sem.run_pure,s,a1,newRow,run_newObj]
   rfl
  ·rw [Ai h0] at hzc
   subst hzc
   simp only [Instr.buildSlice,Sem.run_bind,run_underlying hu,Result.andThen_ok,CC q,Ai J,Ai h0,Sem.run_pure,zeroValue,typeInfo,run_program,E,hv,s,a1,newRow,run_newObj]
   rfl
theorem Below.setRow {B:Nat} {x y:World} (h:Below B x y) {g:Nat} (hg:B≤g) (cs:Array Value):Below B x (y.setRow g cs) :=
 h.trans ⟨rfl,rfl,rfl,by simp,fun k a=>setRow_other y g k cs (by omega)⟩
theorem KeepsObj.setRow {g:Nat} {c:Array Value} {ty:TypeId} (hg:w.heap[g]? = some (.cells c ty (0,0))) (c':Array Value):KeepsObj w (w.setRow g c'):=by
 intro b o h1 h2
 by_cases q:b=g
 ·subst q;rw [hg] at h1;cases h1;cases h2
 ·rw [setRow_other w g b c' q];exact h1
theorem M9 (M':Mem) (hN:M'.N=M.N) (hb:∀ l,l<M.N→M'.bx l=M.bx l) (hNR:M'.NR=M.NR)
  (hr:∀ id,id<M.NR→M.fr id≤M'.fr id∧(M'.fr id=M.fr id→M'.blk id=M.blk id∧M'.cap id=M.cap id∧M'.rsz id=M.rsz id)) (ht:∀ b,M.top b≤M'.top b)
  {g:Nat} {c c':Array Value} {ty:TypeId} (hg:w.heap[g]? = some (.cells c ty (0,0))) (hg0:w0.heap.size≤g) (hkeep:∀ j,j<M.top g→c'[j]? = c[j]?) (hNL:M'.NL=M.NL:=by rfl) (hlb:M'.lb=M.lb:=by rfl) :
  Ext w0 M w M' (w.setRow g c') :=
 ⟨by omega,hb,by omega,hr,fun b a v e d=>by
  refine ⟨?_,e.imp id (fun q=>Nat.lt_of_lt_of_le q (ht b))⟩
  by_cases hbg:b=g
  ·subst hbg
   have i:a<M.top b:=e.resolve_left (by omega)
   rw [cell_of_row w b a c ty _ hg] at d
   rw [cell_of_row _ b a c' ty _ (setRow_heap w b c c' ty _ hg),hkeep a i]
   exact d
  ·rw [cell_setRow_other w g c' ⟨b,a,none⟩ hbg]
   exact d,by simp,by omega,fun _ _=>by rw [hlb],fun _ _ _=>by omega,fun b o h f _=>KeepsObj.setRow hg c' b o h f⟩
theorem ZfR (h:Rel w0 n M e st a w) (t:TypeId) (x v:Operand) (hob:(BB P e true st (.store t x v)).1) :
  Yields' P w0 M (BB P e true st (.store t x v)).2.2 (BB P e true st (.store t x v)).2.1 w (do Instr.storeAt t (a.eval x) (a.eval v);pure .skip):=by
 unfold BB at hob ⊢
 cases ht:MZ P t with
 | none=>simp [ht] at hob
 | some p =>
  obtain ⟨sz,ag⟩:=p
  simp only [ht] at hob ⊢
  obtain ⟨_,m,hv,hbx,hr,hn,hl,hle⟩:=hob
  have hRx:=BE h m
  have g:=BE h hv
  generalize AD e x=X at hRx hbx hr hle ⊢
  generalize a.eval x=vx at hRx ⊢
  cases X with
  | box l off =>
   cases hRx with
   | box hlN =>
    have ae:l<st.boxes.length:=by simpa [Et] using hr
    obtain ⟨cs,hcs⟩:∃ cs,st.boxes[l]? = some cs:=⟨_,List.getElem?_eq_getElem ae⟩
    have aa:st.boxes.getD l []=cs:=by simp [List.getD,hcs]
    obtain ⟨K,b2,c,O,F,b4,b5,b6⟩:=h.st.box l cs hcs
    simp only [BK,FV,aa] at hle
    simp only [Xf,aa]
    obtain ⟨v1,v2⟩:=g.cells
    have v3:=g.cellsOne (fun vs e=>by rw [e] at hn;cases hn)
    have z:∀ u∈(a.eval v).cells.toList,u.oneCell'=true:=by
     intro u hu
     obtain ⟨k,G,rfl⟩:=List.getElem_of_mem hu
     simp only [Array.length_toList] at G
     rw [Array.getElem_toList]
     exact (v2 k G (by omega)).oneCell (v3 _ (List.getElem_mem _))
    have hst:=run_storeCells_at P (M.bx l) off O (a.eval v).cells.toList 0 c w F (by simp;omega) z
    simp only [Nat.add_zero] at hst
    generalize hc':(c.toList.take off++(a.eval v).cells.toList++c.toList.drop (off+(a.eval v).cells.toList.length)).toArray=c' at hst
    have r:c'.size=c.size:=by rw [←hc'];simp;omega
    have s:∀ j,c'[j]? = if off≤j∧j<off+(a.eval v).cells.toList.length then (a.eval v).cells.toList[j-off]? else c[j]? := by
     intro j
     rw [←hc',List.getElem?_toArray,List.append_assoc,List.getElem?_append]
     simp only [List.length_take,Array.length_toList]
     have e:min off c.size=off:=by omega
     rw [e]
     by_cases c1:j<off
     ·rw [Ah c1,Aa,List.getElem?_take,Ah c1,Array.getElem?_toList]
     ·rw [Ai c1,List.getElem?_append]
      simp only [Array.length_toList]
      by_cases c2:j-off<(a.eval v).cells.size
      ·rw [Ah c2,Ab]
      ·rw [Ai c2,Aa,List.getElem?_drop,Array.getElem?_toList]
       congr 1
       omega
    have m:Ext w0 M w M (w.setRow (M.bx l) c'):=M9 M rfl (fun _ _=>rfl) rfl (fun _ _=>⟨Nat.le_refl _,fun _=>⟨rfl,rfl,rfl⟩⟩) (fun _=>Nat.le_refl _) F K (fun j hj=>by rw [b2] at hj;omega)
    have f:RowR w0 M w c' (Dh cs off (AD e v).cells):=RowR.put ⟨b4,b6⟩ g (by omega) r s
    refine ⟨undef,_,M,.inr ⟨?_,rfl⟩,m,⟨Below.setRow h.st.below K _,by simp [h.st.N],h.st.NR,fun b hb=>h.st.top b (by simpa using hb),h.st.inj,fun E H hl'=>?_,fun id x y=>(h.st.row id x y).keep m rfl rfl rfl rfl rfl (h.st.row id x y).ne (setRow_other w _ _ _ (Ne.symm ((h.st.row id x y).ne l hlN))),h.st.rowinj,h.st.loop.mono m rfl (KeepsObj.setRow F _)⟩,ZdH⟩
    ·have e0:¬ ((a.eval v).cells.size≠sz):=by omega
     simp only [Instr.storeAt,Instr.sureAddr,Sem.run_bind,Sem.run_pure,Result.andThen_ok,storeVar,CC ht,Ai e0,hst]
    ·by_cases ell:E=l
     ·subst ell
      rw [List.getElem?_set_self ae] at hl'
      cases hl'
      exact ⟨K,b2,c',O,setRow_heap w _ c c' O _ F,f.1,SQ b5 v3,fun i Q D=>(f.2 i Q D).mono m⟩
     ·rw [List.getElem?_set_ne (Ne.symm ell)] at hl'
      obtain ⟨d1,d2,d,U,d3,d4,d5,d6⟩:=h.st.box E H hl'
      have C:E<M.N:=by rw [h.st.N];exact (Aj.1 hl').1
      have Y:M.bx E≠M.bx l:=fun q=>ell (h.st.inj E l C hlN q)
      exact ⟨d1,d2,d,U,by rw [setRow_other w _ _ _ Y];exact d3,d4,d5,fun i Q D=>(d6 i Q D).mono m⟩
  | vel id ver off =>
   cases hRx with
   | @vel _ _ _ ad y hver hh =>
    obtain ⟨aj,cs,J⟩:=UO (show (IH st.rows id ver).isSome=true from hr)
    have f:=I5 J
    obtain ⟨f1,f2,K,b2,f5,f6,f7,c,O,F,b4,ah,b5,b6⟩:=h.st.row id _ f
    have had:=hh f1.symm
    subst had
    simp only [BK,FV,J] at hle
    simp only [Xf,J]
    obtain ⟨v1,v2⟩:=g.cells
    have v3:=g.cellsOne (fun vs e=>by rw [e] at hn;cases hn)
    have z:∀ u∈(a.eval v).cells.toList,u.oneCell'=true:=by
     intro u hu
     obtain ⟨k,G,rfl⟩:=List.getElem_of_mem hu
     simp only [Array.length_toList] at G
     rw [Array.getElem_toList]
     exact (v2 k G (by omega)).oneCell (v3 _ (List.getElem_mem _))
    have hst:=run_storeCells_at P (M.blk id) off O (a.eval v).cells.toList 0 c w F (by simp;omega) z
    simp only [Nat.add_zero] at hst
    generalize hc':(c.toList.take off++(a.eval v).cells.toList++c.toList.drop (off+(a.eval v).cells.toList.length)).toArray=c' at hst
    have r:c'.size=c.size:=by rw [←hc'];simp;omega
    have s:∀ j,c'[j]? = if off≤j∧j<off+(a.eval v).cells.toList.length then (a.eval v).cells.toList[j-off]? else c[j]? := by
     intro j
     rw [←hc',List.getElem?_toArray,List.append_assoc,List.getElem?_append]
     simp only [List.length_take,Array.length_toList]
     have e:min off c.size=off:=by omega
     rw [e]
     by_cases c1:j<off
     ·rw [Ah c1,Aa,List.getElem?_take,Ah c1,Array.getElem?_toList]
     ·rw [Ai c1,List.getElem?_append]
      simp only [Array.length_toList]
      by_cases c2:j-off<(a.eval v).cells.size
      ·rw [Ah c2,Ab]
      ·rw [Ai c2,Aa,List.getElem?_drop,Array.getElem?_toList]
       congr 1
       omega
    have m:Ext w0 M w M (w.setRow (M.blk id) c'):=M9 M rfl (fun _ _=>rfl) rfl (fun _ _=>⟨Nat.le_refl _,fun _=>⟨rfl,rfl,rfl⟩⟩) (fun _=>Nat.le_refl _) F K (fun j hj=>by rw [b2] at hj;omega)
    have Z:id<st.rows.length:=(Aj.1 f).1
    have ai:=Og (l:=cs) (xs:=(AD e v).cells) (off:=off) (by omega)
    refine ⟨undef,_,M,.inr ⟨?_,rfl⟩,m,⟨Below.setRow h.st.below K _,h.st.N,by simp [h.st.NR],fun b hb=>h.st.top b (by simpa using hb),h.st.inj,fun E H hl'=>?_,fun o x hid'=>?_,h.st.rowinj,h.st.loop.mono m rfl (KeepsObj.setRow F _)⟩,ZdH⟩
    ·have e0:¬ ((a.eval v).cells.size≠sz):=by omega
     simp only [Instr.storeAt,Instr.sureAddr,Sem.run_bind,Sem.run_pure,Result.andThen_ok,storeVar,CC ht,Ai e0,hst]
    ·obtain ⟨d1,d2,d,U,d3,d4,d5,d6⟩:=h.st.box E H hl'
     have C:E<M.N:=by rw [h.st.N];exact (Aj.1 hl').1
     exact ⟨d1,d2,d,U,by rw [setRow_other w _ _ _ (f5 E C)];exact d3,d4,d5,fun i Q D=>(d6 i Q D).mono m⟩
    ·by_cases ell:o=id
     ·subst ell
      rw [List.getElem?_set_self Z] at hid'
      cases hid'
      refine ⟨f1,f2,K,b2,f5,f6,f7,c',O,setRow_heap w _ c c' O _ F,r.trans b4,by omega,SQ b5 v3,fun i Q D=>?_⟩
      have ab:RowR w0 M w (c'.extract 0 cs.length) (Dh cs off (AD e v).cells):=by
       have af:RowR w0 M w (c.extract 0 cs.length) cs:=⟨by simp;omega,fun i Q D=>by rw [Array.getElem_extract];simp only [Nat.zero_add];exact b6 i (by omega) D⟩
       refine RowR.put af g (by omega) (by simp;omega) (fun j=>?_)
       simp only [Array.getElem?_extract,Nat.zero_add,s]
       by_cases q1:j<min cs.length c'.size
       ·rw [Ab]
        by_cases q2:off≤j∧j<off+(a.eval v).cells.toList.length
        ·rw [Ah q2,Ah q2]
        ·rw [Ai q2,Ai q2,Ab]
       ·rw [Aa,Ai (by simp;omega),Aa]
      have h3:i<(c'.extract 0 cs.length).size:=by simp;omega
      have:=(ab.2 i h3 D).mono m
      rw [Array.getElem_extract] at this
      simpa using this
     ·rw [List.getElem?_set_ne (Ne.symm ell)] at hid'
      have G:=h.st.row o x hid'
      have V:o<M.NR:=by rw [h.st.NR];exact (Aj.1 hid').1
      have Y:M.blk o≠M.blk id:=fun q=>ell (h.st.rowinj o id V y q)
      exact G.keep m rfl rfl rfl rfl rfl G.ne (setRow_other w _ _ _ Y)
  | _=>cases hbx
end
section
variable {P:Program} {w0:World} {n:Nat} {M:Mem} {e:Env} {st:St} {a:Act} {w:World}
def flat (us:Nat→Value) (m:Nat):List Value:=(List.range m).flatMap fun i=>(us i).cells.toList
theorem YN (us:Nat→Value) (m:Nat):flat us (m+1)=flat us m++(us m).cells.toList:=by
 simp [flat,List.range_succ]
theorem Bg {us:Nat→Value} {sz:Nat}:∀ {m:Nat},(∀ i,i<m→(us i).cells.size=sz)→(flat us m).length=m*sz
 | 0,_=>by simp [flat]
 | m+1,h=>by
  rw [YN,List.length_append,Bg (fun i a=>h i (by omega)),Array.length_toList,h m (by omega),Nat.succ_mul]
theorem Lr {us:Nat→Value} {sz:Nat}:∀ {m:Nat},(∀ i,i<m→(us i).cells.size=sz)→∀ i,i<m→∀ j,j<sz→(flat us m)[i*sz+j]? = (us i).cells[j]?
 | 0,_,i,a,_,_=>absurd a (by omega)
 | m+1,h,i,a,j,hj=>by
  have d:=Bg (us:=us) (m:=m) (fun i a=>h i (by omega))
  rw [YN,List.getElem?_append,d]
  by_cases c:i=m
  ·subst c
   rw [Aa,show i*sz+j-i*sz=j from by omega,Array.getElem?_toList]
  ·have b:(i+1)*sz≤m*sz:=Nat.mul_le_mul_right _ (by omega)
   rw [Nat.succ_mul] at b
   rw [Ab]
   exact Lr (fun i a=>h i (by omega)) i (by omega) j hj
theorem HL {us:Nat→Value} {sz m:Nat} (hs:∀ i,i<m→(us i).cells.size=sz) {b off:Nat} (hsz:0<sz) (hc:∀ i,i<m→∀ j,j<sz→w.cell? ⟨b,off+i*sz+j,none⟩=(us i).cells[j]?) :
  ∀ j u,(flat us m)[j]? = some u→w.cell? ((⟨b,off,none⟩:Addr).add j)=some u:=by
 intro j u f
 have l:=Bg hs
 have k:j<m*sz:=by rw [←l];exact (Aj.1 f).1
 have e:=Nat.div_add_mod j sz
 have h:j / sz<m:=(Nat.div_lt_iff_lt_mul hsz).2 k
 have a:=Nat.mod_lt j hsz
 have d:=Lr hs (j / sz) h (j % sz) a
 have c:=hc (j / sz) h (j % sz) a
 have g:j / sz*sz+j % sz=j:=by rw [Nat.mul_comm];exact e
 rw [g] at d
 rw [Nat.add_assoc,g] at c
 rw [F9,c,←d,f]
theorem R.list_open {v:Value} {xs:List AV} {o:Own} {sz:Nat} (h:R w0 M w v (.list xs o)) (hs:∀ y∈xs,y.cells.length=sz) :
  ∃ us:Nat→Value,(∀ i (hi:i<xs.length),(us i).cells.size=sz∧R w0 M w (us i) xs[i]) ∧
   (((v = .slice none 0 0∨∃ ad,v = .slice (some ad) 0 0)∧xs=[]∧∀ id,o ≠ .row id)∨∃ b off cap sz',v = .slice (some ⟨b,off,none⟩) xs.length cap∧xs.length≤cap∧cap≤maxLen∧ZgV M b off cap xs.length sz' o ∧
    ∀ i,i<xs.length→∀ j,j<sz→w.cell? ⟨b,off+i*sz+j,none⟩=(us i).cells[j]?):=by
 cases h with
 | nil ho=>exact ⟨fun _=>undef,fun i hi=>absurd hi (by simp),.inl ⟨.inl rfl,rfl,ho⟩⟩
 | emp ho=>exact ⟨fun _=>undef,fun i hi=>absurd hi (by simp),.inl ⟨.inr ⟨_,rfl⟩,rfl,ho⟩⟩
 | @list b off cap _ _ sz' us hc hm hcell hu ho =>
  have a:∀ i (hi:i<xs.length),(us i).cells.size=sz:=fun i hi=>by rw [(hu i hi).cells.1];exact hs _ (List.getElem_mem _)
  refine ⟨us,fun i hi=>⟨a i hi,hu i hi⟩,.inr ⟨b,off,cap,sz',rfl,hc,hm,ho,fun i hi j c=>?_⟩⟩
  have e:sz'=sz:=by rw [←(hcell i hi).1,a i hi]
  subst e
  exact ((hcell i hi).2 j c).2
theorem Wu {us:Nat→Value} {xs:List AV} {sz:Nat} (hu:∀ i (hi:i<xs.length),(us i).cells.size=sz∧R w0 M w (us i) xs[i]) (hn:∀ y∈xs,CM y=true):∀ u∈flat us xs.length,u.oneCell'=true:=by
 intro u g
 obtain ⟨i,hi,a⟩:=List.mem_flatMap.1 g
 have b:i<xs.length:=List.mem_range.1 hi
 obtain ⟨hs,d⟩:=hu i b
 obtain ⟨k,f,rfl⟩:=List.getElem_of_mem a
 simp only [Array.length_toList] at f
 rw [Array.getElem_toList]
 have c:=d.cellsOne (fun vs e=>by have:=hn _ (List.getElem_mem b);rw [e] at this;cases this)
 exact (d.cells.2 k f (by rw [←d.cells.1];exact f)).oneCell (c _ (List.getElem_mem _))
def Mem.addRow (M:Mem) (b cap k sz tp:Nat):Mem :=
  { M with NR:=M.NR+1,fr:=fun i=>if i=M.NR then k else M.fr i,blk:=fun i=>if i=M.NR then b else M.blk i,cap:=fun i=>if i=M.NR then cap else M.cap i,
           rsz:=fun i=>if i=M.NR then sz else M.rsz i,top:=fun x=>if x=b then tp else M.top x }
def Mem.growRow (M:Mem) (id b cap k tp:Nat):Mem :=
 { M with fr:=fun i=>if i=id then k else M.fr i,blk:=fun i=>if i=id then b else M.blk i,cap:=fun i=>if i=id then cap else M.cap i,top:=fun x=>if x=b then tp else M.top x }
theorem RelSt.addRow' (h:RelSt w0 M st w) {cs:Array Value} {ty:TypeId} {cap k sz tp:Nat} {x:RowA}
  (hnew:Ext w0 M w (M.addRow w.heap.size cap k sz tp) (w.alloc (.cells cs ty))→(∀ l,l<M.N→M.bx l≠w.heap.size)→RowOk w0 (M.addRow w.heap.size cap k sz tp) (w.alloc (.cells cs ty)) M.NR x) :
  RelSt w0 (M.addRow w.heap.size cap k sz tp) { st with rows:=st.rows++[x] } (w.alloc (.cells cs ty))∧Ext w0 M w (M.addRow w.heap.size cap k sz tp) (w.alloc (.cells cs ty)):=by
 have f:∀ b,b<w.heap.size→(M.addRow w.heap.size cap k sz tp).top b=M.top b:=fun b p=>by simp [Mem.addRow];omega
 have a:∀ i,i<M.NR→(M.addRow w.heap.size cap k sz tp).fr i=M.fr i∧(M.addRow w.heap.size cap k sz tp).blk i=M.blk i∧(M.addRow w.heap.size cap k sz tp).cap i=M.cap i∧(M.addRow w.heap.size cap k sz tp).rsz i=M.rsz i:=by
  intro i o
  have:¬ i=M.NR:=by omega
  simp [Mem.addRow,this]
 have g:Ext w0 M w (M.addRow w.heap.size cap k sz tp) (w.alloc (.cells cs ty)) :=
  QU _ _ (.inl rfl) (fun _ _=>rfl) (Nat.le_succ _) (fun i o=>by obtain ⟨a1,a2,a3,a4⟩:=a i o;exact ⟨by omega,fun _=>⟨a2,a3,a4⟩⟩) (fun b p=>by rw [f b p];exact Nat.le_refl _)
 have s:∀ l,l<M.N→M.bx l≠w.heap.size:=fun l q=>by have:=h.box_lt q;omega
 refine ⟨⟨h.below.alloc h.base_le _,h.N,by simp [Mem.addRow,h.NR],fun b p=>?_,h.inj,fun l c q=>?_,fun id y hid=>?_,fun i j o u d=>?_,h.loop.mono g rfl (KeepsObj.alloc _ _)⟩,g⟩
 ·simp at p
  have:(M.addRow w.heap.size cap k sz tp).top b=M.top b:=by simp [Mem.addRow];omega
  rw [this]
  exact h.top b (by omega)
 ·obtain ⟨a1,a2,G,r,a3,a4,a5,a6⟩:=h.box l c q
  have m:=(Array.getElem?_eq_some_iff.1 a3).1
  exact ⟨a1,by rw [show (M.addRow w.heap.size cap k sz tp).bx l=M.bx l from rfl,f _ m];exact a2,G,r,by rw [show (M.addRow w.heap.size cap k sz tp).bx l=M.bx l from rfl,B6 _ _ m];exact a3,a4,a5,fun i E v=>(a6 i E v).mono g⟩
 ·by_cases e1:id=M.NR
  ·subst e1
   simp only [h.NR,List.getElem?_concat_length,Option.some.injEq] at hid
   subst hid
   exact hnew g s
  ·have e:id<M.NR:=by
    have:id<(st.rows++[x]).length:=(Aj.1 hid).1
    have t:=h.NR
    simp at this
    omega
   rw [List.getElem?_append_left (by rw [←h.NR];exact e)] at hid
   have n:=h.row id y hid
   obtain ⟨C,z,F,D⟩:=a id e
   exact n.keep g C D z F (f _ n.lt) n.ne (B6 _ _ n.lt)
 ·have t:(M.addRow w.heap.size cap k sz tp).NR=M.NR+1:=rfl
  rw [t] at o u
  have new:(M.addRow w.heap.size cap k sz tp).blk M.NR=w.heap.size:=by simp [Mem.addRow]
  by_cases e1:i=M.NR
  ·by_cases e2:j=M.NR
   ·omega
   ·subst e1
    rw [new,(a j (by omega)).2.1] at d
    have:=h.row_lt (i:=j) (by omega)
    omega
  ·by_cases e2:j=M.NR
   ·subst e2
    rw [new,(a i (by omega)).2.1] at d
    have:=h.row_lt (i:=i) (by omega)
    omega
   ·rw [(a i (by omega)).2.1,(a j (by omega)).2.1] at d
    exact h.rowinj i j (by omega) (by omega) d
theorem RelSt.addRow (h:RelSt w0 M st w) {cs:Array Value} {ty:TypeId} {cap k sz:Nat} (hm:cap≤maxLen) (hk:k≤cap) (hs:cs.size=cap*sz) :
  RelSt w0 (M.addRow w.heap.size cap k sz (k*sz)) { st with rows:=st.rows++[.grow k sz] } (w.alloc (.cells cs ty))∧Ext w0 M w (M.addRow w.heap.size cap k sz (k*sz)) (w.alloc (.cells cs ty)) :=
 h.addRow' fun _ a=>by
  have q:(M.addRow w.heap.size cap k sz (k*sz)).fr M.NR=k∧(M.addRow w.heap.size cap k sz (k*sz)).blk M.NR=w.heap.size∧(M.addRow w.heap.size cap k sz (k*sz)).cap M.NR=cap∧(M.addRow w.heap.size cap k sz (k*sz)).rsz M.NR=sz∧(M.addRow w.heap.size cap k sz (k*sz)).top w.heap.size=k*sz:=by simp [Mem.addRow]
  obtain ⟨q1,q2,q3,c,b⟩:=q
  simp only [RowOk,q1,q2,q3,c,b]
  exact ⟨trivial,trivial,h.base_le,trivial,a,hm,hk,cs,ty,heap_alloc_new w _,hs⟩
theorem RelSt.addVec (h:RelSt w0 M st w) {cs:Array Value} {ty:TypeId} {cap sz:Nat} {xs:List AV} (hm:cap≤maxLen) (hz:0<sz) (hs:cs.size=cap*sz) (hl:xs.length≤cs.size) (h1:∀ x∈xs,x.one=true) (hR:∀ (i:Nat) (v:Value) (x:AV),cs[i]? = some v→xs[i]? = some x→R w0 M w v x) :
  RelSt w0 (M.addRow w.heap.size cap 0 sz 0) { st with rows:=st.rows++[.vec 0 sz xs] } (w.alloc (.cells cs ty))∧Ext w0 M w (M.addRow w.heap.size cap 0 sz 0) (w.alloc (.cells cs ty)) :=
 h.addRow' fun e c=>by
  have q:(M.addRow w.heap.size cap 0 sz 0).fr M.NR=0∧(M.addRow w.heap.size cap 0 sz 0).blk M.NR=w.heap.size∧(M.addRow w.heap.size cap 0 sz 0).cap M.NR=cap∧(M.addRow w.heap.size cap 0 sz 0).rsz M.NR=sz∧(M.addRow w.heap.size cap 0 sz 0).top w.heap.size=0:=by simp [Mem.addRow]
  obtain ⟨q1,q2,q3,f,d⟩:=q
  simp only [RowOk,q1,q2,q3,f,d]
  exact ⟨trivial,trivial,h.base_le,trivial,c,hm,hz,cs,ty,heap_alloc_new w _,hs,hl,h1,fun i a b=>(hR i _ _ (Array.getElem?_eq_getElem a) (List.getElem?_eq_getElem b)).mono e⟩
theorem RelSt.growRow' (h:RelSt w0 M st w) {id:Nat} {x0 x:RowA} (hid:st.rows[id]? = some x0) {w':World} {b cap k tp:Nat} (hbelow:Below w0.heap.size w w')
  (hsize:w.heap.size≤w'.heap.size) (hbw:b<w'.heap.size) (hbox:∀ l,l<M.N→M.bx l≠b∧w'.heap[M.bx l]? = w.heap[M.bx l]?) (hrow:∀ i,i<M.NR→i≠id→M.blk i≠b∧w'.heap[M.blk i]? = w.heap[M.blk i]?)
  (hnew:RowOk w0 (M.growRow id b cap k tp) w' id x) (hx:Ext w0 M w (M.growRow id b cap k tp) w') (hko:KeepsObj w w') :
  RelSt w0 (M.growRow id b cap k tp) { st with rows:=st.rows.set id x } w':=by
 have e:id<st.rows.length:=(Aj.1 hid).1
 refine ⟨h.below.trans hbelow,h.N,by simp [Mem.growRow,h.NR],fun y C=>?_,h.inj,fun l c r=>?_,fun i y hi=>?_,fun i j hi m a=>?_,h.loop.mono hx rfl hko⟩
 ·have:(M.growRow id b cap k tp).top y=M.top y:=by simp [Mem.growRow];omega
  rw [this]
  exact h.top y (by omega)
 ·obtain ⟨a1,a2,t,n,a3,a4,a5,a6⟩:=h.box l c r
  have p:l<M.N:=by rw [h.N];exact (Aj.1 r).1
  obtain ⟨g,f⟩:=hbox l p
  refine ⟨a1,?_,t,n,by rw [show (M.growRow id b cap k tp).bx l=M.bx l from rfl,f];exact a3,a4,a5,fun i g f=>(a6 i g f).mono hx⟩
  show (M.growRow id b cap k tp).top (M.bx l)=0
  simp [Mem.growRow,g,a2]
 ·by_cases e1:i=id
  ·subst e1
   rw [List.getElem?_set_self e] at hi
   cases hi
   exact hnew
  ·rw [List.getElem?_set_ne (Ne.symm e1)] at hi
   have o:i<M.NR:=by rw [h.NR];exact (Aj.1 hi).1
   have s:=h.row i y hi
   obtain ⟨g,f⟩:=hrow i o e1
   have q:(M.growRow id b cap k tp).fr i=M.fr i∧(M.growRow id b cap k tp).blk i=M.blk i∧(M.growRow id b cap k tp).cap i=M.cap i∧(M.growRow id b cap k tp).rsz i=M.rsz i∧(M.growRow id b cap k tp).top (M.blk i)=M.top (M.blk i):=by simp [Mem.growRow,e1,g]
   obtain ⟨q1,q2,q3,z,u⟩:=q
   exact s.keep hx q1 z q2 q3 u s.ne f
 ·have d:∀ j,(M.growRow id b cap k tp).blk j=if j=id then b else M.blk j:=fun j=>rfl
  rw [d,d] at a
  have v:(M.growRow id b cap k tp).NR=M.NR:=rfl
  rw [v] at hi m
  by_cases e1:i=id
  ·by_cases e2:j=id
   ·omega
   ·rw [Ah e1,Ai e2] at a
    exact absurd a.symm (hrow j m e2).1
  ·by_cases e2:j=id
   ·rw [Ai e1,Ah e2] at a
    exact absurd a (hrow i hi e1).1
   ·rw [Ai e1,Ai e2] at a
    exact h.rowinj i j hi m a
theorem RelSt.growRow (h:RelSt w0 M st w) {id:Nat} {k0 sz:Nat} (hid:st.rows[id]? = some (.grow k0 sz)) {w':World} {b cap k:Nat} (hb0:w0.heap.size≤b) (hbelow:Below w0.heap.size w w')
  (hsize:w.heap.size≤w'.heap.size) (hbw:b<w'.heap.size) (hm:cap≤maxLen) (hk:k≤cap) (hbox:∀ l,l<M.N→M.bx l≠b∧w'.heap[M.bx l]? = w.heap[M.bx l]?) (hrow:∀ i,i<M.NR→i≠id→M.blk i≠b∧w'.heap[M.blk i]? = w.heap[M.blk i]?)
  {cs:Array Value} {ty:TypeId} (hcs:w'.heap[b]? = some (.cells cs ty (0,0))) (hs:cs.size=cap*sz) (hx:Ext w0 M w (M.growRow id b cap k (k*sz)) w') (hko:KeepsObj w w') :
  RelSt w0 (M.growRow id b cap k (k*sz)) { st with rows:=st.rows.set id (.grow k sz) } w':=by
 refine h.growRow' hid hbelow hsize hbw hbox hrow ?_ hx hko
 have q:(M.growRow id b cap k (k*sz)).fr id=k∧(M.growRow id b cap k (k*sz)).blk id=b∧(M.growRow id b cap k (k*sz)).cap id=cap∧(M.growRow id b cap k (k*sz)).rsz id=M.rsz id∧(M.growRow id b cap k (k*sz)).top b=k*sz:=by simp [Mem.growRow]
 obtain ⟨q1,q2,q3,c,a⟩:=q
 simp only [RowOk,q1,q2,q3,c,a]
 exact ⟨trivial,(h.row id _ hid).2.1,hb0,trivial,fun l d=>(hbox l d).1,hm,hk,cs,ty,hcs,hs⟩
def ZJ (us ux:Nat→Value) (k:Nat):Nat→Value:=fun i=>if i<k then us i else ux (i-k)
theorem ZcT {us ux:Nat→Value} {xs ys:List AV} {sz:Nat} {M':Mem} {w':World} (hx:Ext w0 M w M' w') (h1:∀ i (hi:i<xs.length),(us i).cells.size=sz∧R w0 M w (us i) xs[i]) (h2:∀ i (hi:i<ys.length),(ux i).cells.size=sz∧R w0 M w (ux i) ys[i]) :
  ∀ i (hi:i<(xs++ys.map AV.pub).length),(ZJ us ux xs.length i).cells.size=sz∧R w0 M' w' (ZJ us ux xs.length i) (xs++ys.map AV.pub)[i]:=by
 intro i hi
 unfold ZJ
 by_cases c:i<xs.length
 ·rw [Ah c,List.getElem_append_left c]
  exact ⟨(h1 i c).1,((h1 i c).2).mono hx⟩
 ·simp at hi
  rw [Ai c,List.getElem_append_right (by omega),List.getElem_map]
  exact ⟨(h2 _ (by omega)).1,((h2 _ (by omega)).2).pub.mono hx⟩
theorem Zb0 {us ux:Nat→Value} {k m sz:Nat} (hs:∀ i,i<k→(us i).cells.size=sz) (hx:∀ i,i<m→(ux i).cells.size=sz) (zs:List Value) :
  ∀ i,i<k+m→∀ j,j<sz→(flat us k++flat ux m++zs)[i*sz+j]? = (ZJ us ux k i).cells[j]? := by
 intro i f j a
 have d:=Bg hs
 have b:=Bg hx
 rw [List.append_assoc,List.getElem?_append,d]
 unfold ZJ
 by_cases c:i<k
 ·have q:(i+1)*sz≤k*sz:=Nat.mul_le_mul_right _ c
  rw [Nat.succ_mul] at q
  rw [Ab,Ah c]
  exact Lr hs i c j a
 ·have q:k*sz≤i*sz:=Nat.mul_le_mul_right _ (by omega)
  have q2:(i-k+1)*sz≤m*sz:=Nat.mul_le_mul_right _ (by omega)
  rw [Nat.succ_mul] at q2
  have e:i*sz=k*sz+(i-k)*sz:=by rw [←Nat.add_mul];congr 1;omega
  rw [Aa,Ai c,List.getElem?_append,b,Ab,show i*sz+j-k*sz=(i-k)*sz+j from by omega]
  exact Lr hx (i-k) (by omega) j a
theorem Zbm (t ty el:TypeId) {sz:Nat} {ag:Bool} (ht:P.underlying t=some (.slice el)) (hty:MZ P el=some (sz,ag)) (g k cap:Nat) (cur:Array Value) (te:TypeId) (hg:w.heap[g]? = some (.cells cur te (0,0)))
  {x:Value} {m:Nat} (hlen:(Builtin.lenOf x).run P w = .ok m w) (news:List Value) (hf:(Builtin.firstCells sz m x).run P w = .ok news.toArray w) (h1:∀ u∈news,u.oneCell'=true)
  (hroom:k+m≤cap) (hfit:k*sz+news.length≤cur.size) :
  (Builtin.append_ #[t,t] ty #[.slice (some ⟨g,0,none⟩) k cap,x]).run P w =
   .ok (.slice (some ⟨g,0,none⟩) (k+m) cap) (w.setRow g (cur.toList.take (k*sz)++news++cur.toList.drop (k*sz+news.length)).toArray):=by
 have a:=run_storeCells_at P g (k*sz) te news 0 cur w hg (by simpa using hfit) h1
 simp only [Nat.add_zero] at a
 obtain ⟨i,d,c,hsz,_,_⟩:=OC hty
 subst hsz
 have b:(⟨g,0,none⟩:Addr).add (k*i.size)=⟨g,k*i.size,none⟩:=by rw [F9,Nat.zero_add]
 simp [Builtin.append_,run_underlying ht,sizeOf,typeInfo,c,hlen,hroom,hf,b,a]
theorem OI {ys:List AV} {sz:Nat} (hs:∀ y∈ys,y.cells.length=sz):(ys.flatMap fun y=>y.pub.cells).length=ys.length*sz:=by
 induction ys with
 | nil=>simp
 | cons y ys ih =>
  rw [List.flatMap_cons,List.length_append,ih (fun z a=>hs z (by simp [a])),AV.pub_cells_length,hs y (by simp),List.length_cons,Nat.succ_mul]
  omega
theorem ZgB {sz:Nat}:∀ (ys:List AV),(∀ y∈ys,y.cells.length=sz)→∀ i y,ys[i]? = some y→∀ k,k<sz→(ys.flatMap fun y=>y.pub.cells)[i*sz+k]? = y.pub.cells[k]?
 | [],_,i,y,h,_,_=>by simp at h
 | x::ys,hs,0,y,h,k,hk=>by
  simp only [List.getElem?_cons_zero,Option.some.injEq] at h
  subst h
  rw [List.flatMap_cons,Nat.zero_mul,Nat.zero_add,List.getElem?_append_left (by rw [AV.pub_cells_length,hs x (by simp)];exact hk)]
 | x::ys,hs,i+1,y,h,k,hk=>by
  have a:x.pub.cells.length=sz:=by rw [AV.pub_cells_length];exact hs x (by simp)
  rw [List.flatMap_cons,List.getElem?_append_right (by rw [a,Nat.succ_mul];omega),a,show (i+1)*sz+k-sz=i*sz+k from by rw [Nat.succ_mul];omega]
  exact ZgB ys (fun z b=>hs z (by simp [b])) i y (by simpa using h) k hk
theorem Zal {ux:Nat→Value} {ys:List AV} (hu:∀ i (hi:i<ys.length),R w0 M w (ux i) ys[i]) (hn:∀ y∈ys,CM y=true):∀ x∈ys.flatMap (fun y=>y.pub.cells),x.one=true:=by
 intro x c
 obtain ⟨y,b,a⟩:=List.mem_flatMap.1 c
 obtain ⟨i,hi,rfl⟩:=List.mem_iff_getElem.1 b
 refine ((hu i hi).pub).cellsOne (fun vs e=>?_) x a
 have:=hn _ b
 cases h:ys[i]<;>rw [h] at e this<;>first | (cases this;done) | (cases e;done)
theorem Ziw {ux:Nat→Value} {ys:List AV} {sz:Nat} (hz:0<sz) (hu:∀ i (hi:i<ys.length),(ux i).cells.size=sz∧R w0 M w (ux i) ys[i]) (hs:∀ y∈ys,y.cells.length=sz) {j:Nat} {v:Value} {x:AV} (hv:(flat ux ys.length)[j]? = some v) (hx:(ys.flatMap fun y=>y.pub.cells)[j]? = some x):R w0 M w v x:=by
 have d:j<ys.length*sz:=by rw [←OI hs];exact (Aj.1 hx).1
 have hi:j / sz<ys.length:=(Nat.div_lt_iff_lt_mul hz).2 d
 have c:=Nat.mod_lt j hz
 have e:j / sz*sz+j % sz=j:=by rw [Nat.mul_comm];exact Nat.div_add_mod j sz
 have b:=Lr (us:=ux) (sz:=sz) (fun i hi=>(hu i hi).1) (j / sz) hi (j % sz) c
 have a:=ZgB ys hs (j / sz) _ (List.getElem?_eq_getElem hi) (j % sz) c
 rw [e] at b a
 rw [hv] at b
 rw [hx] at a
 obtain ⟨_,f⟩:=((hu _ hi).2).pub.cells
 obtain ⟨q1,q2⟩:=Array.getElem?_eq_some_iff.1 b.symm
 obtain ⟨q3,g⟩:=Aj.1 a.symm
 rw [←q2,←g]
 exact f _ q1 q3
theorem YX (h:Rel w0 n M e st a w) (s x:Operand) (t ty:TypeId) (hs:Ba e true s) (hx:Ba e true x) (hob:(B2 P st t (AD e s) (AD e x)).1) :
  Yields' P w0 M (B2 P st t (AD e s) (AD e x)).2.2 (B2 P st t (AD e s) (AD e x)).2.1 w (do pure (.value (← Builtin.append_ #[t,t] ty #[a.eval s,a.eval x]))):=by
 have hRs:=BE h hs
 have hRx:=BE h hx
 generalize AD e s=S at hRs hob ⊢
 generalize AD e x=X at hRx hob ⊢
 generalize a.eval s=vs at hRs ⊢
 generalize a.eval x=vx at hRx ⊢
 unfold B2 at hob ⊢
 cases he:OV P t with
 | none=>simp [he] at hob
 | some p =>
  obtain ⟨el,sz,ag,bn⟩:=p
  simp only [he] at hob ⊢
  obtain ⟨f,hu,m,a1,a9⟩:=Iz he
  have r:f.size=sz:=by
   obtain ⟨i',d,h1,h2,_⟩:=OC a9
   rw [m] at h1;cases h1;exact h2
  cases S with
  | list xs o =>
   cases o with
   | none=>exact hob.elim
   | full =>
   simp only at hob ⊢
   by_cases hl0:(Bj X).length=0
   ·rw [Ah hl0] at hob ⊢
    obtain ⟨lx,K⟩:=hob
    obtain ⟨ys,o',rfl⟩:=Js lx
    simp only [Bj] at hl0
    have:ys=[]:=List.length_eq_zero_iff.1 hl0
    subst this
    refine .here h.st (v:=vs) ?_ hRs
    have bf:(Builtin.lenOf vx).run P w = .ok 0 w∧(Builtin.firstCells sz 0 vx).run P w = .ok #[] w:=by
     cases hRx with
     | nil _=>exact ⟨rfl,rfl⟩
     | emp _=>exact ⟨rfl,by simp [Builtin.firstCells,loadCells,loadCellsFrom]⟩
     | list=>exact ⟨rfl,by simp [Builtin.firstCells,loadCells,loadCellsFrom]⟩
    obtain ⟨bc,bd⟩:=bf
    have ba:∀ (ad:Option Addr) (ln cap:Nat),ln≤cap→(Builtin.append_ #[t,t] ty #[.slice ad ln cap,vx]).run P w = .ok (.slice ad ln cap) w:=fun ad ln cap Z=>by
     cases ad with
     | none=>simp [Builtin.append_,run_underlying hu,sizeOf,typeInfo,m,r,bc,bd,Z]
     | some ad=>simp [Builtin.append_,run_underlying hu,sizeOf,typeInfo,m,r,bc,bd,Z,storeCells]
    cases hRs with
    | nil _=>exact ba none 0 0 (Nat.le_refl _)
    | emp _=>exact ba _ 0 0 (Nat.le_refl _)
    | list sz us hc=>exact ba _ _ _ hc
   rw [Ai hl0] at hob ⊢
   obtain ⟨lx,⟨K,hz,F,a0,cx⟩,cs⟩:=hob
   obtain ⟨ys,o',rfl⟩:=Js lx
   simp only [Bj] at *
   have hpos:0<ys.length:=by omega
   obtain ⟨z,aq⟩:=Option.isSome_iff_exists.1 hz
   obtain ⟨i',v,hi',hv,hc,ab,rfl⟩:=Hh aq
   rw [m] at hi';cases hi'
   obtain ⟨us,u1,u2⟩:=hRs.list_open cs
   obtain ⟨ux,x1,x2⟩:=hRx.list_open (fun y hy=>(cx y hy).1)
   have ai:∀ i,i<xs.length→(us i).cells.size=sz:=fun i m=>(u1 i m).1
   have g:∀ i,i<ys.length→(ux i).cells.size=sz:=fun i m=>(x1 i m).1
   rcases x2 with ⟨_,q,_⟩ | ⟨bx,ox,cx',_,rfl,_,_,_,hcx⟩
   ·subst q;exact absurd hpos (by simp)
   have J:=HL (w:=w) g K hcx
   have Q:xs.length+ys.length≤maxLen:=by simp [maxLen];omega
   have G:∀ (O:Nat) (zs:List Value) (cells:Array Value),cells.toList=flat us xs.length++flat ux ys.length++zs→zs.length=(grownCap w (xs.length+ys.length) O el-(xs.length+ys.length))*sz →
     (Builtin.append_ #[t,t] ty #[vs,.slice (some ⟨bx,ox,none⟩) ys.length cx']).run P w = .ok (.slice (some ⟨w.heap.size,0,none⟩) (xs.length+ys.length) (grownCap w (xs.length+ys.length) O el)) (w.drew.alloc (.cells cells el)) →
     Yields' P w0 M { st with rows:=st.rows++[.grow (xs.length+ys.length) sz] } (.list (xs++ys.map AV.pub) (.row st.rows.length)) w (do pure (.value (← Builtin.append_ #[t,t] ty #[vs,.slice (some ⟨bx,ox,none⟩) ys.length cx']))):=by
    intro O zs cells E bb hrun
    obtain ⟨d1,d2⟩:=h.st.drew
    have aa:=grownCap_ge w (xs.length+ys.length) O el
    have Z:=grownCap_le_maxLen w (xs.length+ys.length) O el Q
    have H:cells.size=grownCap w (xs.length+ys.length) O el*sz:=by
     have:cells.size=cells.toList.length:=by simp
     rw [this,E]
     simp only [List.length_append,Bg ai,Bg g,bb]
     rw [←Nat.add_mul,←Nat.add_mul]
     congr 1
     omega
    obtain ⟨r1,r2⟩:=d1.addRow (cs:=cells) (ty:=el) (sz:=sz) Z aa H
    have ah:=ZcT (w0:=w0) d2 u1 x1
    have C:(xs++ys.map AV.pub).length=xs.length+ys.length:=by simp
    have Y:=R.row (w0:=w0) (M:=M) (w:=w.drew) (us:=ZJ us ux xs.length) (xs:=xs++ys.map AV.pub) (cs:=cells) (ty:=el) (sz:=sz) (k:=(xs.length+ys.length)*sz) (cap:=grownCap w (xs.length+ys.length) O el) (o := .row st.rows.length) ah
     (fun i m j hj=>by
      rw [C] at m
      rw [←Array.getElem?_toList,E]
      exact Zb0 ai g zs i m j hj) (by rw [C];exact aa) Z (by rw [C];exact Nat.le_refl _) (M.addRow w.drew.heap.size (grownCap w (xs.length+ys.length) O el) (xs.length+ys.length) sz ((xs.length+ys.length)*sz)) (by simp [Mem.addRow]) r2
     (by
      have hN:=h.st.NR
      refine ⟨by simp [Mem.addRow,hN],by rw [C];simp [Mem.addRow,hN],fun _=>by simp [Mem.addRow,hN]⟩)
    rw [C] at Y
    exact .value ⟨_,_,_,hrun,d2.trans r2,r1,Y⟩
   have ae:(flat ux ys.length).length=ys.length*f.size:=by rw [Bg g,r]
   have am:(xs.length+ys.length)*f.bytes≤140737488355328:=by rw [a1];exact F
   rcases u2 with ⟨rfl | ⟨ad,rfl⟩,q,_⟩ | ⟨bs,os,cps,sz',rfl,_,_,ho,hcs'⟩
   ·subst q
    simp only [List.length_nil,Nat.zero_add] at *
    have hrun:=run_append_nil (P:=P) w t ty el f v hu m hv ⟨bx,ox,none⟩ ys.length cx' (flat ux ys.length) ae J hpos (by omega) (by omega)
    refine G 0 (Builtin.zeroCells v.cells (grownCap w ys.length 0 el-ys.length)).toList _ ?_ ?_ hrun
    ·simp [flat]
    ·simp only [Array.length_toList,size_zeroCells,ab,r]
   ·subst q
    simp only [List.length_nil,Nat.zero_add] at *
    have hrun:=run_append_grow (P:=P) w t ty el f v hu m hv ad 0 0 [] (by simp) (fun j u hu=>by simp at hu) ⟨bx,ox,none⟩ ys.length cx' (flat ux ys.length) ae J (by omega) (by rw [Nat.zero_add];omega) (growslice_fits (by omega) (by rw [Nat.zero_add];exact am))
    simp only [Nat.zero_add] at hrun
    refine G 0 (Builtin.zeroCells v.cells (grownCap w ys.length 0 el-ys.length)).toList _ ?_ ?_ hrun
    ·simp [flat]
    ·simp only [Array.length_toList,size_zeroCells,ab,r]
   ·have hcap:xs.length=cps:=ho
    have ao:=HL (w:=w) ai K hcs'
    have av:(flat us xs.length).length=xs.length*f.size:=by rw [Bg ai,r]
    have hrun:=run_append_grow (P:=P) w t ty el f v hu m hv ⟨bs,os,none⟩ xs.length cps (flat us xs.length) av ao ⟨bx,ox,none⟩ ys.length cx' (flat ux ys.length) ae J (by omega) (by omega) (growslice_fits (by omega) am)
    refine G cps (Builtin.zeroCells v.cells (grownCap w (xs.length+ys.length) cps el-(xs.length+ys.length))).toList _ ?_ ?_ hrun
    ·simp
    ·simp only [Array.length_toList,size_zeroCells,ab,r]
   | seed =>
   simp only at hob ⊢
   obtain ⟨lx,⟨K,hz,F,a0,cx⟩,be,hpos⟩:=hob
   obtain ⟨ys,o',rfl⟩:=Js lx
   have:xs=[]:=List.length_eq_zero_iff.1 be
   subst this
   simp only [Bj,Nat.zero_add] at *
   obtain ⟨z,aq⟩:=Option.isSome_iff_exists.1 hz
   obtain ⟨i',v,hi',hv,hc,ab,rfl⟩:=Hh aq
   rw [m] at hi';cases hi'
   obtain ⟨ux,x1,x2⟩:=hRx.list_open (fun y hy=>(cx y hy).1)
   have g:∀ i,i<ys.length→(ux i).cells.size=sz:=fun i m=>(x1 i m).1
   rcases x2 with ⟨_,q,_⟩ | ⟨bx,ox,cx',_,rfl,_,_,_,hcx⟩
   ·subst q;exact absurd hpos (by simp)
   have J:=HL (w:=w) g K hcx
   have Q:ys.length≤maxLen:=by simp [maxLen];omega
   have ae:(flat ux ys.length).length=ys.length*f.size:=by rw [Bg g,r]
   have am:ys.length*f.bytes≤140737488355328:=by rw [a1];exact F
   have G:∀ (O:Nat) (zs:List Value) (cells:Array Value),cells.toList=flat ux ys.length++zs→zs.length=(grownCap w ys.length O el-ys.length)*sz →
     (Builtin.append_ #[t,t] ty #[vs,.slice (some ⟨bx,ox,none⟩) ys.length cx']).run P w = .ok (.slice (some ⟨w.heap.size,0,none⟩) ys.length (grownCap w ys.length O el)) (w.drew.alloc (.cells cells el)) →
     Yields' P w0 M { st with rows:=st.rows++[.vec 0 sz (ys.flatMap fun y=>y.pub.cells)] } (.vec st.rows.length 0 0 ys.length) w (do pure (.value (← Builtin.append_ #[t,t] ty #[vs,.slice (some ⟨bx,ox,none⟩) ys.length cx']))):=by
    intro O zs cells E bb hrun
    obtain ⟨d1,d2⟩:=h.st.drew
    have aa:=grownCap_ge w ys.length O el
    have Z:=grownCap_le_maxLen w ys.length O el Q
    have H:cells.size=grownCap w ys.length O el*sz:=by
     have:cells.size=cells.toList.length:=by simp
     rw [this,E]
     simp only [List.length_append,Bg g,bb]
     rw [←Nat.add_mul]
     congr 1
     omega
    have a2:=OI (fun y hy=>(cx y hy).1)
    obtain ⟨r1,r2⟩:=d1.addVec (cs:=cells) (ty:=el) (sz:=sz) (xs:=ys.flatMap fun y=>y.pub.cells) Z K H (by rw [H,a2];exact Nat.mul_le_mul_right _ aa) (Zal (fun i m=>((x1 i m).2).mono d2) (fun y hy=>(cx y hy).2))
     (fun i v x ap aj=>by
      have a5:i<ys.length*sz:=by rw [←a2];exact (Aj.1 aj).1
      rw [←Array.getElem?_toList,E,List.getElem?_append_left (by rw [Bg g];exact a5)] at ap
      exact (Ziw K x1 (fun y hy=>(cx y hy).1) ap aj).mono d2)
    refine .value ⟨_,_,_,hrun,d2.trans r2,r1,?_⟩
    have hN:=h.st.NR
    refine .vec (by simp [Mem.addRow,hN]) (Nat.zero_le _) fun _=>⟨by simp [Mem.addRow,hN],by simp [Mem.addRow,hN],aa⟩
   (cases hRs with
   | nil ho =>
    have hrun:=run_append_nil (P:=P) w t ty el f v hu m hv ⟨bx,ox,none⟩ ys.length cx' (flat ux ys.length) ae J hpos (by omega) (by omega)
    refine G 0 (Builtin.zeroCells v.cells (grownCap w ys.length 0 el-ys.length)).toList _ ?_ ?_ hrun
    ·simp
    ·simp only [Array.length_toList,size_zeroCells,ab,r]
   | @emp ad _ ho =>
    have hrun:=run_append_grow (P:=P) w t ty el f v hu m hv ad 0 0 [] (by simp) (fun j u hu=>by simp at hu) ⟨bx,ox,none⟩ ys.length cx' (flat ux ys.length) ae J (by omega) (by rw [Nat.zero_add];omega) (growslice_fits (by omega) (by rw [Nat.zero_add];exact am))
    simp only [Nat.zero_add] at hrun
    refine G 0 (Builtin.zeroCells v.cells (grownCap w ys.length 0 el-ys.length)).toList _ ?_ ?_ hrun
    ·simp
    ·simp only [Array.length_toList,size_zeroCells,ab,r]
   | @list b off cap _ _ sz' us hc' hm' hcell hu' ho =>
    have hcap:(0:Nat)=cap:=ho
    subst hcap
    have hrun:=run_append_grow (P:=P) w t ty el f v hu m hv ⟨b,off,none⟩ 0 0 [] (by simp) (fun j u hu=>by simp at hu) ⟨bx,ox,none⟩ ys.length cx' (flat ux ys.length) ae J (by omega) (by rw [Nat.zero_add];omega) (growslice_fits (by omega) (by rw [Nat.zero_add];exact am))
    simp only [Nat.zero_add] at hrun
    refine G 0 (Builtin.zeroCells v.cells (grownCap w ys.length 0 el-ys.length)).toList _ ?_ ?_ hrun
    ·simp
    ·simp only [Array.length_toList,size_zeroCells,ab,r])
   | row id =>
   simp only at hob ⊢
   obtain ⟨lx,⟨K,hz,F,a0,cx⟩,cs,ak⟩:=hob
   obtain ⟨ys,o',rfl⟩:=Js lx
   simp only [Bj] at *
   obtain ⟨z,aq⟩:=Option.isSome_iff_exists.1 hz
   obtain ⟨i',v,hi',hv,hc,ab,rfl⟩:=Hh aq
   rw [m] at hi';cases hi'
   obtain ⟨us,u1,u2⟩:=hRs.list_open cs
   obtain ⟨ux,x1,x2⟩:=hRx.list_open (fun y hy=>(cx y hy).1)
   have ai:∀ i,i<xs.length→(us i).cells.size=sz:=fun i m=>(u1 i m).1
   have g:∀ i,i<ys.length→(ux i).cells.size=sz:=fun i m=>(x1 i m).1
   have U:id<M.NR:=by rw [h.st.NR];exact (Aj.1 ak).1
   obtain ⟨f1,f2,f3,f4,f5,f6,f7,cur,te,f8,f9⟩:=h.st.row id _ ak
   rcases u2 with ⟨_,_,q⟩ | ⟨bs,os,cps,sz',rfl,_,_,ho,hcs'⟩
   ·exact absurd rfl (q id)
   obtain ⟨_,_,bi⟩:=ho
   obtain ⟨e1,e2,e3,_⟩:=bi f1.symm
   subst e1;subst e2;subst e3
   have C:(xs++ys.map AV.pub).length=xs.length+ys.length:=by simp
   have a8:(Builtin.lenOf vx).run P w = .ok ys.length w:=by
    rcases x2 with ⟨rfl | ⟨_,rfl⟩,q,_⟩ | ⟨bx,ox,cx',_,rfl,_⟩
    ·subst q;rfl
    ·subst q;rfl
    ·rfl
   have ae:(flat ux ys.length).length=ys.length*f.size:=by rw [Bg g,r]
   have ar:(Builtin.firstCells sz ys.length vx).run P w = .ok (flat ux ys.length).toArray w:=by
    rcases x2 with ⟨rfl | ⟨_,rfl⟩,q,_⟩ | ⟨bx,ox,cx',_,rfl,_,_,_,hcx⟩
    ·subst q;rfl
    ·subst q;simp [Builtin.firstCells,loadCells,loadCellsFrom,flat]
    ·exact run_firstCells_some w sz ys.length ⟨bx,ox,none⟩ ys.length cx' (flat ux ys.length) (Bg g) (HL (w:=w) g K hcx)
   by_cases hroom:xs.length+ys.length≤M.cap id
   ·-- there is room
    have az:xs.length*sz+(flat ux ys.length).length≤cur.size:=by rw [Bg g,f9,←Nat.add_mul];exact Nat.mul_le_mul_right _ hroom
    have hrun:=Zbm (P:=P) (w:=w) t ty el hu a9 (M.blk id) xs.length (M.cap id) cur te f8 a8 (flat ux ys.length) ar (Wu x1 (fun y hy=>(cx y hy).2)) hroom az
    generalize hc':(cur.toList.take (xs.length*sz)++flat ux ys.length++cur.toList.drop (xs.length*sz+(flat ux ys.length).length)).toArray=cur' at hrun
    have au:cur'.size=cur.size:=by rw [←hc'];simp;omega
    have aw:∀ j,j<xs.length*sz→cur'[j]? = cur[j]? := by
     intro j hj
     rw [←hc',List.getElem?_toArray,List.append_assoc,List.getElem?_append_left (by simp;omega),List.getElem?_take,Ah hj,Array.getElem?_toList]
    have a6:∀ j,j<ys.length*sz→cur'[xs.length*sz+j]? = (flat ux ys.length)[j]? := by
     intro j hj
     have l2:=Bg g
     rw [←hc',List.getElem?_toArray,List.append_assoc,List.getElem?_append_right (by simp;omega)]
     simp only [List.length_take,Array.length_toList]
     have e:min (xs.length*sz) cur.size=xs.length*sz:=by omega
     rw [e,show xs.length*sz+j-xs.length*sz=j from by omega,List.getElem?_append_left (by rw [l2];exact hj)]
    have D:Ext w0 M w (M.growRow id (M.blk id) (M.cap id) (xs.length+ys.length) ((xs.length+ys.length)*sz)) (w.setRow (M.blk id) cur'):=by
     refine M9 (M:=M) (M.growRow id (M.blk id) (M.cap id) (xs.length+ys.length) ((xs.length+ys.length)*sz)) rfl (fun _ _=>rfl) rfl (fun i m=>?_) (fun b=>?_) f8 f3 (fun j hj=>aw j (by rw [f4] at hj;exact hj))
     ·by_cases c:i=id
      ·subst c
       simp only [Mem.growRow,if_true,f1]
       exact ⟨by omega,fun _=>⟨trivial,trivial,trivial⟩⟩
      ·simp only [Mem.growRow,Ai c]
       exact ⟨Nat.le_refl _,fun _=>⟨trivial,trivial,trivial⟩⟩
     ·simp only [Mem.growRow]
      split
      ·rename_i c
       rw [c,f4]
       exact Nat.mul_le_mul_right _ (by omega)
      ·exact Nat.le_refl _
    have ax:=h.st.row_lt U
    have af:=h.st.growRow ak (w':=w.setRow (M.blk id) cur') (b:=M.blk id) (cap:=M.cap id) (k:=xs.length+ys.length) f3 (Below.setRow (Below.refl _ _) f3 _) (by simp) (by simpa using ax) f6 hroom
     (fun l hl=>⟨f5 l hl,setRow_other w _ _ _ (f5 l hl)⟩) (fun i m ay=>by
      have:M.blk i≠M.blk id:=fun q=>ay (h.st.rowinj i id m U q)
      exact ⟨this,setRow_other w _ _ _ this⟩) (setRow_heap w _ cur cur' te _ f8) (by rw [au];exact f9) D (KeepsObj.setRow f8 _)
    have ah:=ZcT (w0:=w0) D u1 x1
    have Y:=R.list (w0:=w0) (M:=M.growRow id (M.blk id) (M.cap id) (xs.length+ys.length) ((xs.length+ys.length)*sz)) (w:=w.setRow (M.blk id) cur') (b:=M.blk id) (off:=0) (cap:=M.cap id) (xs:=xs++ys.map AV.pub) (o := .row id) sz (ZJ us ux xs.length) (by rw [C];exact hroom) f6
     (fun i m=>⟨(ah i m).1,fun j hj=>by
      rw [C] at m
      have q1:(i+1)*sz≤(xs.length+ys.length)*sz:=Nat.mul_le_mul_right _ m
      rw [Nat.succ_mul] at q1
      refine ⟨.inr ?_,?_⟩
      ·simp only [Mem.growRow,if_true]
       omega
      ·rw [Nat.zero_add,cell_of_row _ _ _ cur' te _ (setRow_heap w _ cur cur' te _ f8)]
       unfold ZJ
       by_cases c:i<xs.length
       ·have q:(i+1)*sz≤xs.length*sz:=Nat.mul_le_mul_right _ c
        rw [Nat.succ_mul] at q
        have:=hcs' i c j hj
        rw [Nat.zero_add,cell_of_row _ _ _ cur te _ f8] at this
        rw [Ah c,aw _ (by omega),this]
       ·have q:(i-xs.length+1)*sz≤ys.length*sz:=Nat.mul_le_mul_right _ (by omega)
        rw [Nat.succ_mul] at q
        have e:i*sz=xs.length*sz+(i-xs.length)*sz:=by rw [←Nat.add_mul];congr 1;omega
        rw [Ai c,show i*sz+j=xs.length*sz+((i-xs.length)*sz+j) from by omega,a6 _ (by omega)]
        exact Lr g _ (by omega) j hj⟩) (fun i m=>(ah i m).2)
     (by
      rw [C]
      refine ⟨U,by simp [Mem.growRow],fun _=>⟨by simp [Mem.growRow],rfl,by simp [Mem.growRow],?_⟩⟩
      simp [Mem.growRow,f2])
    rw [C] at Y
    exact .value ⟨_,_,_,hrun,D,af,Y⟩
   ·-- a new row
    have hypos:0<ys.length:=by omega
    rcases x2 with ⟨_,q,_⟩ | ⟨bx,ox,cx',_,rfl,_,_,_,hcx⟩
    ·subst q;simp at hypos
    have J:=HL (w:=w) g K hcx
    have ao:=HL (w:=w) ai K hcs'
    have av:(flat us xs.length).length=xs.length*f.size:=by rw [Bg ai,r]
    have am:(xs.length+ys.length)*f.bytes≤140737488355328:=by rw [a1];exact F
    have hrun:=run_append_grow (P:=P) w t ty el f v hu m hv ⟨M.blk id,0,none⟩ xs.length (M.cap id) (flat us xs.length) av ao ⟨bx,ox,none⟩ ys.length cx' (flat ux ys.length) ae J (by omega) (by omega) (growslice_fits (by omega) am)
    have Q:xs.length+ys.length≤maxLen:=by simp [maxLen];omega
    have aa:=grownCap_ge w (xs.length+ys.length) (M.cap id) el
    have Z:=grownCap_le_maxLen w (xs.length+ys.length) (M.cap id) el Q
    generalize hcl:((flat us xs.length).toArray++(flat ux ys.length).toArray++Builtin.zeroCells v.cells (grownCap w (xs.length+ys.length) (M.cap id) el-(xs.length+ys.length)))=cells at hrun
    have V:cells.toList=flat us xs.length++flat ux ys.length++(Builtin.zeroCells v.cells (grownCap w (xs.length+ys.length) (M.cap id) el-(xs.length+ys.length))).toList:=by rw [←hcl];simp
    generalize grownCap w (xs.length+ys.length) (M.cap id) el=gc at *
    have H:cells.size=gc*sz:=by
     have:cells.size=cells.toList.length:=by simp
     rw [this,V]
     simp only [List.length_append,Bg ai,Bg g,Array.length_toList,size_zeroCells,ab,r]
     rw [←Nat.add_mul,←Nat.add_mul]
     congr 1
     omega
    obtain ⟨d1,d2⟩:=h.st.drew
    have D:Ext w0 M w.drew (M.growRow id w.drew.heap.size gc (xs.length+ys.length) ((xs.length+ys.length)*sz)) (w.drew.alloc (.cells cells el)):=by
     refine QU _ _ (.inl rfl) (fun _ _=>rfl) (Nat.le_refl _) (fun i m=>?_) (fun b hb=>?_)
     ·by_cases c:i=id
      ·subst c
       simp only [Mem.growRow,if_true,f1]
       exact ⟨by omega,fun q=>absurd q (by omega)⟩
      ·simp only [Mem.growRow,Ai c]
       exact ⟨Nat.le_refl _,fun _=>⟨trivial,trivial,trivial⟩⟩
     ·simp only [Mem.growRow]
      rw [Aa]
      exact Nat.le_refl _
    have af:=d1.growRow ak (w':=w.drew.alloc (.cells cells el)) (b:=w.drew.heap.size) (cap:=gc) (k:=xs.length+ys.length) h.st.base_le ((Below.refl _ w.drew).alloc h.st.base_le _) (by simp) (by simp) Z aa
     (fun l hl=>by have:=h.st.box_lt hl;exact ⟨fun q=>by simp at q;omega,B6 _ _ this⟩) (fun i m ay=>by have:=h.st.row_lt m;exact ⟨fun q=>by simp at q;omega,B6 _ _ this⟩) (heap_alloc_new w.drew _) H D (KeepsObj.alloc _ _)
    have ah:=ZcT (w0:=w0) d2 u1 x1
    have Y:=R.row (w0:=w0) (M:=M) (w:=w.drew) (us:=ZJ us ux xs.length) (xs:=xs++ys.map AV.pub) (cs:=cells) (ty:=el) (sz:=sz) (k:=(xs.length+ys.length)*sz) (cap:=gc) (o := .row id) ah
     (fun i m j hj=>by
      rw [C] at m
      rw [←Array.getElem?_toList,V]
      exact Zb0 ai g _ i m j hj) (by rw [C];exact aa) Z (by rw [C];exact Nat.le_refl _) (M.growRow id w.drew.heap.size gc (xs.length+ys.length) ((xs.length+ys.length)*sz)) (by simp [Mem.growRow]) D
     (by
      refine ⟨U,by rw [C];simp [Mem.growRow],fun _=>⟨by simp [Mem.growRow],rfl,by simp [Mem.growRow],?_⟩⟩
      simp [Mem.growRow,f2])
    rw [C] at Y
    exact .value ⟨_,_,_,hrun,d2.trans D,af,Y⟩
  | vec id ver o n' =>
   simp only at hob ⊢
   cases hvr:IH st.rows id ver with
   | none=>simp [hvr] at hob
   | some q =>
   obtain ⟨sz',cs⟩:=q
   simp only [hvr] at hob ⊢
   obtain ⟨lx,⟨K,hz,F,a0,cx⟩,rfl,rfl,bk⟩:=hob
   obtain ⟨ys,o',rfl⟩:=Js lx
   simp only [Bj] at *
   obtain ⟨z,aq⟩:=Option.isSome_iff_exists.1 hz
   obtain ⟨i',v,hi',hv,hc,ab,rfl⟩:=Hh aq
   rw [m] at hi';cases hi'
   have ak:=I5 hvr
   have U:id<M.NR:=by rw [h.st.NR];exact (Aj.1 ak).1
   obtain ⟨f1,f2,f3,f4,f5,f6,f7,cur,te,f8,f9,bm,bj,bh⟩:=h.st.row id _ ak
   cases hRs with
   | @vec _ _ _ _ p cap hid' hver hh =>
   obtain ⟨rfl,hcap,bl⟩:=hh f1.symm
   simp only [Nat.add_zero,Nat.zero_mul] at hcap ⊢
   subst hcap
   obtain ⟨ux,x1,x2⟩:=hRx.list_open (fun y hy=>(cx y hy).1)
   have g:∀ i,i<ys.length→(ux i).cells.size=sz':=fun i m=>(x1 i m).1
   have a8:(Builtin.lenOf vx).run P w = .ok ys.length w:=by
    rcases x2 with ⟨rfl | ⟨_,rfl⟩,q,_⟩ | ⟨bx,ox,cx',_,rfl,_⟩
    ·subst q;rfl
    ·subst q;rfl
    ·rfl
   have ae:(flat ux ys.length).length=ys.length*f.size:=by rw [Bg g,r]
   have ar:(Builtin.firstCells sz' ys.length vx).run P w = .ok (flat ux ys.length).toArray w:=by
    rcases x2 with ⟨rfl | ⟨_,rfl⟩,q,_⟩ | ⟨bx,ox,cx',_,rfl,_,_,_,hcx⟩
    ·subst q;rfl
    ·subst q;simp [Builtin.firstCells,loadCells,loadCellsFrom,flat]
    ·exact run_firstCells_some w sz' ys.length ⟨bx,ox,none⟩ ys.length cx' (flat ux ys.length) (Bg g) (HL (w:=w) g K hcx)
   have a2:=OI (fun y hy=>(cx y hy).1)
   have a7:=Zal (fun i m=>(x1 i m).2) (fun y hy=>(cx y hy).2)
   have hcl:(cs.take (n'*sz')++ys.flatMap fun y=>y.pub.cells).length=(n'+ys.length)*sz':=by
    rw [List.length_append,a2,List.length_take,Nat.add_mul];omega
   have a3:∀ x∈cs.take (n'*sz')++ys.flatMap (fun y=>y.pub.cells),x.one=true:=by
    intro x hx
    rcases List.mem_append.1 hx with hx | hx
    ·exact bj x (List.mem_of_mem_take hx)
    ·exact a7 x hx
   -- what the new cells stand for,in whatever block they lie
   have E:∀ (cells:Array Value) (zs:List Value),cells.toList=cur.toList.take (n'*sz')++flat ux ys.length++zs→∀ (i:Nat) (v:Value) (x:AV),cells[i]? = some v→(cs.take (n'*sz')++ys.flatMap fun y=>y.pub.cells)[i]? = some x→R w0 M w v x:=by
    intro cells zs hcl' i v x ap aj
    have a5:i<(n'+ys.length)*sz':=by rw [←hcl];exact (Aj.1 aj).1
    rw [Nat.add_mul] at a5
    have bg:(cur.toList.take (n'*sz')).length=n'*sz':=by simp;omega
    rw [←Array.getElem?_toList,hcl',List.append_assoc] at ap
    by_cases q:i<n'*sz'
    ·rw [List.getElem?_append_left (by omega),List.getElem?_take,Ah q,Array.getElem?_toList] at ap
     rw [List.getElem?_append_left (by simp;omega),List.getElem?_take,Ah q] at aj
     obtain ⟨q1,rfl⟩:=Array.getElem?_eq_some_iff.1 ap
     obtain ⟨q2,rfl⟩:=Aj.1 aj
     exact bh i q1 q2
    ·rw [List.getElem?_append_right (by omega),bg,List.getElem?_append_left (by rw [Bg g];omega)] at ap
     rw [List.getElem?_append_right (by simp;omega)] at aj
     have e:(cs.take (n'*sz')).length=n'*sz':=by simp;omega
     rw [e] at aj
     exact Ziw K x1 (fun y hy=>(cx y hy).1) ap aj
   by_cases hroom:n'+ys.length≤M.cap id
   ·-- there is room
    have az:n'*sz'+(flat ux ys.length).length≤cur.size:=by rw [Bg g,f9,←Nat.add_mul];exact Nat.mul_le_mul_right _ hroom
    have hrun:=Zbm (P:=P) (w:=w) t ty el hu a9 (M.blk id) n' (M.cap id) cur te f8 a8 (flat ux ys.length) ar (Wu x1 (fun y hy=>(cx y hy).2)) hroom az
    generalize hc':(cur.toList.take (n'*sz')++flat ux ys.length++cur.toList.drop (n'*sz'+(flat ux ys.length).length)).toArray=cur' at hrun
    have au:cur'.size=cur.size:=by rw [←hc'];simp;omega
    have D:Ext w0 M w (M.growRow id (M.blk id) (M.cap id) (ver+1) 0) (w.setRow (M.blk id) cur'):=by
     refine M9 (M:=M) (M.growRow id (M.blk id) (M.cap id) (ver+1) 0) rfl (fun _ _=>rfl) rfl (fun i m=>?_) (fun b=>?_) f8 f3 (fun j hj=>by rw [f4] at hj;omega)
     ·by_cases c:i=id
      ·subst c
       simp only [Mem.growRow,if_true,f1]
       exact ⟨by omega,fun q=>absurd q (by omega)⟩
      ·simp only [Mem.growRow,Ai c]
       exact ⟨Nat.le_refl _,fun _=>⟨trivial,trivial,trivial⟩⟩
     ·simp only [Mem.growRow]
      split
      ·rename_i c
       rw [c,f4]
       exact Nat.le_refl _
      ·exact Nat.le_refl _
    have ax:=h.st.row_lt U
    have q:(M.growRow id (M.blk id) (M.cap id) (ver+1) 0).fr id=ver+1∧(M.growRow id (M.blk id) (M.cap id) (ver+1) 0).blk id=M.blk id∧(M.growRow id (M.blk id) (M.cap id) (ver+1) 0).cap id=M.cap id∧(M.growRow id (M.blk id) (M.cap id) (ver+1) 0).rsz id=M.rsz id∧(M.growRow id (M.blk id) (M.cap id) (ver+1) 0).top (M.blk id)=0:=by simp [Mem.growRow]
    obtain ⟨q1,q2,q3,q4,q5⟩:=q
    have af:=h.st.growRow' ak (x := .vec (ver+1) sz' (cs.take (n'*sz')++ys.flatMap fun y=>y.pub.cells)) (w':=w.setRow (M.blk id) cur') (b:=M.blk id) (cap:=M.cap id) (k:=ver+1) (tp:=0) (Below.setRow (Below.refl _ _) f3 _) (by simp) (by simpa using ax)
     (fun l hl=>⟨f5 l hl,setRow_other w _ _ _ (f5 l hl)⟩) (fun i m ay=>by
      have:M.blk i≠M.blk id:=fun q=>ay (h.st.rowinj i id m U q)
      exact ⟨this,setRow_other w _ _ _ this⟩) (by
      simp only [RowOk,q1,q2,q3,q4,q5]
      exact ⟨trivial,f2,f3,trivial,f5,f6,K,cur',te,setRow_heap w _ cur cur' te _ f8,au.trans f9,by rw [hcl,au,f9];exact Nat.mul_le_mul_right _ hroom,a3,
       fun i a b=>(E cur' _ (by rw [←hc']) i _ _ (Array.getElem?_eq_getElem a) (List.getElem?_eq_getElem b)).mono D⟩) D (KeepsObj.setRow f8 _)
    exact .value ⟨_,_,_,hrun,D,af,.vec U (by rw [q1];exact Nat.le_refl _) fun _=>⟨by rw [q2];simp,by rw [q3];rfl,hroom⟩⟩
   ·-- a new block
    have hypos:0<ys.length:=by omega
    rcases x2 with ⟨_,q,_⟩ | ⟨bx,ox,cx',_,rfl,_,_,_,hcx⟩
    ·subst q;simp at hypos
    have J:=HL (w:=w) g K hcx
    have am:(n'+ys.length)*f.bytes≤140737488355328:=by rw [a1];exact F
    have ao:∀ (j:Nat) (u:Value),(cur.toList.take (n'*sz'))[j]? = some u→w.cell? ((⟨M.blk id,0,none⟩:Addr).add j)=some u:=by
     intro j u hj
     rw [List.getElem?_take] at hj
     split at hj
     ·rw [F9,Nat.zero_add,cell_of_row w _ j cur te _ f8,←Array.getElem?_toList];exact hj
     ·cases hj
    have av:(cur.toList.take (n'*sz')).length=n'*f.size:=by simp;rw [r];omega
    have hrun:=run_append_grow (P:=P) w t ty el f v hu m hv ⟨M.blk id,0,none⟩ n' (M.cap id) (cur.toList.take (n'*sz')) av ao ⟨bx,ox,none⟩ ys.length cx' (flat ux ys.length) ae J (by omega) (by omega) (growslice_fits (by omega) am)
    have Q:n'+ys.length≤maxLen:=by simp [maxLen];omega
    have aa:=grownCap_ge w (n'+ys.length) (M.cap id) el
    have Z:=grownCap_le_maxLen w (n'+ys.length) (M.cap id) el Q
    generalize hcl':((cur.toList.take (n'*sz')).toArray++(flat ux ys.length).toArray++Builtin.zeroCells v.cells (grownCap w (n'+ys.length) (M.cap id) el-(n'+ys.length)))=cells at hrun
    have V:cells.toList=cur.toList.take (n'*sz')++flat ux ys.length++(Builtin.zeroCells v.cells (grownCap w (n'+ys.length) (M.cap id) el-(n'+ys.length))).toList:=by rw [←hcl'];simp
    generalize grownCap w (n'+ys.length) (M.cap id) el=gc at *
    have H:cells.size=gc*sz':=by
     have:cells.size=cells.toList.length:=by simp
     rw [this,V]
     simp only [List.length_append,av,Bg g,Array.length_toList,size_zeroCells,ab,r]
     rw [←Nat.add_mul,←Nat.add_mul]
     congr 1
     omega
    obtain ⟨d1,d2⟩:=h.st.drew
    have D:Ext w0 M w.drew (M.growRow id w.drew.heap.size gc (ver+1) 0) (w.drew.alloc (.cells cells el)):=by
     refine QU _ _ (.inl rfl) (fun _ _=>rfl) (Nat.le_refl _) (fun i m=>?_) (fun b hb=>?_)
     ·by_cases c:i=id
      ·subst c
       simp only [Mem.growRow,if_true,f1]
       exact ⟨by omega,fun q=>absurd q (by omega)⟩
      ·simp only [Mem.growRow,Ai c]
       exact ⟨Nat.le_refl _,fun _=>⟨trivial,trivial,trivial⟩⟩
     ·simp only [Mem.growRow]
      rw [Aa]
      exact Nat.le_refl _
    have q:(M.growRow id w.drew.heap.size gc (ver+1) 0).fr id=ver+1∧(M.growRow id w.drew.heap.size gc (ver+1) 0).blk id=w.drew.heap.size∧(M.growRow id w.drew.heap.size gc (ver+1) 0).cap id=gc∧(M.growRow id w.drew.heap.size gc (ver+1) 0).rsz id=M.rsz id∧(M.growRow id w.drew.heap.size gc (ver+1) 0).top w.drew.heap.size=0:=by simp [Mem.growRow]
    obtain ⟨q1,q2,q3,q4,q5⟩:=q
    have a4:∀ l,l<M.N→M.bx l≠w.drew.heap.size:=fun l hl=>by have:=h.st.box_lt hl;intro q;simp at q;omega
    have af:=d1.growRow' ak (x := .vec (ver+1) sz' (cs.take (n'*sz')++ys.flatMap fun y=>y.pub.cells)) (w':=w.drew.alloc (.cells cells el)) (b:=w.drew.heap.size) (cap:=gc) (k:=ver+1) (tp:=0) ((Below.refl _ w.drew).alloc h.st.base_le _) (by simp) (by simp)
     (fun l hl=>by have:=h.st.box_lt hl;exact ⟨a4 l hl,B6 _ _ this⟩) (fun i m ay=>by have:=h.st.row_lt m;exact ⟨fun q=>by simp at q;omega,B6 _ _ this⟩) (by
      simp only [RowOk,q1,q2,q3,q4,q5]
      exact ⟨trivial,f2,h.st.base_le,trivial,a4,Z,K,cells,el,heap_alloc_new w.drew _,H,by rw [hcl,H];exact Nat.mul_le_mul_right _ aa,a3,
       fun i a b=>((E cells _ V i _ _ (Array.getElem?_eq_getElem a) (List.getElem?_eq_getElem b)).mono d2).mono D⟩) D (KeepsObj.alloc _ _)
    exact .value ⟨_,_,_,hrun,d2.trans D,af,.vec U (by rw [q1];exact Nat.le_refl _) fun _=>⟨by rw [q2];simp,by rw [q3];rfl,aa⟩⟩
  | _=>exact hob.elim
theorem Yields'.congr {s s':Sem Next} {st':St} {r:AV} (h:Yields' P w0 M st' r w s) (e:s'.run P w=s.run P w):Yields' P w0 M st' r w s':=by
 obtain ⟨v,b,M',a,c⟩:=h
 exact ⟨v,b,M',by rw [e];exact a,c⟩
theorem NP (b:Builtin) (args:Array Operand) (ts:Array TypeId) (dst:Option Tmp) (type:TypeId) (pos:String) (after:Array Edge) (guard:Option (Nat × Bool)) (s:Sem Value)
  (hb:∀ cs,builtin b ts type cs (args.map a.eval)=(do pure (.value (← s)):Sem Next)) :
  (execOp a.eval ⟨dst,.call ⟨.builtin b,args,ts⟩,type,pos,after,guard⟩).run P w=((do pure (.value (← s)):Sem Next)).run P w:=by
 simp only [execOp,resolve,invoke,Sem.run_bind,Sem.run_pure,Result.andThen_ok]
 rw [hb]
 simp
theorem Vs {t:TypeId} (h:U0 P t=true):∃ el,P.underlying t=some (.slice el)∧P.underlying el=some (.int .u8)∧MZ P el=some (1,false):=by
 unfold U0 at h
 split at h
 ·rename_i el h1
  simp only [Bool.and_eq_true] at h
  obtain ⟨h2,h3⟩:=h
  refine ⟨el,h1,?_,?_⟩
  ·split at h2
   ·assumption
   ·cases h2
  ·split at h3
   ·assumption
   ·cases h3
 ·cases h
theorem Zbw (r:Int):(Utf8.encode r).size≤4:=by
 unfold Utf8.encode
 dsimp only
 (repeat' split)<;>simp [ByteArray.size]
theorem ZcZ (h:Rel w0 n M e st a w) (s d:TypeId) (x:Operand) (hob:(BB P e true st (.convert s d x)).1) :
  Yields' P w0 M (BB P e true st (.convert s d x)).2.2 (BB P e true st (.convert s d x)).2.1 w (do pure (.value (← convert s d (a.eval x)))):=by
 unfold BB at hob ⊢
 cases hs:Ql P s with
 | some k1 =>
  cases hd:Ql P d with
  | some k =>
   simp only [hs,hd] at hob ⊢
   obtain ⟨t,hi,Y⟩:=hob
   obtain ⟨ex,_⟩:=(BE h t).int hi
   rw [ex]
   refine .here h.st (v := .int k (A6 (AD e x))) ?_ (.flat rfl)
   simp [convert,run_underlying (Uu hs),run_underlying (Uu hd),Conv.intToInt,OX Y]
  | none =>
   simp only [hs,hd] at hob ⊢
   obtain ⟨t,hi,O⟩:=hob
   obtain ⟨ex,_⟩:=(BE h t).int hi
   rw [ex]
   exact .here h.st (run_convert_int_string w s d _ _ (by rw [Uu hs];rfl) (GQ O)) (.flat (Ag (Nat.le_trans (Zbw _) (by decide))))
 | none =>
  simp only [hs] at hob ⊢
  by_cases z:(M6 P s&&M6 P d)=true
  ·simp only [z,if_true] at hob ⊢
   simp only [Bool.and_eq_true] at z
   obtain ⟨t,hi⟩:=hob
   have hR:=BE h t
   refine .here h.st (v:=a.eval x) ?_ hR
   obtain ⟨q,hq⟩:∃ q,AD e x = .val (.string q):=by
    cases hv:AD e x<;>rw [hv] at hi<;>try cases hi
    rename_i v
    cases v<;>first | exact ⟨_,rfl⟩ | cases hi
   rw [hq] at hR
   obtain ⟨ev,_⟩:=hR.val_inv
   rw [ev]
   simp [convert,run_underlying (GQ z.1),run_underlying (GQ z.2)]
  ·simp only [z,if_false,Bool.false_eq_true] at hob ⊢
   by_cases hc2:(U0 P s&&M6 P d)=true
   ·simp only [hc2,if_true] at hob ⊢
    simp only [Bool.and_eq_true] at hc2
    obtain ⟨m,H,G,V⟩:=Vs hc2.1
    split at hob
    ·rename_i id ver o n' hx0
     cases hvr:IH st.rows id ver with
     | none=>simp [hvr] at hob
     | some q =>
     obtain ⟨ae,cs⟩:=q
     simp only [hvr] at hob ⊢
     obtain ⟨t,rfl,ai,c,g⟩:=hob
     have hR:=BE h t
     rw [hx0] at hR
     obtain ⟨f1,f2,f3,f4,f5,f6,f7,K,te,f8,f9,ah,aj,U⟩:=h.st.row id _ (I5 hvr)
     obtain ⟨v,hev⟩:∃ v,a.eval x=v:=⟨_,rfl⟩
     rw [hev] at hR ⊢
     cases hR with
     | @vec _ _ _ _ p cap hid hver hh =>
     obtain ⟨rfl,C,ag⟩:=hh f1.symm
     have hl:((cs.drop o).take n').length=n':=by simp;omega
     have f:(GG ((cs.drop o).take n')).size=n':=by simp [GG,ByteArray.size];omega
     have r:J4 (.string (GG ((cs.drop o).take n')))=true:=by simp [J4,maxLen,f];exact c
     have:=run_convert_bytes_back (P:=P) w s d m ⟨M.blk id,o*M.rsz id,none⟩ cap (((cs.drop o).take n').map fun x=>UInt8.ofNat (A6 x).toNat) H G (GQ hc2.2) (fun j D=>by
      have F:j<n':=by rw [List.length_map,hl] at D;exact D
      have Q:((cs.drop o).take n')[j]'(by omega)=cs[o+j]'(by omega):=by simp
      have hq:=g _ (List.getElem_mem (l:=(cs.drop o).take n') (n:=j) (by omega))
      rw [Q] at hq
      have hr:=U (o+j) (by omega) (by omega)
      rw [F9,f2,Nat.mul_one,cell_of_row w _ (o+j) K te _ f8,Array.getElem?_eq_getElem (show o+j<K.size by omega)]
      simp only [List.getElem_map,Q]
      generalize cs[o+j]'(by omega)=y at hq hr
      cases y with
      | val u =>
       cases u<;>try exact hq.elim
       rename_i k n
       cases k<;>try exact hq.elim
       obtain ⟨n0,n1⟩:0≤n∧n≤255:=hq
       rw [hr.val_inv.1]
       simp only [A6]
       have:(UInt8.ofNat n.toNat).toNat=n.toNat:=by simp;omega
       rw [this]
       simp
       omega
      | _=>exact hq.elim)
     rw [List.length_map,hl] at this
     exact .here h.st (v := .string (GG ((cs.drop o).take n'))) this (.flat r)
    rename_i hx0
    obtain ⟨t,hi,c,g⟩:=hob
    have hR:=BE h t
    obtain ⟨xs,o,Z⟩:=Js hi
    rw [Z] at hR c g ⊢
    simp only [Bj] at c g ⊢
    have ab:∀ y∈xs,y.cells.length=1:=fun y hy=>by
     have:=g y hy
     cases y<;>first | rfl | exact this.elim
    obtain ⟨us,h1,h2⟩:=hR.list_open ab
    have f:(GG xs).size=xs.length:=by simp [GG,ByteArray.size]
    have r:J4 (.string (GG xs))=true:=by simp [J4,maxLen,f];exact c
    rcases h2 with ⟨ev | ⟨ad,ev⟩,rfl,_⟩ | ⟨b,off,cap,ae,ev,_,_,_,hcell⟩
    ·rw [ev]
     have:=run_convert_bytes_nil (P:=P) w s m H G 0 0 d (GQ hc2.2)
     exact .here h.st (v := .string ByteArray.empty) this (.flat rfl)
    ·rw [ev]
     have:=run_convert_bytes_back (P:=P) w s d m ad 0 [] H G (GQ hc2.2) (fun j D=>absurd D (by simp))
     exact .here h.st (v := .string ByteArray.empty) this (.flat rfl)
    ·rw [ev]
     have hb:∀ i (hi:i<xs.length),∃ n:Int,0≤n∧n≤255∧xs[i] = .val (.int .u8 n)∧us i = .int .u8 n:=fun i hi=>by
      have hq:=g _ (List.getElem_mem hi)
      have hr:=(h1 i hi).2
      cases hv:xs[i] with
      | val u =>
       rw [hv] at hq hr
       cases u<;>try exact hq.elim
       rename_i k n
       cases k<;>try exact hq.elim
       exact ⟨n,hq.1,hq.2,rfl,hr.val_inv.1⟩
      | _=>rw [hv] at hq;exact hq.elim
     have:=run_convert_bytes_back (P:=P) w s d m ⟨b,off,none⟩ cap (xs.map fun x=>UInt8.ofNat (A6 x).toNat) H G (GQ hc2.2) (fun j D=>by
      have F:j<xs.length:=by simpa using D
      obtain ⟨n,n0,n1,Q,e2⟩:=hb j F
      have z:=hcell j F 0 (by omega)
      rw [e2] at z
      simp only [Nat.mul_one,Nat.add_zero] at z
      rw [F9,z]
      simp only [List.getElem_map,Q,A6,Value.cells]
      have:(UInt8.ofNat n.toNat).toNat=n.toNat:=by simp;omega
      rw [this]
      simp
      omega)
     simp only [List.length_map] at this
     exact .here h.st (v := .string (GG xs)) this (.flat r)
   ·simp only [hc2,if_false,Bool.false_eq_true] at hob ⊢
    by_cases hc3:(M6 P s&&U0 P d)=true
    ·simp only [hc3,if_true] at hob ⊢
     simp only [Bool.and_eq_true] at hc3
     obtain ⟨m,H,G,V⟩:=Vs hc3.2
     obtain ⟨_,t,hi⟩:=hob
     have hR:=BE h t
     obtain ⟨q,hq⟩:∃ q,AD e x = .val (.string q):=by
      cases hv:AD e x<;>rw [hv] at hi<;>try cases hi
      rename_i v
      cases v<;>first | exact ⟨_,rfl⟩ | cases hi
     rw [hq] at hR ⊢
     obtain ⟨ev,r⟩:=hR.val_inv
     rw [ev]
     simp only [Zgh]
     have af:q.size≤maxLen:=by simpa [J4] using r
     have N:=Lib.run_convert_string_bytes (P:=P) w s d m q (GQ hc3.1) H G
     have J:Below w.heap.size w (Lib.bytesWorld w m q):=⟨rfl,rfl,rfl,by rw [Lib.bytesWorld_size];omega,fun k Y=>Lib.bytesWorld_at_old w m q k Y⟩
     obtain ⟨r1,r2⟩:=h.st.later J w.heap.size q.size (Nat.le_refl _) (.inl (by rw [Lib.bytesWorld_size];omega))
     have C:=grownCap_ge w q.size 0 m
     have E:=grownCap_le_maxLen w q.size 0 m af
     have c:(Ih q.data.toList).length=q.size:=by simp [Ih]
     refine .value ⟨_,_,_,N,r2,r1,?_⟩
     have:=R.list (w0:=w0) (M:=M.newTop w.heap.size q.size) (w:=Lib.bytesWorld w m q) (b:=w.heap.size) (off:=0) (cap:=grownCap w q.size 0 m) (xs:=Ih q.data.toList) (o := .none) 1 (fun i => .int .u8 (q.data.toList.getD i 0).toNat)
      (by rw [c];exact C) E (fun i hi=>⟨rfl,fun j D=>⟨.inr (by rw [c] at hi;simp [Mem.newTop];omega),by
       rw [c] at hi
       have hj0:j=0:=by omega
       subst hj0
       simp only [Nat.mul_one,Nat.zero_add,Nat.add_zero]
       rw [Lib.bytesWorld_cell w m q i hi]
       rfl⟩⟩) (fun i hi=>by
       have aa:i<q.data.toList.length:=by rw [c] at hi;exact hi
       simp only [Ih,List.getElem_map]
       rw [show q.data.toList.getD i 0=q.data.toList[i] from by simp [List.getD,List.getElem?_eq_getElem aa]]
       exact .flat rfl) trivial
     rw [c] at this
     exact this
    ·simp only [hc3] at hob
     exact hob.elim
theorem Kt {z:List AV} {sz:Nat} (hz:z.length=sz):∀ (m j:Nat) (x:AV),((List.replicate m z).flatten)[j]? = some x→0<sz∧z[j % sz]? = some x
 | 0,j,x,h=>by simp at h
 | m+1,j,x,h=>by
  rw [List.replicate_succ,List.flatten_cons] at h
  by_cases c:j<z.length
  ·rw [List.getElem?_append_left c] at h
   exact ⟨by omega,by rw [Nat.mod_eq_of_lt (by omega)];exact h⟩
  ·rw [List.getElem?_append_right (by omega)] at h
   obtain ⟨b,a⟩:=Kt hz m _ x h
   refine ⟨b,?_⟩
   rw [hz] at a
   rw [←a]
   congr 1
   rw [←Nat.mod_eq_sub_mod (by omega)]
theorem Zam (h:Rel w0 n M e st a w) (t:TypeId) (len cap:Operand) (hob:(BB P e true st (.makeSlice t len cap)).1) :
  Yields' P w0 M (BB P e true st (.makeSlice t len cap)).2.2 (BB P e true st (.makeSlice t len cap)).2.1 w (do pure (.value (← Instr.makeSlice t (a.eval len) (a.eval cap)))):=by
 unfold BB at hob ⊢
 cases he:OV P t with
 | none=>simp [he] at hob
 | some p =>
 obtain ⟨el,sz,ag,am⟩:=p
 cases hz:EW P el with
 | none=>simp [he,hz] at hob
 | some z =>
 simp only [he,hz] at hob ⊢
 obtain ⟨_,hl,hc,il,ic,h0,h1,ab,ak,U,D,ad⟩:=hob
 obtain ⟨H,hu,r,aj,ah⟩:=Iz he
 have Y:H.size=sz:=by
  obtain ⟨i',d,h1,h2,_⟩:=OC ah
  rw [r] at h1;cases h1;exact h2
 obtain ⟨i',v,hi',hv,s,ao,rfl⟩:=Hh hz
 rw [r] at hi';cases hi'
 obtain ⟨af,_⟩:=(BE h hl).int il
 obtain ⟨ae,_⟩:=(BE h hc).int ic
 generalize A6 (AD e len)=l at *
 generalize A6 (AD e cap)=c at *
 obtain ⟨C,rfl⟩:=Int.eq_ofNat_of_zero_le h0
 obtain ⟨g,rfl⟩:=Int.eq_ofNat_of_zero_le (Int.le_trans h0 h1)
 have b:=run_make (P:=P) w t el H v hu r hv (L0 (AD e len)) (L0 (AD e cap)) C g h0 h1 (by rw [aj,Int.mul_comm];omega) (by omega)
 rw [←af,←ae] at b
 simp only [Int.toNat_natCast,Y] at b
 have y:g≤maxLen:=by unfold maxLen;omega
 have N:=size_madeCells v.cells (g*sz)
 have f:RowR w0 M w v.cells (Ku v).cells:=(Un s).cells
 have J:=(Un (w0:=w0) (M:=M) (w:=w) s).cellsOne (fun vs e=>by have:=PH s;rw [e] at this;cases this)
 by_cases hl0:(C:Int)=0
 ·rw [Ah hl0,Ah hl0]
  have:C=0:=by omega
  subst this
  obtain ⟨r1,r2⟩:=h.st.addRow (cs:=madeCells v.cells (g*sz)) (ty:=el) (k:=0) (sz:=sz) y (Nat.zero_le _) N
  refine .value ⟨_,_,_,b,r2,r1,?_⟩
  have K:=h.st.NR
  exact R.list (xs:=[]) sz (fun _=>undef) (Nat.zero_le _) y (fun i r=>absurd r (by simp)) (fun i r=>absurd r (by simp)) ⟨by simp [Mem.addRow,K],by simp [Mem.addRow,K],fun _=>by simp [Mem.addRow,K]⟩
 ·rw [Ai hl0,Ai hl0]
  by_cases hmk0:K0 e t=true
  case neg =>
   rw [Ai hmk0,Ai hmk0]
   obtain rfl:sz=1:=by
    rcases ad with q | q | q
    ·exact absurd q hl0
    ·exact absurd q hmk0
    ·exact q
   have E:v.cells.size=1:=by rw [f.1,D]
   obtain ⟨u,hu0⟩:∃ u,v.cells[0]? = some u:=⟨_,Array.getElem?_eq_getElem (by omega)⟩
   have Q:(Ku v).cells[0]? = some (nth (Ku v).cells 0):=by
    rw [List.getElem?_eq_getElem (by omega)]
    simp [nth,List.getD,List.getElem?_eq_getElem (show 0<(Ku v).cells.length by omega)]
   have V:R w0 M w u (nth (Ku v).cells 0):=f.get hu0 Q
   have O:(nth (Ku v).cells 0).one=true:=J _ (List.mem_of_getElem? Q)
   have G:u.cells = #[u]:=(V.cells_one O).1
   obtain ⟨Z,F⟩:=h.st.newTop (madeCells v.cells (g*1)) el (g*1)
   have m:(List.replicate C (nth (Ku v).cells 0)).length=C:=List.length_replicate
   have hR:=R.row (us:=fun _=>u) (xs:=List.replicate C (nth (Ku v).cells 0)) (cs:=madeCells v.cells (g*1)) (ty:=el) (sz:=1) (k:=g*1) (cap:=g) (o := .none)
    (fun i r=>⟨by rw [G];rfl,by rw [List.getElem_replicate];exact V⟩)
    (fun i r j hj=>by
     have hi':i<C:=by rw [m] at r;exact r
     have:i*1+j<g*1:=by omega
     have h3:(madeCells v.cells (g*1))[i*1+j]? = some v.cells[(i*1+j) % v.cells.size]! := by
      simp only [madeCells,Array.getElem?_map,Array.getElem?_range,Ah this,Option.map_some]
     obtain rfl:j=0:=by omega
     rw [h3,E,Nat.mod_one,G,getElem!_pos v.cells 0 (by omega)]
     rw [Array.getElem?_eq_getElem (by omega)] at hu0
     simpa using hu0)
    (by rw [m];omega) y (by rw [m];omega) (M.newTop w.heap.size (g*1)) (by simp [Mem.newTop]) F trivial
   rw [m] at hR
   exact .value ⟨_,_,_,b,F,Z,hR⟩
  rw [Ah hmk0,Ah hmk0]
  obtain ⟨r1,r2⟩:=h.st.addVec (cs:=madeCells v.cells (g*sz)) (ty:=el) (cap:=g) (sz:=sz) (xs:=(List.replicate C (Ku v).cells).flatten) y U N
   (by rw [N];simp only [List.length_flatten,List.map_replicate,List.sum_replicate_nat,D];exact Nat.mul_le_mul_right _ (by omega))
   (fun x F=>by
    obtain ⟨q,hq,F⟩:=List.mem_flatten.1 F
    rw [List.eq_of_mem_replicate hq] at F
    exact J x F)
   (fun i u x ai F=>by
    obtain ⟨_,h2⟩:=Kt D C i x F
    have h3:u=v.cells[i % v.cells.size]! := by
     obtain ⟨q1,q2⟩:=Array.getElem?_eq_some_iff.1 ai
     rw [←q2];simp [madeCells]
    have E:v.cells.size=sz:=by rw [f.1,D]
    have h4:v.cells[i % sz]? = some u:=by
     have aa:i % sz<v.cells.size:=by rw [E];exact Nat.mod_lt _ U
     rw [h3,E,getElem!_pos v.cells (i % sz) aa,Array.getElem?_eq_getElem aa]
    exact f.get h4 h2)
  refine .value ⟨_,_,_,b,r2,r1,?_⟩
  have K:=h.st.NR
  exact .vec (by simp [Mem.addRow,K]) (Nat.zero_le _) fun _=>⟨by simp [Mem.addRow,K],by simp [Mem.addRow,K],by omega⟩
theorem ZbC (h:Rel w0 n M e st a w) (t:TypeId) (m:Nat) (ps:Array (Nat × Operand)) (hmk:K0 e t=true) (hob:(BB P e true st (.buildSlice t m ps)).1) :
  Yields' P w0 M (BB P e true st (.buildSlice t m ps)).2.2 (BB P e true st (.buildSlice t m ps)).2.1 w (do pure (.value (← Instr.buildSlice t m (ps.map fun (i,x)=>(i,a.eval x))))):=by
 unfold BB at hob ⊢
 cases he:OV P t with
 | none=>simp [he] at hob
 | some p =>
  obtain ⟨el,sz,ag,ad⟩:=p
  simp only [he,hmk] at hob ⊢
  obtain ⟨_,D,hr,ab,b,hz,r,U⟩:=hob
  obtain ⟨i,N,k,_,F⟩:=Iz he
  obtain ⟨z,Y⟩:=Option.isSome_iff_exists.1 hz
  obtain ⟨i',v,q,hv,hc,hs,rfl⟩:=Hh Y
  have hl:ps.toList.length=m:=by simpa using congrArg List.length hr
  have c:∀ p∈ps.toList,(a.eval p.2).cells.size=sz:=fun p K=>by
   rw [(BE h (D p K)).cells.1]
   exact r _ (List.mem_map.2 ⟨p,K,rfl⟩)
  obtain ⟨zc,hzc⟩:∃ zc:Array Value,if m*sz=0 then zc = #[] else zc=v.cells:=by
   by_cases h0:m*sz=0
   ·exact ⟨#[],by rw [Ah h0]⟩
   ·exact ⟨v.cells,by rw [Ai h0]⟩
  obtain ⟨l,a1,a2,a3,a4⟩:=X0 sz (ps.toList.map fun p=>a.eval p.2) 0 ((Array.range (m*sz)).map (zc[· % zc.size]!)) (fun u N=>by obtain ⟨p,K,rfl⟩:=List.mem_map.1 N;exact c p K) (by simp [hl])
  have hm:m≤maxLen:=by
   have:m*1≤m*sz:=Nat.mul_le_mul_left _ b
   simp [maxLen];omega
  let us:Nat→Value:=fun i=>(ps.toList.map fun p=>a.eval p.2).getD i undef
  have o:∀ i (k:i<(ps.toList.map fun p=>AD e p.2).length),(us i).cells.size=sz∧R w0 M w (us i) (ps.toList.map fun p=>AD e p.2)[i]:=fun i k=>by
   have q:i<ps.toList.length:=by simpa using k
   have V:i<ps.size:=by simpa using q
   have e1:us i=a.eval (ps.toList[i]).2:=by simp [us,List.getD,Array.getElem?_eq_getElem V]
   rw [e1]
   refine ⟨c _ (List.getElem_mem _),?_⟩
   simp only [List.getElem_map]
   exact BE h (D _ (List.getElem_mem _))
  have C:(ps.toList.map fun p=>AD e p.2).length=m:=by simp [←hl]
  have E:=OI (ys:=ps.toList.map fun p=>AD e p.2) (sz:=sz) r
  rw [C] at E
  have d:l.size=m*sz:=by rw [a2];simp
  have s:∀ j,j<m*sz→(flat us m)[j]? = l[j]? := fun j hj=>by
   have hk:j / sz<m:=(Nat.div_lt_iff_lt_mul b).2 hj
   have G:=Nat.mod_lt j b
   have ej:j / sz*sz+j % sz=j:=by rw [Nat.mul_comm];exact Nat.div_add_mod j sz
   have f:=Lr (us:=us) (m:=m) (sz:=sz) (fun i k=>(o i (by rw [C];exact k)).1) (j / sz) hk (j % sz) G
   rw [ej] at f
   have Q:j / sz<ps.toList.length:=by omega
   have aa:j / sz<ps.size:=by simpa using Q
   have f2:=a4 (j / sz) (us (j / sz)) (by simp [us,List.getD,Array.getElem?_eq_getElem aa]) (j % sz) G
   rw [Nat.zero_add,ej] at f2
   rw [f,f2]
  obtain ⟨J,hx⟩:=h.st.addVec (cs:=l) (ty:=el) (cap:=m) (sz:=sz) (xs:=(ps.toList.map fun p=>AD e p.2).flatMap fun y=>y.pub.cells) hm b d (by rw [E,d];exact Nat.le_refl _) (Zal (fun i k=>(o i k).2) U)
   (fun i v x g Z=>by
    have k:i<m*sz:=by rw [←d];exact (Array.getElem?_eq_some_iff.1 g).1
    rw [←s i k] at g
    rw [←C] at g
    exact Ziw b o r g Z)
  have O:=h.st.NR
  refine .value ⟨.slice (some ⟨w.heap.size,0,none⟩) m m,_,_,?_,hx,J,.vec (by simp [Mem.addRow,O]) (Nat.zero_le _) fun _=>⟨by simp [Mem.addRow,O],by simp [Mem.addRow,O],Nat.le_refl _⟩⟩
  have e0:¬ (m*sz > 2 ^ 24):=by omega
  have H:(ps.map fun (i,x)=>(i,a.eval x)).toList=((ps.toList.map fun p=>a.eval p.2).zipIdx 0).map fun x=>(x.2,x.1):=by
   rw [Array.toList_map]
   exact YE hr a.eval
  by_cases h0:m*sz=0
  ·rw [Ah h0] at hzc
   subst hzc
   simp only [Instr.buildSlice,Sem.run_bind,run_underlying N,Result.andThen_ok,CC F,Ai e0,Ah h0,Sem.run_pure,H,a1,newRow,run_newObj]
   rfl
  ·rw [Ai h0] at hzc
   subst hzc
   simp only [Instr.buildSlice,Sem.run_bind,run_underlying N,Result.andThen_ok,CC F,Ai e0,Ai h0,Sem.run_pure,zeroValue,typeInfo,run_program,q,hv,H,a1,newRow,run_newObj]
   rfl
theorem ZfK (h:Rel w0 n M e st a w) (o:Oper) (hob:(BB P e true st o.op).1) :
  Yields' P w0 M (BB P e true st o.op).2.2 (BB P e true st o.op).2.1 w (execOp a.eval o):=by
 obtain ⟨q,op,g,p,j,k⟩:=o
 cases op with
 | move x=>exact Oc h.st rfl (BE h hob)
 | assign x=>exact Oc h.st rfl (BE h hob)
 | pick c x y=>exact ZhV h c x y hob
 | alloc t=>exact Zgv h t hob
 | box t x=>exact Zkm h t x hob
 | build t ps=>exact ZgD h t ps hob
 | buildSlice t m ps =>
  cases hmk:K0 e t with
  | false=>exact Yt h t m ps hmk hob
  | true=>exact ZbC h t m ps hmk hob
 | load t x =>
  have:=Zii h t x hob
  have e:(BB P e true st (.load t x)).2.2=st:=by simp only [BB];split<;>rfl
  simp only [e]
  exact this
 | store t x v=>exact ZfR h t x v hob
 | nilCheck x=>exact ZbM h ⟨q,.nilCheck x,g,p,j,k⟩ x rfl hob
 | binOp op t x y u=>exact Zgb h op t x y u hob
 | unOp op t x=>exact Zi8 h op t x hob
 | convert s d x=>exact ZcZ h s d x hob
 | makeFunc f fi cap =>
  cases f with
  | func f=>exact Za7 h f fi cap hob
  | _=>exact hob.elim
 | slice t x lo hi mx=>exact ZfP h t x lo hi mx hob
 | makeSlice t len cap=>exact Zam h t len cap hob
 | fieldAddr t x f=>exact ZT h t x f hob
 | field t x f=>exact Zfk h t x f hob
 | indexAddr t x i=>exact Zad h t x i hob
 | index t x i=>exact Zfr h t x i hob
 | extract x i=>exact Zb7 h x i hob
 | call c =>
  obtain ⟨callee,l,C⟩:=c
  cases callee with
  | builtin b =>
   cases b with
   | len =>
    simp only [BB] at hob ⊢
    split at hob
    ·rename_i x t hx ht
     obtain ⟨z,r⟩:=hob
     have ea:l = #[x]:=Array.toList_inj.1 (by simpa using hx)
     have et:C = #[t]:=Array.toList_inj.1 (by simpa using ht)
     subst ea;subst et
     exact (Zkt h x t g z r).congr (NP .len #[x] #[t] q g p j k _ (fun _=>by simp [builtin]))
    ·exact hob.elim
   | append =>
    simp only [BB] at hob ⊢
    split at hob
    ·rename_i s x t t' hx ht
     obtain ⟨_,z,r,rfl,D⟩:=hob
     have ea:l = #[s,x]:=Array.toList_inj.1 (by simpa using hx)
     have et:C = #[t,t]:=Array.toList_inj.1 (by simpa using ht)
     subst ea;subst et
     exact (YX h s x t g z r D).congr (NP .append #[s,x] #[t,t] q g p j k _ (fun _=>by simp [builtin]))
    ·exact hob.elim
   | min =>
    simp only [BB] at hob ⊢
    split at hob
    ·rename_i x y hx
     obtain ⟨z,r,D,E,_⟩:=hob
     have ea:l = #[x,y]:=Array.toList_inj.1 (by simpa using hx)
     subst ea
     exact (Zkn h x y C g z r D E).congr (NP .min #[x,y] C q g p j k _ (fun _=>by simp [builtin]))
    ·exact hob.elim
   | max =>
    simp only [BB] at hob ⊢
    split at hob
    ·rename_i x y hx
     obtain ⟨z,r,D,E⟩:=hob
     have ea:l = #[x,y]:=Array.toList_inj.1 (by simpa using hx)
     subst ea
     exact (ZjV h x y C g z r D E).congr (NP .max #[x,y] C q g p j k _ (fun _=>by simp [builtin]))
    ·exact hob.elim
   | _=>exact hob.elim
  | _=>exact hob.elim
 | _=>exact hob.elim
end
def FW (ro:Option Nat):Fence:={ Fence.wide with round:=ro }
theorem YT (ro:Option Nat) (f:FuncId):(FW ro).fn f:=trivial
theorem Xb (ro:Option Nat):(FW ro).depth.isSome=true→∀ n,1≤n:=fun h=>by cases h
theorem Wi {ro:Option Nat} {n:Nat} {P:Program} {f:FuncId} {args:Array Value} {w:World} {Q:Ending→World→Prop} (h:Calls P f args w Q):CallsIn (FW ro) n P f args w Q:=by
 cases ro with
 | none=>exact callsIn_wide.2 h
 | some l=>exact CallsIn.inRound (F:=Fence.wide) l (callsIn_wide.2 h)
theorem VM {n:Nat} {P:Program} {f:FuncId} {args:Array Value} {w:World} {Q:Ending→World→Prop} (h:CallsIn (FW none) n P f args w Q):Calls P f args w Q:=callsIn_wide.1 h
def MU (P:Program) (f:FuncId):Prop:=∀ args w,(callFunc f args).run P w = .ok (.enter f args) w
def Comes' (w0:World) (M:Mem) (w:World) (Post:AV→St→Prop) (en:Ending) (w':World):Prop :=
 ∃ v M' r st',en = .returned v∧Post r st'∧Ext w0 M w M' w'∧RelSt w0 M' st' w'∧R w0 M' w' v r
def ACalls (P:Program) (w0:World) (f:FuncId) (args:List AV) (st:St) (Post:AV→St→Prop):Prop :=
 MU P f∧∀ (M:Mem) (w:World) (vals:Array Value),RelSt w0 M st w→RowR w0 M w vals args→Calls P f vals w (Comes' w0 M w Post)
theorem Comes'.mono {w0:World} {M:Mem} {w:World} {Post Post':AV→St→Prop} (hp:∀ r s,Post r s→Post' r s) {en:Ending} {w':World} (h:Comes' w0 M w Post en w'):Comes' w0 M w Post' en w' :=
 let ⟨v,M',r,st',a1,a2,a3,a4,a5⟩:=h;⟨v,M',r,st',a1,hp _ _ a2,a3,a4,a5⟩
theorem ACalls.mono {P:Program} {w0:World} {f:FuncId} {args:List AV} {st:St} {Post Post':AV→St→Prop} (h:ACalls P w0 f args st Post) (hp:∀ r s,Post r s→Post' r s):ACalls P w0 f args st Post' :=
 ⟨h.1,fun M w a b c=>(h.2 M w a b c).mono fun _ _ h=>h.mono hp⟩
def X1 (P:Program) (w0:World) (k:Nat) (args:List AV) (st:St) (Post:AV→St→Prop):Prop :=
 ∀ (M:Mem) (w:World) (vals:Array Value),RelSt w0 M st w→RowR w0 M w vals args →
  ∃ fn tmps asg body,(Instr.yield (M.lb k) vals).run P w = .ok (.round (M.lb k) fn tmps asg body) w∧∀ n,RoundIn Fence.wide n P (M.lb k) fn tmps asg body w (Comes' w0 M w Post)
def Qb (P:Program) (w0:World) (fv:AV) (args:List AV) (st:St) (Post:AV→St→Prop):Prop :=
 match fv with
 | .clo f cs=>ACalls P w0 f (args++cs) st Post
 | .yld k=>X1 P w0 k args st Post
 | _=>False
def MV (e:Env) (dst:Option Nat) (c:Bool) (v:AV):Env :=
 match dst with
 | some d=>(d,c,v)::e
 | none=>e
def Nu (n:Nat):Option Nat→Prop
 | some d=>d<n
 | none=>True
def Ew (all:List Oper) (e:Env):Option (Nat × Bool)→Bool
 | none=>true
 | some (j,want)=>match (all[j]?).bind (·.dst) with
  | some d=>match Eu e d with
   | some (cj,.val (.bool b))=>cj&&(b == want)
   | _=>false
  | none=>false
def NY (all:List Oper) (e:Env):Option (Nat × Bool)→Prop
 | none=>True
 | some (j,_)=>match (all[j]?).bind (·.dst) with
  | some d=>match Eu e d with
   | some (_,v)=>Zr v=true
   | none=>False
  | none=>False
def LO:List Operand→List Nat
 | []=>[]
 | .tmp t::r=>t::LO r
 | _::r=>LO r
def ZgS (all:List Oper):Option (Nat × Bool)→List Nat
 | none=>[]
 | some (j,_)=>((all[j]?).bind (·.dst)).toList
def looks (all:List Oper) (o:Oper):List Nat:=1000000::(LO o.op.operands.toList++ZgS all o.guard)
def Eo (d:Bool) (all:List Oper) (o:Oper) (e:Env):Env:=if d then EY (looks all o) e else e
def LH (P:Program) (w0:World) (c d:Bool) (fv:AV) (args:List AV) (st:St) (k:AV→St→Prop):Prop :=
 (∃ v,(c=true→Qb P w0 fv args st fun r s=>r=v∧s=st)∧k v st) ∨
 (d=false∧∃ Post,(c=true→Qb P w0 fv args st Post)∧∀ v st',(c=true→Post v st')→(c=false→st'=st)→k v st')
theorem QC {P:Program} {w0:World} {c d:Bool} {f:FuncId} {cs args:List AV} {st:St} {k:AV→St→Prop} (v:AV)
  (h:ACalls P w0 f (args++cs) st fun r s=>r=v∧s=st) (hk:k v st):LH P w0 c d (.clo f cs) args st k := .inl ⟨v,fun _=>h,hk⟩
theorem Xz {P:Program} {w0:World} {f:FuncId} {cs args:List AV} {st:St} {k:AV→St→Prop} (Post:AV→St→Prop)
  (h:ACalls P w0 f (args++cs) st Post) (hk:∀ v s,Post v s→k v s):LH P w0 true false (.clo f cs) args st k := .inr ⟨rfl,Post,fun _=>h,fun v s a _=>hk v s (a rfl)⟩
theorem ZaS {P:Program} {w0:World} {c:Bool} {i:Nat} {args:List AV} {st:St} {k:AV→St→Prop} (Post:AV→St→Prop)
  (h:c=true→X1 P w0 i args st Post) (hk:∀ v s,(c=true→Post v s)→(c=false→s=st)→k v s):LH P w0 c false (.yld i) args st k := .inr ⟨rfl,Post,h,hk⟩
def argP (e:Env) (x:AV):AV:=if K0 e 0=true then x else x.pub
theorem R.argP {w0:World} {M:Mem} {w:World} {v:Value} {x:AV} (e:Env) (h:R w0 M w v x):R w0 M w v (Go.Ev.argP e x):=by
 unfold Go.Ev.argP
 split
 ·exact h
 ·exact h.pub
def evS (P:Program) (w0:World) (n:Nat) (d:Bool) (all:List Oper) (R:List Oper→Env→St→Prop) (K:Env→St→Prop):List Oper→Env→St→Prop
 | [],e,st=>K e st
 | o::os,e,st =>
  NY all (Eo d all o e) o.guard∧Nu n o.dst ∧
  match o.op with
  | .call ⟨.value f,args,_⟩ =>
   (Ew all (Eo d all o e) o.guard=true→Ba (Eo d all o e) true f∧∀ x∈args.toList,Ba (Eo d all o e) true x) ∧
   LH P w0 (Ew all (Eo d all o e) o.guard) d (AD (Eo d all o e) f) (args.toList.map fun x=>argP (Eo d all o e) (AD (Eo d all o e) x)) st
    fun v st'=>R os (MV e o.dst (Ew all (Eo d all o e) o.guard) v) st'
  | op=>match BB P (Eo d all o e) (Ew all (Eo d all o e) o.guard) st op with
   | (ob,v,st')=>(Ew all (Eo d all o e) o.guard=true→ob)∧((Ew all (Eo d all o e) o.guard=false∨d=true)→st'=st)∧evS P w0 n d all R K os (MV e o.dst (Ew all (Eo d all o e) o.guard) v) st'
def X9 (P:Program) (w0:World) (n:Nat) (d:Bool) (all:List Oper) (K:Env→St→Prop):Nat→List Oper→Env→St→Prop
 | 0,_,_,_=>False
 | c+1,os,e,st=>evS P w0 n d all (X9 P w0 n d all K c) K os e st
theorem Ap {P:Program} {w0:World} {n:Nat} {d:Bool} {all:List Oper} {K:Env→St→Prop} {c:Nat} {os:List Oper} {e:Env} {st:St}:X9 P w0 n d all K (c+1) os e st=evS P w0 n d all (X9 P w0 n d all K c) K os e st:=rfl
def N6:Op→Bool
 | .call ⟨.value _,_,_⟩=>true
 | _=>false
theorem YD {P:Program} {w0:World} {n:Nat} {d:Bool} {all:List Oper} {R:List Oper→Env→St→Prop} {K:Env→St→Prop} {o:Oper} {os:List Oper} {e:Env} {st:St} (hc:¬ N6 o.op=true) :
  evS P w0 n d all R K (o::os) e st=(NY all (Eo d all o e) o.guard∧Nu n o.dst∧match BB P (Eo d all o e) (Ew all (Eo d all o e) o.guard) st o.op with
   | (ob,v,st')=>(Ew all (Eo d all o e) o.guard=true→ob)∧((Ew all (Eo d all o e) o.guard=false∨d=true)→st'=st)∧evS P w0 n d all R K os (MV e o.dst (Ew all (Eo d all o e) o.guard) v) st'):=by
 obtain ⟨dst,op,b,g,a,guard⟩:=o
 cases op with
 | call cc =>
  obtain ⟨callee,c,h⟩:=cc
  cases callee with
  | value f=>exact absurd rfl hc
  | _=>rfl
 | _=>rfl
section
variable {P:Program} {w0:World} {n:Nat} {M:Mem} {e:Env} {st:St} {a:Act} {w:World}
theorem U4 (h:Rel w0 n M e st a w) (ro:Option Nat) (m:Nat) (o:Oper) (hob:(BB P e true st o.op).1) (Q:Exit→Act→World→Prop) (K:Act→World→Prop)
  (hK:∀ v w' M',Ext w0 M w M' w'→RelSt w0 M' (BB P e true st o.op).2.2 w'→R w0 M' w' v (BB P e true st o.op).2.1→K (a.put o.dst v) w'):o.wpIn (FW ro) m P a w K Q:=by
 have hd:∀ c,o.op ≠ .defer c:=by
  intro c j
  rw [j] at hob
  exact hob
 obtain ⟨v,w',M',b,i,d,g⟩:=ZfK (P:=P) h o hob
 refine ⟨fun f _=>YT ro f,?_⟩
 have hs:Oper.semAt (FW ro).round a.eval o=execOp a.eval o:=by
  cases ro with
  | none=>rfl
  | some l=>exact Oper.semAt_some l a.eval o hd
 rw [hs]
 rcases b with b | ⟨b,rfl⟩
 ·rw [b];exact hK v w' M' i d g
 ·rw [b];exact hK _ w' M' i d g
theorem Zax {v:Value} {f:FuncId} {xs:List AV} (h:R w0 M w v (.clo f xs)):∃ cs,v = .func (.func f) #[] cs∧RowR w0 M w cs xs:=by
 cases h with
 | clo hl h=>exact ⟨_,rfl,hl,h⟩
theorem Zh8 {v:Value} {k:Nat} (h:R w0 M w v (.yld k)):v = .func (.yield (M.lb k)) #[] #[]:=by
 cases h with
 | yld hk=>rfl
theorem Zib (h:Rel w0 n M e st a w) {args:Array Operand} (hargs:∀ x∈args.toList,Ba e true x):RowR w0 M w (args.map a.eval) (args.toList.map fun x=>argP e (AD e x)):=by
 refine .mk (by simp) (fun i u y hu hy=>?_)
 by_cases c:i<args.size
 ·simp only [Array.getElem?_map,Array.getElem?_eq_getElem c,Option.map_some,Option.some.injEq] at hu
  simp only [List.getElem?_map,Array.getElem?_toList,Array.getElem?_eq_getElem c,Option.map_some,Option.some.injEq] at hy
  subst hu;subst hy
  exact (BE h (hargs _ (by simp))).argP e
 ·simp [Array.getElem?_eq_none (Nat.le_of_not_lt c)] at hu
theorem RowR.append {cs ds:Array Value} {xs ys:List AV} (h:RowR w0 M w cs xs) (k:RowR w0 M w ds ys):RowR w0 M w (cs++ds) (xs++ys):=by
 refine .mk (by simp [h.1,k.1]) (fun i u y a b=>?_)
 by_cases c:i<cs.size
 ·rw [Array.getElem?_append_left c] at a
  rw [List.getElem?_append_left (h.1▸c)] at b
  exact h.get a b
 ·rw [Array.getElem?_append_right (by omega)] at a
  rw [List.getElem?_append_right (by have:=h.1;omega)] at b
  rw [h.1] at a
  exact k.get a b
theorem M5 (h:Rel w0 n M e st a w) (ro:Option Nat) (m:Nat) {dst:Option Tmp} {f:Operand} {args:Array Operand} {ts:Array TypeId} {type:TypeId} {pos:String} {after:Array Edge} {guard:Option (Nat × Bool)}
  (hf:Ba e true f) (hargs:∀ x∈args.toList,Ba e true x) {Post:AV→St→Prop} (hv:Qb P w0 (AD e f) (args.toList.map fun x=>argP e (AD e x)) st Post) (Q:Exit→Act→World→Prop) (K:Act→World→Prop)
  (hK:∀ r s,Post r s→∀ v w' M',Ext w0 M w M' w'→RelSt w0 M' s w'→R w0 M' w' v r→K (a.put dst v) w') :
  (⟨dst,.call ⟨.value f,args,ts⟩,type,pos,after,guard⟩:Oper).wpIn (FW ro) m P a w K Q:=by
 have i:=Zib h hargs
 have p:=BE h hf
 refine ⟨fun f _=>YT ro f,?_⟩
 have hs:Oper.semAt (FW ro).round a.eval ⟨dst,.call ⟨.value f,args,ts⟩,type,pos,after,guard⟩=execOp a.eval ⟨dst,.call ⟨.value f,args,ts⟩,type,pos,after,guard⟩:=by
  cases ro with
  | none=>rfl
  | some l=>exact Oper.semAt_some l a.eval _ (fun c hh=>by cases hh)
 rw [hs]
 cases hx:AD e f with
 | clo g xs =>
  rw [hx] at p hv
  obtain ⟨cs,ef,u⟩:=Zax p
  have b:(execOp a.eval ⟨dst,.call ⟨.value f,args,ts⟩,type,pos,after,guard⟩).run P w = .ok (.enter g (args.map a.eval++cs)) w:=by
   simp [execOp,resolve,ef,Deferred.ofValue,invoke,hv.1 (args.map a.eval++cs) w]
  rw [b]
  refine ⟨fun q=>Xb ro q m,Wi ((hv.2 M w _ h.st (i.append u)).mono ?_)⟩
  rintro en w' ⟨E,M',r,s,rfl,D,z,t,y⟩
  exact hK r s D E w' M' z t y
 | yld k =>
  rw [hx] at p hv
  have ef:=Zh8 p
  obtain ⟨H,j,C,o,G,d⟩:=hv M w _ h.st i
  have b:(execOp a.eval ⟨dst,.call ⟨.value f,args,ts⟩,type,pos,after,guard⟩).run P w = .ok (.round (M.lb k) H j C o) w:=by
   simp [execOp,resolve,ef,Deferred.ofValue,invoke,G]
  rw [b]
  refine ⟨fun q=>Xb ro q m,?_⟩
  have:=d (m-1)
  refine RoundIn.mono (F:=FW ro) (by cases ro<;>exact this) ?_
  rintro en w' ⟨E,M',r,s,rfl,D,z,t,y⟩
  exact hK r s D E w' M' z t y
 | _=>rw [hx] at hv;exact hv.elim
theorem MR (a:Act) (dst:Option Nat) (v:Value) (s:Nat) (hd:Nu a.tmps.size dst):(a.put dst v).tmps.getD s undef=if dst=some s then v else a.tmps.getD s undef:=by
 cases dst with
 | none=>simp [Act.put]
 | some d =>
  simp only [Nu] at hd
  simp only [Act.put,Option.some.injEq]
  by_cases c:d=s
  ·subst c
   simp [hd]
  ·rw [Ai c]
   simp [Array.getElem?_setIfInBounds_ne c]
theorem TU (a:Act) (dst:Option Nat) (v:Value):(a.put dst v).tmps.size=a.tmps.size:=by cases dst<;>simp [Act.put]
theorem M7 (a:Act) (dst:Option Nat) (v:Value):(a.put dst v).defers=a.defers:=by cases dst<;>rfl
theorem Rel.put (h:Rel w0 n M e st a w) {M':Mem} {w':World} {st':St} (hx:Ext w0 M w M' w') (hst:RelSt w0 M' st' w') {dst:Option Nat} (hd:Nu n dst) {c:Bool} {v:Value} {r:AV} (hv:entryOk w0 M' w' v (c,r)) :
  Rel w0 n M' (MV e dst c r) st' (a.put dst v) w':=by
 refine ⟨hst,by rw [TU];exact h.size,fun s x hs=>?_⟩
 rw [MR a dst v s (by rw [h.size];exact hd)]
 cases dst with
 | none=>exact (h.env s x hs).mono hx
 | some d =>
  simp only [MV,Eu] at hs
  simp only [Option.some.injEq]
  by_cases q:d=s
  ·rw [Ah q] at hs ⊢
   cases hs
   exact hv
  ·rw [Ai q] at hs ⊢
   exact (h.env s x hs).mono hx
theorem ZW {ops:Array Oper} {ts:Array Value} {j d:Nat} (h:(ops[j]?).bind (·.dst)=some d):yielded ops ts j=match ts.getD d undef with | .bool b=>some b | _=>none:=by
 unfold yielded
 simp only [h]
 rw [Array.getD_eq_getD_getElem?]
 change (match ts[(d:Nat)]? with | some (.bool b)=>some b | _=>none)=_
 cases ts[(d:Nat)]? with
 | none=>rfl
 | some v=>cases v<;>rfl
theorem QP (h:Rel w0 n M e st a w) {all:List Oper} {o:Oper} (hg:NY all e o.guard):Region.wanted o (yielded all.toArray a.tmps)=Ew all e o.guard:=by
 unfold Region.wanted Ew
 cases hgd:o.guard with
 | none=>rfl
 | some p =>
  obtain ⟨j,want⟩:=p
  rw [hgd] at hg
  simp only [NY] at hg
  have f:(all.toArray[j]?).bind (·.dst)=(all[j]?).bind (·.dst):=by simp
  dsimp only
  cases hd:(all[j]?).bind (·.dst) with
  | none=>simp [hd] at hg
  | some d =>
   rw [ZW (f.trans hd)]
   simp only [hd] at hg ⊢
   cases hl:Eu e d with
   | none=>simp [hl] at hg
   | some x =>
    obtain ⟨cj,v⟩:=x
    simp only [hl] at hg ⊢
    have c:=h.env d _ hl
    cases v with
    | val u =>
     cases u<;>try cases hg
     rename_i b
     unfold entryOk at c
     cases cj with
     | true =>
      rw [Ah rfl] at c
      obtain ⟨g,_⟩:=c.val_inv
      rw [g]
      cases b<;>cases want<;>rfl
     | false =>
      rw [Ai (by simp)] at c
      rw [c]
      rfl
    | _=>cases hg
def Zfl (e' e:Env):Prop:=∀ s x,Eu e' s=some x→Eu e s=some x
theorem Rel.sub {e':Env} (h:Rel w0 n M e st a w) (hs:Zfl e' e):Rel w0 n M e' st a w:=⟨h.st,h.size,fun s x b=>h.env s x (hs s x b)⟩
theorem Kw:∀ (K:List Nat) (e:Env) (s:Nat) (x:Bool × AV),Eu (EY K e) s=some x→Eu e s=some x
 | [],_,_,_,h=>by simp [EY,Eu] at h
 | k::K,e,s,x,h=>by
  simp only [EY] at h
  cases hk:Eu e k with
  | none =>
   simp only [hk] at h
   exact Kw K e s x h
  | some y =>
   obtain ⟨c,v⟩:=y
   simp only [hk,Eu] at h
   by_cases q:k=s
   ·rw [Ah q] at h
    subst q
    rw [hk];exact h
   ·rw [Ai q] at h
    exact Kw K e s x h
theorem Dx (K:List Nat) (e:Env):Zfl (EY K e) e:=Kw K e
theorem Ou:∀ (K:List Nat) (e:Env) (s:Nat) (x:Bool × AV),Eu (EY K e) s=some x→s∈K
 | [],_,_,_,h=>by simp [EY,Eu] at h
 | k::K,e,s,x,h=>by
  simp only [EY] at h
  cases hk:Eu e k with
  | none =>
   simp only [hk] at h
   exact List.mem_cons_of_mem _ (Ou K e s x h)
  | some y =>
   obtain ⟨c,v⟩:=y
   simp only [hk,Eu] at h
   by_cases q:k=s
   ·exact q▸List.mem_cons_self
   ·rw [Ai q] at h
    exact List.mem_cons_of_mem _ (Ou K e s x h)
theorem ZfY (d:Bool) (all:List Oper) (o:Oper) (e:Env):Zfl (Eo d all o e) e:=by
 unfold Eo
 split
 ·exact Dx _ _
 ·exact fun _ _ h=>h
theorem UH (ro:Option Nat) (m:Nat) (d:Bool) (all:List Oper) (KK:Env→St→Prop) (Q:Exit→Act→World→Prop):∀ (c:Nat) (os:List Oper) (e:Env) (st:St) (a:Act) (w:World) (M:Mem),Rel w0 n M e st a w →
  X9 P w0 n d all KK c os e st→(∀ e' st' a' w' M',KK e' st'→Rel w0 n M' e' st' a' w'→Ext w0 M w M' w'→a'.defers=a.defers→Q .normal a' w')→wpListIn (FW ro) m P all.toArray Q os a w
 | 0,_,_,_,_,_,_,_,h,_=>h.elim
 | c+1,os,e,st,a,w,M,hr,h,t=>by
  have z:∀ (os:List Oper) (e:Env) (st:St) (a:Act) (w:World) (M:Mem),Rel w0 n M e st a w→evS P w0 n d all (X9 P w0 n d all KK c) KK os e st →
    (∀ e' st' a' w' M',KK e' st'→Rel w0 n M' e' st' a' w'→Ext w0 M w M' w'→a'.defers=a.defers→Q .normal a' w')→wpListIn (FW ro) m P all.toArray Q os a w:=by
   intro os
   induction os with
   | nil=>exact fun e st a w M hr h t=>t e st a w M h hr (.refl _ _ _) rfl
   | cons o os ih =>
    intro e st a w M hr h t
    have hv:=ZfY d all o e
    have i:=hr.sub hv
    by_cases hc:N6 o.op=true
    ·obtain ⟨dst,op,type,pos,after,guard⟩:=o
     cases op<;>try cases hc
     rename_i cc
     obtain ⟨callee,args,ts⟩:=cc
     cases callee<;>try cases hc
     rename_i f
     simp only [evS] at h
     obtain ⟨C,hd,x,y⟩:=h
     unfold wpListIn
     rw [QP i C]
     have go:∀ v s,X9 P w0 n d all KK c os (MV e dst (Ew all (Eo d all ⟨dst,.call ⟨.value f,args,ts⟩,type,pos,after,guard⟩ e) guard) v) s→∀ u w' M',Ext w0 M w M' w'→RelSt w0 M' s w' →
       entryOk w0 M' w' u (Ew all (Eo d all ⟨dst,.call ⟨.value f,args,ts⟩,type,pos,after,guard⟩ e) guard,v)→wpListIn (FW ro) m P all.toArray Q os (a.put dst u) w':=by
      intro v s G u w' M' hx hst hu
      exact UH ro m d all KK Q c os _ _ _ _ M' (hr.put hx hst hd hu) G (fun e' st' a' k p j b F D=>t e' st' a' k p j b (hx.trans F) (D.trans (M7 a dst u)))
     cases hcc:Ew all (Eo d all ⟨dst,.call ⟨.value f,args,ts⟩,type,pos,after,guard⟩ e) guard with
     | true =>
      rw [hcc] at x y go
      obtain ⟨K,J⟩:=x rfl
      rw [Ah rfl]
      rcases y with ⟨v,j,b⟩ | ⟨_,Post,j,b⟩
      ·refine M5 i ro m K J (j rfl) Q _ (fun r s E u w' M' hx hst hu=>?_)
       obtain ⟨rfl,rfl⟩:=E
       exact go _ _ b u w' M' hx hst hu
      ·exact M5 i ro m K J (j rfl) Q _ (fun r s E u w' M' hx hst hu=>go _ _ (b r s (fun _=>E) (fun q=>by cases q)) u w' M' hx hst hu)
     | false =>
      rw [hcc] at x y go
      rw [Ai (by simp)]
      refine ⟨fun g _=>YT ro g,?_⟩
      rcases y with ⟨v,j,b⟩ | ⟨_,Post,j,b⟩
      ·exact go _ _ b undef w M (.refl _ _ _) hr.st rfl
      ·exact go .junk st (b .junk st (fun q=>by cases q) (fun _=>rfl)) undef w M (.refl _ _ _) hr.st rfl
    ·rw [YD hc] at h
     obtain ⟨C,hd,x,H,l⟩:=h
     unfold wpListIn
     rw [QP i C]
     have go:∀ u w' M',Ext w0 M w M' w'→RelSt w0 M' (BB P (Eo d all o e) (Ew all (Eo d all o e) o.guard) st o.op).2.2 w' →
       entryOk w0 M' w' u (Ew all (Eo d all o e) o.guard,(BB P (Eo d all o e) (Ew all (Eo d all o e) o.guard) st o.op).2.1)→wpListIn (FW ro) m P all.toArray Q os (a.put o.dst u) w':=by
      intro u w' M' hx hst hu
      exact ih _ _ _ _ M' (hr.put hx hst hd hu) l (fun e' st' a' k p j b F D=>t e' st' a' k p j b (hx.trans F) (D.trans (M7 a o.dst u)))
     cases hcc:Ew all (Eo d all o e) o.guard with
     | true =>
      rw [hcc] at x go
      rw [Ah rfl]
      exact U4 i ro m o (x rfl) Q _ (fun v w' M' hx hst hv=>go v w' M' hx hst hv)
     | false =>
      rw [hcc] at H go
      rw [Ai (by simp)]
      refine ⟨fun g _=>YT ro g,go undef w M (.refl _ _ _) ?_ rfl⟩
      have q:(BB P (Eo d all o e) false st o.op).2.2=st:=H (.inl rfl)
      rw [q]
      exact hr.st
  exact z os e st a w M hr h t
end
end Go.Ev
