/-
  Part 1 of the proof: rules and walks that the claim's last text uses.
-/
import Derived.Below
import Derived.Laws.BytesArg
import Derived.Laws.IdiomStrings
import Derived.Laws.MakeOwn
import Derived.Laws.Rows
import Derived.Laws.Runes
import Derived.Laws.Small
import Derived.Laws.StructEq
import Derived.Lib.ConvBytes
import Derived.Lib.Strings
import Derived.Orders
import Derived.RangeFuncNested
import Derived.RangeFuncRecord
import Derived.WalkKit
set_option linter.unusedSimpArgs false
set_option linter.unusedVariables false
set_option maxRecDepth 100000
set_option maxHeartbeats 4000000
namespace Go
theorem Aa.{u} {c:Prop} {h:Decidable c} {α:Sort u} {t e:α} (hc:¬c:=by omega):ite c t e=e:=if_neg hc
theorem Ab.{u} {c:Prop} {h:Decidable c} {α:Sort u} {t e:α} (hc:c:=by omega):ite c t e=t:=if_pos hc
theorem Ac {p:Prop} [Decidable p] (h:¬p:=by omega):decide p=false:=decide_eq_false h
theorem Ad {p:Prop} [Decidable p] (h:p:=by omega):decide p=true:=decide_eq_true h
theorem Ae {a b:Prop} (h:a) (k:b):a∧b:=⟨h,k⟩
theorem Af.{u,v} {α:Type u} {β:Type v} (a:α) (f:α→Option β):(some a).bind f=f a:=rfl
theorem Ag {p:Prop} [Decidable p] (h:¬p):decide p=false:=decide_eq_false h
theorem Ah {p:Prop} [Decidable p] (h:p):decide p=true:=decide_eq_true h
theorem Ai.{u} {c:Prop} {h:Decidable c} (hc:c) {α:Sort u} {t e:α}:ite c t e=t:=if_pos hc
theorem Aj.{u} {c:Prop} {h:Decidable c} (hc:¬c) {α:Sort u} {t e:α}:ite c t e=e:=if_neg hc
theorem Ak.{u} {α:Type u} {a:α} {l:List α} {i:Nat}:l[i]?=some a↔∃ h:i<l.length,l[i]=a:=List.getElem?_eq_some_iff
end Go
namespace Go.Ev
open Go Go.RowKit
inductive Own where
 | none | full | seed | row (id:Nat)
 deriving DecidableEq
inductive AV where
 | val (v:Value)
 | list (xs:List AV) (o:Own)
 | elem (x:AV) (off:Nat)
 | box (l off:Nat)
 | clo (f:FuncId) (caps:List AV)
 | agg (cs:List AV)
 | tup (vs:List AV)
 | yld (k:Nat)
 | vec (id ver o n:Nat)
 | vel (id ver off:Nat)
abbrev Am (x:Int):AV := .val (.int .i64 x)
abbrev AV.junk:AV := .tup []
instance:Inhabited AV:=⟨.junk⟩
def AV.cells:AV→List AV
 | .agg cs=>cs
 | x=>[x]
def AV.one:AV→Bool
 | .agg _ | .tup _=>false
 | _=>true
def FB:Value→Bool
 | .bool _ | .int _ _ | .float _ _ | .pointer none | .nilFunc | .nilIface | .iface _ _ | .map none=>true
 | .string s=>decide (s.size≤maxLen)
 | _=>false
structure LoopA where
 e:List (Nat × Bool × AV)
 n:Nat
 ps:Array Tmp
 asg:Code
 body:Code
 st:LoopState
 pend:Option Code
inductive RowA where
 | grow (n sz:Nat)
 | vec (ver sz:Nat) (cells:List AV)
 | dead (ver:Nat)
structure St where
 boxes:List (List AV)
 rows:List RowA
 loops:List LoopA
abbrev Ao:=List (List AV)
abbrev Av:=List RowA
abbrev As:=List LoopA
structure Mem where
 N:Nat
 NR:Nat
 bx:Nat→Nat
 top:Nat→Nat
 fr:Nat→Nat
 blk:Nat→Nat
 cap:Nat→Nat
 rsz:Nat→Nat
 NL:Nat
 lb:Nat→Nat
def Mem.imm (M:Mem) (w0:World) (b off:Nat):Prop:=b<w0.heap.size∨off<M.top b
def Zbt (M:Mem) (b off cap n sz:Nat):Own→Prop
 | .none=>True
 | .full | .seed=>n=cap
 | .row id=>id<M.NR∧n≤M.fr id∧(n=M.fr id→b=M.blk id∧off=0∧cap=M.cap id∧sz=M.rsz id)
inductive R (w0:World) (M:Mem) (w:World):Value→AV→Prop
 | flat {v:Value} (h:FB v=true):R w0 M w v (.val v)
 | agg {cs:Array Value} {xs:List AV} (hl:cs.size=xs.length) (h1:∀ x∈xs,x.one=true) (h:∀ i (h1:i<cs.size) (h2:i<xs.length),R w0 M w cs[i] xs[i]):R w0 M w (.agg cs) (.agg xs)
 | tup {cs:Array Value} {xs:List AV} (hl:cs.size=xs.length) (h:∀ i (h1:i<cs.size) (h2:i<xs.length),R w0 M w cs[i] xs[i]):R w0 M w (.tuple cs) (.tup xs)
 | nil {o:Own} (ho:∀ id,o ≠ .row id):R w0 M w (.slice none 0 0) (.list [] o)
 | emp {a:Addr} {o:Own} (ho:∀ id,o ≠ .row id):R w0 M w (.slice (some a) 0 0) (.list [] o)
 | list {b off cap:Nat} {xs:List AV} {o:Own} (sz:Nat) (us:Nat→Value) (hc:xs.length≤cap) (hm:cap≤maxLen)
   (hcell:∀ i,i<xs.length→(us i).cells.size=sz∧∀ j,j<sz→M.imm w0 b (off+i*sz+j)∧w.cell? ⟨b,off+i*sz+j,none⟩=(us i).cells[j]?)
   (hu:∀ i (hi:i<xs.length),R w0 M w (us i) xs[i]) (ho:Zbt M b off cap xs.length sz o):R w0 M w (.slice (some ⟨b,off,none⟩) xs.length cap) (.list xs o)
 | elem {b off:Nat} {x:AV} (u:Value) (k:Nat) (hcell:∀ j,j<u.cells.size→M.imm w0 b (off+j)∧w.cell? ⟨b,off+j,none⟩=u.cells[j]?) (hu:R w0 M w u x) :
   R w0 M w (.pointer (some ⟨b,off+k,none⟩)) (.elem x k)
 | box {l off:Nat} (hl:l<M.N):R w0 M w (.pointer (some ⟨M.bx l,off,none⟩)) (.box l off)
 | clo {f:FuncId} {cs:Array Value} {xs:List AV} (hl:cs.size=xs.length) (h:∀ i (h1:i<cs.size) (h2:i<xs.length),R w0 M w cs[i] xs[i]):R w0 M w (.func (.func f) #[] cs) (.clo f xs)
 | yld {k:Nat} (hk:k<M.NL):R w0 M w (.func (.yield (M.lb k)) #[] #[]) (.yld k)
 | vec {id ver o n:Nat} {p:Option Addr} {cap:Nat} (hi:id<M.NR) (hv:ver≤M.fr id) (h:ver=M.fr id→p=some ⟨M.blk id,o*M.rsz id,none⟩∧cap+o=M.cap id∧n≤cap):R w0 M w (.slice p n cap) (.vec id ver o n)
 | vel {id ver off:Nat} {a:Addr} (hi:id<M.NR) (hv:ver≤M.fr id) (h:ver=M.fr id→a=⟨M.blk id,off,none⟩):R w0 M w (.pointer (some a)) (.vel id ver off)
structure Ext (w0:World) (M:Mem) (w:World) (M':Mem) (w':World):Prop where
 N:M.N≤M'.N
 bx:∀ l,l<M.N→M'.bx l=M.bx l
 NR:M.NR≤M'.NR
 rows:∀ id,id<M.NR→M.fr id≤M'.fr id∧(M'.fr id=M.fr id→M'.blk id=M.blk id∧M'.cap id=M.cap id∧M'.rsz id=M.rsz id)
 cell:∀ b off v,M.imm w0 b off→w.cell? ⟨b,off,none⟩=some v→w'.cell? ⟨b,off,none⟩=some v∧M'.imm w0 b off
 size:w.heap.size≤w'.heap.size
 NL:M.NL≤M'.NL
 lb:∀ k,k<M.NL→M'.lb k=M.lb k
 lnew:∀ k,M.NL≤k→k<M'.NL→w.heap.size≤M'.lb k
 objs:∀ b o,w.heap[b]? = some o→o.isCells=false→(∀ k,k<M.NL→M.lb k≠b)→w'.heap[b]? = some o
def KeepsObj (w w':World):Prop:=∀ (b:Nat) (o:Obj),w.heap[b]? = some o→o.isCells=false→w'.heap[b]? = some o
theorem KeepsObj.refl (w:World):KeepsObj w w:=fun _ _ h _=>h
theorem KeepsObj.trans {a b c:World} (h:KeepsObj a b) (k:KeepsObj b c):KeepsObj a c:=fun i o e d=>k i o (h i o e d) d
theorem KeepsObj.alloc (w:World) (o:Obj):KeepsObj w (w.alloc o):=fun b _ h _=>(Below.heap_alloc w o b (Array.getElem?_eq_some_iff.1 h).1).trans h
theorem Ext.refl (w0:World) (M:Mem) (w:World):Ext w0 M w M w :=
 ⟨Nat.le_refl _,fun _ _=>rfl,Nat.le_refl _,fun _ _=>⟨Nat.le_refl _,fun _=>⟨rfl,rfl,rfl⟩⟩,fun _ _ _ h k=>⟨k,h⟩,Nat.le_refl _,Nat.le_refl _,fun _ _=>rfl,fun _ _ _=>by omega,fun _ _ h _ _=>h⟩
theorem Ext.trans {w0:World} {M1 M2 M3:Mem} {w1 w2 w3:World} (h:Ext w0 M1 w1 M2 w2) (k:Ext w0 M2 w2 M3 w3):Ext w0 M1 w1 M3 w3 where
 N:=Nat.le_trans h.N k.N
 bx:=fun l m=>(k.bx l (Nat.lt_of_lt_of_le m h.N)).trans (h.bx l m)
 NR:=Nat.le_trans h.NR k.NR
 rows:=fun id d=>by
  obtain ⟨a1,a2⟩:=h.rows id d
  obtain ⟨D,x⟩:=k.rows id (Nat.lt_of_lt_of_le d h.NR)
  refine ⟨Nat.le_trans a1 D,fun e=>?_⟩
  have r:M2.fr id=M1.fr id:=by omega
  have C:M3.fr id=M2.fr id:=by omega
  obtain ⟨s,y,q⟩:=a2 r
  obtain ⟨t,u,w⟩:=x C
  exact ⟨t.trans s,u.trans y,w.trans q⟩
 cell:=fun b f v a p=>by
  obtain ⟨E,z⟩:=h.cell b f v a p
  exact k.cell b f v z E
 size:=Nat.le_trans h.size k.size
 NL:=Nat.le_trans h.NL k.NL
 lb:=fun i a=>(k.lb i (Nat.lt_of_lt_of_le a h.NL)).trans (h.lb i a)
 lnew:=fun i j g=>by
  by_cases c:i<M2.NL
  ·rw [k.lb i c];exact h.lnew i j c
  ·exact Nat.le_trans h.size (k.lnew i (by omega) g)
 objs:=fun b o j g n=>k.objs b o (h.objs b o j g n) g fun i a=>by
  by_cases c:i<M1.NL
  ·rw [h.lb i c];exact n i c
  ·have:=h.lnew i (by omega) a
   have:=(Array.getElem?_eq_some_iff.1 j).1
   omega
theorem NQ {u:Value} {j:Nat} (h:j<u.cells.size):∃ v,u.cells[j]? = some v:=⟨_,Array.getElem?_eq_getElem h⟩
theorem R.mono {w0:World} {M M':Mem} {w w':World} (hx:Ext w0 M w M' w') {v:Value} {x:AV} (h:R w0 M w v x):R w0 M' w' v x:=by
 induction h with
 | flat h=>exact .flat h
 | agg hl r _ ih=>exact .agg hl r ih
 | tup hl _ ih=>exact .tup hl ih
 | nil ho=>exact .nil ho
 | emp ho=>exact .emp ho
 | @list b off cap xs o sz us hc hm hcell _ ho ih =>
  refine .list sz us hc hm (fun i d=>⟨(hcell i d).1,fun j l=>?_⟩) ih ?_
  ·obtain ⟨g,f⟩:=(hcell i d).2 j l
   obtain ⟨v,hv⟩:=NQ (u:=us i) (j:=j) (by rw [(hcell i d).1];exact l)
   obtain ⟨t,s⟩:=hx.cell _ _ v g (f.trans hv)
   exact ⟨s,t.trans hv.symm⟩
  ·cases o with
   | none=>trivial
   | full=>exact ho
   | seed=>exact ho
   | row id =>
    obtain ⟨r,y,z⟩:=ho
    obtain ⟨q,m⟩:=hx.rows id r
    refine ⟨Nat.lt_of_lt_of_le r hx.NR,Nat.le_trans y q,fun e=>?_⟩
    have C:M'.fr id=M.fr id:=by omega
    obtain ⟨a,b,c⟩:=m C
    rw [a,b,c]
    exact z (by omega)
 | @elem b off x u k hcell _ ih =>
  refine .elem u k (fun j l=>?_) ih
  obtain ⟨g,f⟩:=hcell j l
  obtain ⟨v,hv⟩:=NQ (u:=u) (j:=j) l
  obtain ⟨t,s⟩:=hx.cell _ _ v g (f.trans hv)
  exact ⟨s,t.trans hv.symm⟩
 | box hl=>rw [←hx.bx _ hl];exact .box (Nat.lt_of_lt_of_le hl hx.N)
 | clo hl _ ih=>exact .clo hl ih
 | yld hk=>rw [←hx.lb _ hk];exact .yld (Nat.lt_of_lt_of_le hk hx.NL)
 | @vec id ver o n p cap d hv h =>
  obtain ⟨q,m⟩:=hx.rows id d
  refine .vec (Nat.lt_of_lt_of_le d hx.NR) (Nat.le_trans hv q) (fun e=>?_)
  obtain ⟨q1,q2,q3⟩:=m (by omega)
  rw [q1,q2,q3]
  exact h (by omega)
 | @vel id ver off a d hv h =>
  obtain ⟨q,m⟩:=hx.rows id d
  refine .vel (Nat.lt_of_lt_of_le d hx.NR) (Nat.le_trans hv q) (fun e=>?_)
  obtain ⟨q1,q2,q3⟩:=m (by omega)
  rw [q1]
  exact h (by omega)
theorem R.cells {w0:World} {M:Mem} {w:World} {v:Value} {x:AV} (h:R w0 M w v x) :
  v.cells.size=x.cells.length∧∀ i (h1:i<v.cells.size) (h2:i<x.cells.length),R w0 M w v.cells[i] x.cells[i]:=by
 have one:∀ (u:Value) (y:AV),u.cells = #[u]→y.cells=[y]→R w0 M w u y →
   u.cells.size=y.cells.length∧∀ i (h1:i<u.cells.size) (h2:i<y.cells.length),R w0 M w u.cells[i] y.cells[i]:=by
  intro u y a b c
  rw [a,b]
  refine ⟨rfl,fun i h1 h2=>?_⟩
  have:i=0:=by simp at h2;exact h2
  subst this
  exact c
 cases h with
 | agg hl _ h=>exact ⟨hl,h⟩
 | flat hf=>exact one _ _ (by cases v<;>first | rfl | simp [FB] at hf) rfl (.flat hf)
 | tup hl h=>exact one _ _ rfl rfl (.tup hl h)
 | nil ho=>exact one _ _ rfl rfl (.nil ho)
 | emp ho=>exact one _ _ rfl rfl (.emp ho)
 | list sz us hc hm hcell a ho=>exact one _ _ rfl rfl (.list sz us hc hm hcell a ho)
 | elem u k hcell a=>exact one _ _ rfl rfl (.elem u k hcell a)
 | box hl=>exact one _ _ rfl rfl (.box hl)
 | clo hl h=>exact one _ _ rfl rfl (.clo hl h)
 | yld hk=>exact one _ _ rfl rfl (.yld hk)
 | vec hi hv h=>exact one _ _ rfl rfl (.vec hi hv h)
 | vel hi hv h=>exact one _ _ rfl rfl (.vel hi hv h)
theorem R.oneCell {w0:World} {M:Mem} {w:World} {v:Value} {x:AV} (h:R w0 M w v x) (hx:x.one=true):v.oneCell'=true:=by
 cases h with
 | agg=>cases hx
 | flat hf=>cases v<;>first | rfl | simp [FB] at hf
 | tup=>cases hx
 | _=>rfl
theorem R.cellsOne {w0:World} {M:Mem} {w:World} {v:Value} {x:AV} (h:R w0 M w v x) (ht:∀ vs,x ≠ .tup vs):∀ c∈x.cells,c.one=true:=by
 cases h with
 | agg hl h1 h=>exact h1
 | tup=>exact absurd rfl (ht _)
 | _=>intro c hc;simp only [AV.cells,List.mem_singleton] at hc;subst hc;rfl
theorem R.isAgg {w0:World} {M:Mem} {w:World} {v:Value} {xs:List AV} (h:R w0 M w v (.agg xs)):∃ cs,v = .agg cs:=by
 cases h with
 | agg hl h1 h=>exact ⟨_,rfl⟩
theorem R.cells_one {w0:World} {M:Mem} {w:World} {v:Value} {x:AV} (h:R w0 M w v x) (hx:x.one=true):v.cells = #[v]∧x.cells=[x]:=by
 cases h with
 | agg=>cases hx
 | flat hf=>exact ⟨by cases v<;>first | rfl | simp [FB] at hf,rfl⟩
 | tup=>cases hx
 | _=>exact ⟨rfl,rfl⟩
def AV.pubCell:AV→AV
 | .list xs _ => .list xs .none
 | x=>x
def AV.pub:AV→AV
 | .agg cs => .agg (cs.map AV.pubCell)
 | .list xs _ => .list xs .none
 | x=>x
theorem R.pubCell {w0:World} {M:Mem} {w:World} {v:Value} {x:AV} (h:R w0 M w v x):R w0 M w v x.pubCell:=by
 cases h with
 | nil ho=>exact .nil (fun id=>by simp)
 | emp ho=>exact .emp (fun id=>by simp)
 | list sz us hc hm hcell hu ho=>exact .list sz us hc hm hcell hu trivial
 | flat hf=>exact .flat hf
 | agg hl h1 h=>exact .agg hl h1 h
 | tup hl h=>exact .tup hl h
 | elem u k hcell hu=>exact .elem u k hcell hu
 | box hl=>exact .box hl
 | clo hl h=>exact .clo hl h
 | yld hk=>exact .yld hk
 | vec hi hv h=>exact .vec hi hv h
 | vel hi hv h=>exact .vel hi hv h
theorem AV.one_pubCell (x:AV):x.pubCell.one=x.one:=by cases x<;>rfl
theorem R.pub {w0:World} {M:Mem} {w:World} {v:Value} {x:AV} (h:R w0 M w v x):R w0 M w v x.pub:=by
 cases h with
 | nil ho=>exact .nil (fun id=>by simp)
 | emp ho=>exact .emp (fun id=>by simp)
 | list sz us hc hm hcell hu ho=>exact .list sz us hc hm hcell hu trivial
 | flat hf=>exact .flat hf
 | agg hl h1 h=>exact .agg (by simpa using hl) (fun x c=>by obtain ⟨y,d,rfl⟩:=List.mem_map.1 c;rw [AV.one_pubCell];exact h1 y d) (fun i a b=>by simp only [List.getElem_map];exact (h i a (by simpa using b)).pubCell)
 | tup hl h=>exact .tup hl h
 | elem u k hcell hu=>exact .elem u k hcell hu
 | box hl=>exact .box hl
 | clo hl h=>exact .clo hl h
 | yld hk=>exact .yld hk
 | vec hi hv h=>exact .vec hi hv h
 | vel hi hv h=>exact .vel hi hv h
theorem AV.pub_cells_length (x:AV):x.pub.cells.length=x.cells.length:=by cases x<;>simp [AV.pub,AV.cells]
def GK (P:Program) (t:TypeId):Option (Nat × Bool) :=
 match P.info? t,P.underlying t with
 | some i,some d=>some (i.size,match d with | .struct _ | .array _ _=>true | _=>false)
 | _,_=>none
def CE (P:Program) (t:TypeId) (f:Nat):Option (Nat × Nat × Bool) :=
 match P.underlying t with
 | some (.struct fs)=>match fs[f]? with
  | some x=>(GK P x.type).map fun (s,a)=>(x.offset,s,a)
  | none=>none
 | _=>none
def KA (P:Program) (t:TypeId):Option (TypeId × Nat × Bool × Nat) :=
 match P.underlying t with
 | some (.slice e)=>match P.info? e,GK P e with
  | some i,some (s,a)=>some (e,s,a,i.bytes)
  | _,_=>none
 | _=>none
def EE (P:Program) (t:TypeId):Option (Nat × Nat × Bool) :=
 match P.underlying t with
 | some (.array n e)=>(GK P e).map fun (s,a)=>(n,s,a)
 | _=>none
def Ej (P:Program) (t:TypeId):Bool :=
 match P.underlying t with | some .string=>true | _=>false
def Jn (P:Program) (t:TypeId):Bool :=
 match P.underlying t with
 | some (.slice e)=>(match P.underlying e with | some (.int .u8)=>true | _=>false)&&(match GK P e with | some (1,false)=>true | _=>false)
 | _=>false
def M6 (P:Program) (t:TypeId):Option IntKind :=
 match P.underlying t with | some (.int k)=>some k | _=>none
def Me:Value→AV
 | .slice none 0 0 => .list [] .full
 | v => .val v
def H8:Value→AV
 | .agg cs => .agg (cs.toList.map Me)
 | v=>Me v
def Oz:Value→Bool
 | .slice none 0 0=>true
 | v=>FB v
def NY:Value→Bool
 | .agg cs=>cs.toList.all Oz
 | v=>Oz v
def BA (P:Program) (t:TypeId):Option (List AV) :=
 match P.info? t with
 | some i=>match i.zero with
  | some z=>if NY z&&z.cells.size == i.size then some (H8 z).cells else none
  | none=>none
 | none=>none
abbrev Env:=List (Nat × Bool × AV)
def look:Env→Nat→Option (Bool × AV)
 | [],_=>none
 | (k,c,v)::r,s=>if k=s then some (c,v) else look r s
def Du:List Nat→Env→Env
 | [],_=>[]
 | s::K,e=>match look e s with
  | some (c,v)=>(s,c,v)::Du K e
  | none=>Du K e
def Az (e:Env):Operand→AV
 | .tmp t=>match look e t with | some (_,v)=>v | none => .junk
 | .const v=>H8 v
 | .func f => .clo f []
 | .global _ => .junk
def AH (e:Env) (c:Bool):Operand→Prop
 | .tmp t=>match look e t with | some (c',_)=>(c=true→c'=true) | none=>False
 | .const v=>NY v=true
 | .func _=>True
 | .global _=>False
def Ji:AV→Bool
 | .val (.bool b)=>b
 | _=>false
def Ui:AV→Bool
 | .val (.bool _)=>true
 | _=>false
def AV.sel (t:Bool):AV→AV→AV
 | .val (.bool x),.val (.bool y) => .val (.bool (if t then x else y))
 | a,b=>if t then a else b
def CM (l:List AV) (off:Nat) (xs:List AV):List AV:=l.take off++xs++l.drop (off+xs.length)
def Ya (l:List AV) (i:Nat):AV:=l.getD i .junk
def O8 (P:Program):List Field→Option (List (Nat × Nat))
 | []=>some []
 | f::fs=>match P.info? f.type,O8 P fs with
  | some i,some r=>some ((f.offset,i.size)::r)
  | _,_=>none
def Cm (P:Program) (t:TypeId):Option (List (Nat × Nat)) :=
 match P.underlying t with
 | some (.struct fs)=>O8 P fs.toList
 | _=>none
def J9 (P:Program) (t:TypeId) (i:Nat):Option (Nat × Nat) :=
 match Cm P t with
 | some l=>l[i]?
 | none=>match EE P t with
  | some (_,s,_)=>some (i*s,s)
  | none=>none
def QL (P:Program) (t:TypeId):List AV→List (Nat × AV)→List AV
 | cs,[]=>cs
 | cs,(i,x)::r=>match J9 P t i with
  | some (o,_)=>QL P t (CM cs o x.cells) r
  | none=>cs
def O1 (P:Program) (t:TypeId):Nat→List (Nat × AV)→Prop
 | _,[]=>True
 | n,(i,x)::r=>(match J9 P t i with
  | some (o,s)=>x.cells.length=s∧o+s≤n
  | none=>False)∧O1 P t n r
def AX:AV→Bool
 | .tup _=>false
 | _=>true
def Fp:AV→Bool
 | .agg _=>true
 | _=>false
def inK:IntKind→Int→Prop
 | .i8,n => -128≤n∧n≤127
 | .i16,n => -32768≤n∧n≤32767
 | .i32,n => -2147483648≤n∧n≤2147483647
 | .i64,n => -9223372036854775808≤n∧n≤9223372036854775807
 | .u8,n=>0≤n∧n≤255
 | .u16,n=>0≤n∧n≤65535
 | .u32,n=>0≤n∧n≤4294967295
 | .u64,n=>0≤n∧n≤18446744073709551615
def GP (x y:ByteArray):Bool:=x.data.toList == y.data.toList
def ZP (x y:ByteArray):Bool:=Op.bytesLess x.data.toList y.data.toList
def evBin:BinOp→Value→Value→Prop × Value
 | .add,.int k a,.int k' b=>(k=k'∧inK k (a+b),.int k (a+b))
 | .sub,.int k a,.int k' b=>(k=k'∧inK k (a-b),.int k (a-b))
 | .mul,.int k a,.int k' b=>(k=k'∧inK k (a*b),.int k (a*b))
 | .quo,.int k a,.int k' b=>(k=k'∧b≠0∧inK k (a.tdiv b),.int k (a.tdiv b))
 | .rem,.int k a,.int k' b=>(k=k'∧b≠0,.int k (a.tmod b))
 | .eql,.int k a,.int k' b=>(k=k',.bool (decide (a=b)))
 | .neq,.int k a,.int k' b=>(k=k',.bool (!decide (a=b)))
 | .lss,.int k a,.int k' b=>(k=k',.bool (decide (a<b)))
 | .leq,.int k a,.int k' b=>(k=k',.bool (decide (a≤b)))
 | .gtr,.int k a,.int k' b=>(k=k',.bool (decide (b<a)))
 | .geq,.int k a,.int k' b=>(k=k',.bool (decide (b≤a)))
 | .add,.string x,.string y=>(x.size+y.size≤9223372036854775807,.string (x++y))
 | .eql,.string x,.string y=>(True,.bool (GP x y))
 | .neq,.string x,.string y=>(True,.bool (!GP x y))
 | .lss,.string x,.string y=>(True,.bool (ZP x y))
 | .leq,.string x,.string y=>(True,.bool (ZP x y||GP x y))
 | .gtr,.string x,.string y=>(True,.bool (!(ZP x y||GP x y)))
 | .geq,.string x,.string y=>(True,.bool (!ZP x y))
 | .shr,.int k a,.int _ b=>(b=1∧0≤a,.int k (a / 2))
 | _,_,_=>(False,undef)
def evBB:BinOp→Bool→Bool→Prop × Bool
 | .eql,a,b=>(True,a == b)
 | .neq,a,b=>(True,a != b)
 | _,_,_=>(False,false)
def Lr (P:Program) (t:TypeId):Bool :=
 match P.underlying t with | some .bool=>true | _=>false
def Kq (P:Program) (t:TypeId):AV→AV→Prop
 | .val (.int k _),.val (.int k' _)=>(M6 P t).isSome=true∧k=k'
 | .val (.string _),.val (.string _)=>Ej P t=true
 | .val (.bool _),.val (.bool _)=>Lr P t=true
 | _,_=>False
def eqCell:AV→AV→Bool
 | .val (.int _ a),.val (.int _ b)=>decide (a=b)
 | .val (.string a),.val (.string b)=>GP a b
 | .val (.bool a),.val (.bool b)=>a == b
 | _,_=>false
def MX:List AV→List AV→Bool
 | [],[]=>true
 | x::xs,y::ys=>eqCell x y&&MX xs ys
 | _,_=>false
def V5 (P:Program):List Field→Nat→List AV→List AV→Prop
 | [],_,[],[]=>True
 | f::fs,i,x::xs,y::ys=>f.name ≠ "_" ∧ f.offset=i∧GK P f.type=some (1,false)∧Kq P f.type x y∧V5 P fs (i+1) xs ys
 | _,_,_,_=>False
def eqT (P:Program) (t:TypeId):Option (List Field) :=
 match P.underlying t with
 | some (.struct fs)=>if P.stoodInHeld t=false∧P.eqGuardType P.depth t=false then some fs.toList else none
 | _=>none
def MR (P:Program) (op:BinOp) (t:TypeId) (xs ys:List AV):Prop × Bool :=
 match eqT P t,op with
 | some fs,.eql=>(V5 P fs 0 xs ys,MX xs ys)
 | some fs,.neq=>(V5 P fs 0 xs ys,!MX xs ys)
 | _,_=>(False,false)
def Ly:AV→List AV
 | .agg xs=>xs
 | _=>[]
def evUn:UnOp→Value→Prop × Value
 | .not,.bool b=>(True,.bool (!b))
 | .neg,.int k a=>(inK k (0-a),.int k (0-a))
 | _,_=>(False,undef)
def GA:AV→Value
 | .val v=>v
 | _=>undef
def EU:AV→Bool
 | .val _=>true
 | _=>false
def AD:AV→Int
 | .val (.int _ n)=>n
 | _=>0
def JF:AV→IntKind
 | .val (.int k _)=>k
 | _ => .i64
def Dt:AV→Bool
 | .val (.int _ _)=>true
 | _=>false
def AM:AV→List AV
 | .list xs _=>xs
 | _=>[]
def Bv:AV→Bool
 | .list _ _=>true
 | _=>false
def MN:AV→Bool
 | .val (.string _)=>true
 | _=>false
def Zbz:AV→ByteArray
 | .val (.string s)=>s
 | _ => .empty
def To:AV→Prop
 | .val (.int .u8 n)=>0≤n∧n≤255
 | _=>False
def F6 (xs:List AV):ByteArray:=⟨(xs.map fun x=>UInt8.ofNat (AD x).toNat).toArray⟩
def F4 (l:List UInt8):List AV:=l.map fun b => .val (.int .u8 b.toNat)
def Ey (rows:Av) (id ver:Nat):Option (Nat × List AV) :=
 match rows[id]? with
 | some (.vec v sz cs)=>if v=ver then some (sz,cs) else none
 | _=>none
def A6 (st:St):AV→List AV
 | .box l _=>st.boxes.getD l []
 | .elem x _=>x.cells
 | .vel id ver _=>match Ey st.rows id ver with | some (_,cs)=>cs | none=>[]
 | _=>[]
def DR:AV→Nat
 | .box _ o=>o
 | .elem _ o=>o
 | .vel _ _ o=>o
 | _=>0
def C7 (st:St):AV→Bool
 | .box l _=>decide (l<st.boxes.length)
 | .elem (.tup _) _=>false
 | .elem _ _=>true
 | .vel id ver _=>(Ey st.rows id ver).isSome
 | _=>false
def P8 (x:AV) (n:Nat):AV :=
 match x with
 | .box l o => .box l (o+n)
 | .elem y o => .elem y (o+n)
 | .vel id ver o => .vel id ver (o+n)
 | x=>x
def Og (agg:Bool) (cs:List AV) (off sz:Nat):AV:=if agg then .agg ((cs.drop off).take sz) else Ya cs off
def RV (st:St) (a:AV) (xs:List AV):St :=
 match a with
 | .box l o=>{ st with boxes:=st.boxes.set l (CM (st.boxes.getD l []) o xs) }
 | .vel id ver o=>match Ey st.rows id ver with
  | some (sz,cs)=>{ st with rows:=st.rows.set id (.vec ver sz (CM cs o xs)) }
  | none=>st
 | _=>st
def Nj:AV→Bool
 | .box _ _=>true
 | .vel _ _ _=>true
 | _=>false
def Up (P:Program) (t:TypeId) (x:AV):Prop × AV :=
 match x with
 | .val (.string s)=>(Ej P t=true,.val (.int .i64 s.size))
 | .list xs _=>((KA P t).isSome=true,.val (.int .i64 xs.length))
 | .vec _ _ _ n=>((KA P t).isSome=true,.val (.int .i64 n))
 | _=>(False,.junk)
def CC (P:Program) (el sz by8:Nat) (n:Nat) (xs:List AV):Prop :=
 0<sz∧(BA P el).isSome=true∧(n+xs.length)*by8≤140737488355328∧n+xs.length≤4611686018427387904∧(∀ y∈xs,y.cells.length=sz∧AX y=true)
def BD (P:Program) (st:St) (t:TypeId) (s x:AV):Prop × AV × St :=
 match KA P t with
 | some (el,sz,_,by8) =>
  match s with
  | .list ys .full=>if (AM x).length=0 then (Bv x=true∧0<sz,.list ys .full,st)
   else (Bv x=true∧CC P el sz by8 ys.length (AM x)∧(∀ y∈ys,y.cells.length=sz),.list (ys++(AM x).map AV.pub) (.row st.rows.length),{ st with rows:=st.rows++[.grow (ys.length+(AM x).length) sz] })
  | .list ys (.row id)=>(Bv x=true∧CC P el sz by8 ys.length (AM x)∧(∀ y∈ys,y.cells.length=sz)∧st.rows[id]? = some (.grow ys.length sz),.list (ys++(AM x).map AV.pub) (.row id),{ st with rows:=st.rows.set id (.grow (ys.length+(AM x).length) sz) })
  | .list ys .seed=>if (AM x).length=0 then (Bv x=true∧0<sz,.list ys .seed,st)
   else (Bv x=true∧CC P el sz by8 0 (AM x)∧ys.length=0∧0<(AM x).length,.vec st.rows.length 0 0 (AM x).length,{ st with rows:=st.rows++[.vec 0 sz ((AM x).flatMap fun y=>y.pub.cells)] })
  | .vec id ver o n=>match Ey st.rows id ver with
   | some (sz',cs)=>(Bv x=true∧CC P el sz by8 n (AM x)∧sz'=sz∧o=0∧n*sz≤cs.length,.vec id (ver+1) 0 (n+(AM x).length),{ st with rows:=st.rows.set id (.vec (ver+1) sz (cs.take (n*sz)++(AM x).flatMap fun y=>y.pub.cells)) })
   | none=>(False,.junk,st)
  | _=>(False,.junk,st)
 | none=>(False,.junk,st)
def B7 (e:Env) (d:Int):Option Operand→Int
 | some y=>AD (Az e y)
 | none=>d
def MS (e:Env) (c:Bool):Option Operand→Prop
 | some y=>AH e c y∧Dt (Az e y)=true
 | none=>True
def Sz (st:St) (x:Prop × AV × St):Prop × AV × St:=(x.1,x.2.1,st)
def Iz (e:Env) (t:TypeId):Bool :=
 match look e (1000000+t) with
 | some _=>true
 | none=>false
def V3 (P:Program) (t:TypeId):Bool :=
 match P.underlying t with | some (.interface _)=>true | _=>false
def FT:Value→Bool
 | .nilIface=>true
 | _=>false
def Pq:Value→Bool
 | .nilIface=>true
 | .iface _ _=>true
 | _=>false
def RH:Operand→Bool
 | .const v=>FT v
 | .tmp _=>false
 | .func _=>false
 | .global _=>false
def RN:BinOp→Value→Prop × Bool
 | .eql,v=>(Pq v=true,FT v)
 | .neq,v=>(Pq v=true,!FT v)
 | _,_=>(False,false)
def AZ (P:Program) (e:Env) (c:Bool) (st:St):Op→Prop × AV × St
 | .move x | .assign x=>(AH e c x,Az e x,st)
 | .pick b x y=>(AH e c b∧Ui (Az e b)=true∧(c=true→Ji (Az e b)=true→AH e true x)∧(c=true→Ji (Az e b)=false→AH e true y),AV.sel (Ji (Az e b)) (Az e x) (Az e y),st)
 | .alloc t=>match BA P t with
  | some z=>(c=true,.box st.boxes.length 0,{ st with boxes:=st.boxes++[z] })
  | none=>(False,.junk,st)
 | .box _ x=>(c=true∧AH e c x∧AX (Az e x)=true,.box st.boxes.length 0,{ st with boxes:=st.boxes++[(Az e x).cells] })
 | .build t ps=>match BA P t with
  | some z=>(((Cm P t).isSome=true∨(EE P t).isSome=true)∧(∀ p∈ps.toList,AH e c p.2∧AX (Az e p.2)=true)∧O1 P t z.length (ps.toList.map fun p=>(p.1,Az e p.2)),.agg (QL P t z (ps.toList.map fun p=>(p.1,Az e p.2))),st)
  | none=>(False,.junk,st)
 | .buildSlice t n ps =>
  let vs:=ps.toList.map fun p=>Az e p.2
  match KA P t with
  | some (el,sz,_,_)=>match Iz e t with
   | false=>((∀ p∈ps.toList,AH e c p.2)∧ps.toList.map (·.1)=List.range n∧n*sz≤16777216∧0<sz∧(BA P el).isSome=true∧(∀ x∈vs,x.cells.length=sz),.list (vs.map AV.pub) .full,st)
   | true=>(c=true∧(∀ p∈ps.toList,AH e c p.2)∧ps.toList.map (·.1)=List.range n∧n*sz≤16777216∧0<sz∧(BA P el).isSome=true∧(∀ x∈vs,x.cells.length=sz)∧(∀ x∈vs,AX x=true),.vec st.rows.length 0 0 n,{ st with rows:=st.rows++[.vec 0 sz (vs.flatMap fun x=>x.pub.cells)] })
  | none=>(False,.junk,st)
 | .load t a=>match GK P t with
  | some (sz,ag)=>(AH e c a∧C7 st (Az e a)=true∧DR (Az e a)+sz≤(A6 st (Az e a)).length∧(ag=true∨sz=1),Og ag (A6 st (Az e a)) (DR (Az e a)) sz,st)
  | none=>(False,.junk,st)
 | .store t a v=>match GK P t with
  | some (sz,_)=>(c=true∧AH e c a∧AH e c v∧Nj (Az e a)=true∧C7 st (Az e a)=true∧AX (Az e v)=true∧(Az e v).cells.length=sz∧DR (Az e a)+sz≤(A6 st (Az e a)).length,.junk,RV st (Az e a) (Az e v).cells)
  | none=>(False,.junk,st)
 | .nilCheck x=>(AH e c x∧C7 st (Az e x)=true,Az e x,st)
 | .binOp op t x y _=>if Ui (Az e x)&&Ui (Az e y) then (AH e c x∧AH e c y∧Lr P t=true∧(evBB op (Ji (Az e x)) (Ji (Az e y))).1,.val (.bool (evBB op (Ji (Az e x)) (Ji (Az e y))).2),st)
  else if Fp (Az e x)&&Fp (Az e y) then (AH e c x∧AH e c y∧(MR P op t (Ly (Az e x)) (Ly (Az e y))).1,.val (.bool (MR P op t (Ly (Az e x)) (Ly (Az e y))).2),st)
  else if RH y then (AH e c x∧EU (Az e x)=true∧V3 P t=true∧(RN op (GA (Az e x))).1,.val (.bool (RN op (GA (Az e x))).2),st)
  else (AH e c x∧AH e c y∧EU (Az e x)=true∧EU (Az e y)=true∧(evBin op (GA (Az e x)) (GA (Az e y))).1,.val (evBin op (GA (Az e x)) (GA (Az e y))).2,st)
 | .unOp op _ x=>(AH e c x∧EU (Az e x)=true∧(evUn op (GA (Az e x))).1,.val (evUn op (GA (Az e x))).2,st)
 | .convert s d x=>match M6 P s,M6 P d with
  | some _,some k=>(AH e c x∧Dt (Az e x)=true∧inK k (AD (Az e x)),.val (.int k (AD (Az e x))),st)
  | some _,none=>(AH e c x∧Dt (Az e x)=true∧Ej P d=true,.val (.string (Utf8.encode (AD (Az e x)))),st)
  | none,_=>if Ej P s&&Ej P d then (AH e c x∧MN (Az e x)=true,Az e x,st)
   else if Jn P s&&Ej P d then match Az e x with
    | .vec id ver o n=>match Ey st.rows id ver with
     | some (sz',cs)=>(AH e c x∧sz'=1∧o+n≤cs.length∧n≤9223372036854775807∧(∀ y∈(cs.drop o).take n,To y),.val (.string (F6 ((cs.drop o).take n))),st)
     | none=>(False,.junk,st)
    | _=>(AH e c x∧Bv (Az e x)=true∧(AM (Az e x)).length≤9223372036854775807∧(∀ y∈AM (Az e x),To y),.val (.string (F6 (AM (Az e x)))),st)
   else if Ej P s&&Jn P d then (c=true∧AH e c x∧MN (Az e x)=true,.list (F4 (Zbz (Az e x)).data.toList) .none,st)
   else (False,.junk,st)
 | .makeFunc (.func f) fi cap=>(fi.size=0∧(∀ x∈cap.toList,AH e c x),.clo f (cap.toList.map (Az e)),st)
 | .makeSlice t len cap=>match KA P t with
  | some (el,sz,_,by8)=>match BA P el with
   | some z=>(c=true∧AH e c len∧AH e c cap∧Dt (Az e len)=true∧Dt (Az e cap)=true∧0≤AD (Az e len)∧AD (Az e len)≤AD (Az e cap)∧AD (Az e cap)*by8≤140737488355328∧AD (Az e cap)≤4611686018427387904∧0<sz∧z.length=sz∧(AD (Az e len)=0∨Iz e t=true∨sz=1),
     if AD (Az e len)=0 then .list [] (.row st.rows.length) else if Iz e t=true then .vec st.rows.length 0 0 (AD (Az e len)).toNat else .list (List.replicate (AD (Az e len)).toNat (Ya z 0)) .none,
     if AD (Az e len)=0 then { st with rows:=st.rows++[.grow 0 sz] } else if Iz e t=true then { st with rows:=st.rows++[.vec 0 sz ((List.replicate (AD (Az e len)).toNat z).flatten)] } else st)
   | none=>(False,.junk,st)
  | none=>(False,.junk,st)
 | .slice t x lo hi mx=>match Az e x with
  | .vec id ver o n=>match KA P t,Ey st.rows id ver with
   | some (_,sz,_,_),some (sz',_)=>(AH e c x∧MS e c lo∧MS e c hi∧mx.isNone=true∧0≤B7 e 0 lo∧B7 e 0 lo≤B7 e n hi∧B7 e n hi≤n∧(B7 e 0 lo=0∨B7 e 0 lo<n)∧sz'=sz,.vec id ver (o+(B7 e 0 lo).toNat) ((B7 e n hi).toNat-(B7 e 0 lo).toNat),st)
   | _,_=>(False,.junk,st)
  | .val (.string s) =>
   (Ej P t=true∧AH e c x∧MS e c lo∧MS e c hi∧mx.isNone=true∧0≤B7 e 0 lo∧B7 e 0 lo≤B7 e s.size hi∧B7 e s.size hi≤s.size,.val (.string (s.extract (B7 e 0 lo).toNat (B7 e s.size hi).toNat)),st)
  | .list xs _=>match KA P t with
   | some (_,sz,_,_)=>match mx with
    | none=>(AH e c x∧MS e c lo∧MS e c hi∧0≤B7 e 0 lo∧B7 e 0 lo≤B7 e xs.length hi∧B7 e xs.length hi≤xs.length∧(B7 e 0 lo=0∨∀ y∈xs,y.cells.length=sz),.list ((xs.take (B7 e xs.length hi).toNat).drop (B7 e 0 lo).toNat) .none,st)
    | some m=>(AH e c x∧MS e c lo∧MS e c hi∧MS e c (some m)∧B7 e 0 lo=0∧B7 e 1 hi=0∧B7 e 1 (some m)=0,.list [] .full,st)
   | none=>(False,.junk,st)
  | _=>(False,.junk,st)
 | .fieldAddr t x f=>match CE P t f with
  | some (o,sz,_)=>(AH e c x∧C7 st (Az e x)=true∧0<sz,P8 (Az e x) o,st)
  | none=>(False,.junk,st)
 | .field t x f=>match CE P t f with
  | some (o,sz,ag)=>(AH e c x∧Fp (Az e x)=true∧o+sz≤(Az e x).cells.length∧(ag=true∨sz=1),Og ag (Az e x).cells o sz,st)
  | none=>(False,.junk,st)
 | .indexAddr t x i=>Sz st <| match KA P t with
  | some (_,sz,_,_)=>match Az e x with
   | .vec id ver o n=>match Ey st.rows id ver with
    | some (sz',_)=>(AH e c x∧AH e c i∧Dt (Az e i)=true∧0≤AD (Az e i)∧AD (Az e i)<n∧sz'=sz,.vel id ver ((o+(AD (Az e i)).toNat)*sz),st)
    | none=>(False,.junk,st)
   | _=>(AH e c x∧AH e c i∧Bv (Az e x)=true∧Dt (Az e i)=true∧0≤AD (Az e i)∧AD (Az e i)<(AM (Az e x)).length∧(Ya (AM (Az e x)) (AD (Az e i)).toNat).cells.length=sz,.elem (Ya (AM (Az e x)) (AD (Az e i)).toNat) 0,st)
  | none=>match EE P t with
   | some (n,sz,_)=>(AH e c x∧AH e c i∧C7 st (Az e x)=true∧Dt (Az e i)=true∧0≤AD (Az e i)∧AD (Az e i)<n,P8 (Az e x) ((AD (Az e i)).toNat*sz),st)
   | none=>(False,.junk,st)
 | .index t x i=>Sz st <| match Az e x with
  | .val (.string s)=>(Ej P t=true∧AH e c x∧AH e c i∧Dt (Az e i)=true∧0≤AD (Az e i)∧AD (Az e i)<s.size,.val (.int .u8 (s.get! (AD (Az e i)).toNat).toNat),st)
  | .agg cs=>match EE P t with
   | some (n,sz,ag)=>(AH e c x∧AH e c i∧Dt (Az e i)=true∧0≤AD (Az e i)∧AD (Az e i)<n∧cs.length=n*sz∧(ag=true∨sz=1),Og ag cs ((AD (Az e i)).toNat*sz) sz,st)
   | none=>(False,.junk,st)
  | _=>(False,.junk,st)
 | .extract x i=>Sz st <| match Az e x with
  | .tup vs=>(AH e c x∧i<vs.length,Ya vs i,st)
  | _=>(False,.junk,st)
 | .call ⟨.builtin .len,args,ts⟩=>match args.toList,ts.toList with
  | [x],[t]=>(AH e c x∧(Up P t (Az e x)).1,(Up P t (Az e x)).2,st)
  | _,_=>(False,.junk,st)
 | .call ⟨.builtin .append,args,ts⟩=>match args.toList,ts.toList with
  | [s,x],[t,t']=>(c=true∧AH e c s∧AH e c x∧t=t'∧(BD P st t (Az e s) (Az e x)).1,(BD P st t (Az e s) (Az e x)).2)
  | _,_=>(False,.junk,st)
 | .call ⟨.builtin .min,args,_⟩=>match args.toList with
  | [x,y]=>(AH e c x∧AH e c y∧Dt (Az e x)=true∧Dt (Az e y)=true∧True,.val (.int (JF (Az e x)) (if AD (Az e y)<AD (Az e x) then AD (Az e y) else AD (Az e x))),st)
  | _=>(False,.junk,st)
 | .call ⟨.builtin .max,args,_⟩=>match args.toList with
  | [x,y]=>(AH e c x∧AH e c y∧Dt (Az e x)=true∧Dt (Az e y)=true,.val (.int (JF (Az e x)) (if AD (Az e x)<AD (Az e y) then AD (Az e y) else AD (Az e x))),st)
  | _=>(False,.junk,st)
 | _=>(False,.junk,st)
def entryOk (w0:World) (M:Mem) (w:World) (v:Value) (x:Bool × AV):Prop:=if x.1=true then R w0 M w v x.2 else v=undef
structure LoopSt (w0:World) (M:Mem) (w:World) (ls:As):Prop where
 NL:M.NL=ls.length
 inj:∀ k k',k<M.NL→k'<M.NL→M.lb k=M.lb k'→k=k'
 record:∀ k la,ls[k]? = some la→w0.heap.size≤M.lb k∧∃ r:Loop,w.heap[M.lb k]? = some (.loop r)∧r.state=la.st∧r.pending=la.pend∧r.params=la.ps∧r.assign=la.asg∧r.body=la.body ∧
  r.tmps.size=la.n∧∀ s x,look la.e s=some x→entryOk w0 M w (r.tmps.getD s undef) x
theorem entryOk.mono {w0:World} {M M':Mem} {w w':World} (hx:Ext w0 M w M' w') {v:Value} {x:Bool × AV} (h:entryOk w0 M w v x):entryOk w0 M' w' v x:=by
 unfold entryOk at *
 split
 ·rename_i c;rw [Ai c] at h;exact h.mono hx
 ·rename_i c;rw [Aj c] at h;exact h
theorem LoopSt.mono {w0:World} {M M':Mem} {w w':World} {ls:List LoopA} (h:LoopSt w0 M w ls) (hx:Ext w0 M w M' w') (hN:M'.NL=M.NL) (hk:KeepsObj w w'):LoopSt w0 M' w' ls where
 NL:=hN.trans h.NL
 inj:=fun k c f d e=>h.inj k c (hN▸f) (hN▸d) (by rw [hx.lb k (hN▸f),hx.lb c (hN▸d)] at e;exact e)
 record:=fun k j a=>by
  have b:k<M.NL:=by rw [h.NL];exact (Ak.1 a).1
  obtain ⟨a1,r,a2,a3,a4,a5,a6,a7,i,g⟩:=h.record k j a
  rw [hx.lb k b]
  exact ⟨a1,r,hk _ _ a2 rfl,a3,a4,a5,a6,a7,i,fun s x hs=>(g s x hs).mono hx⟩
def RowOk (w0:World) (M:Mem) (w:World) (id:Nat):RowA→Prop
 | .grow n sz=>M.fr id=n∧M.rsz id=sz∧w0.heap.size≤M.blk id∧M.top (M.blk id)=n*sz∧(∀ l,l<M.N→M.bx l≠M.blk id)∧M.cap id≤maxLen∧n≤M.cap id ∧
  ∃ c ty,w.heap[M.blk id]? = some (.cells c ty (0,0))∧c.size=M.cap id*sz
 | .vec ver sz cs=>M.fr id=ver∧M.rsz id=sz∧w0.heap.size≤M.blk id∧M.top (M.blk id)=0∧(∀ l,l<M.N→M.bx l≠M.blk id)∧M.cap id≤maxLen∧0<sz ∧
  ∃ c ty,w.heap[M.blk id]? = some (.cells c ty (0,0))∧c.size=M.cap id*sz∧cs.length≤c.size∧(∀ x∈cs,x.one=true)∧∀ i (h1:i<c.size) (h2:i<cs.length),R w0 M w c[i] cs[i]
 | .dead ver=>M.fr id=ver∧w0.heap.size≤M.blk id∧(∀ l,l<M.N→M.bx l≠M.blk id)∧M.blk id<w.heap.size
theorem RowOk.base {w0:World} {M:Mem} {w:World} {id:Nat} {x:RowA} (h:RowOk w0 M w id x):w0.heap.size≤M.blk id:=by
 cases x with
 | grow n sz=>exact h.2.2.1
 | vec v sz cs=>exact h.2.2.1
 | dead v=>exact h.2.1
theorem RowOk.ne {w0:World} {M:Mem} {w:World} {id:Nat} {x:RowA} (h:RowOk w0 M w id x):∀ l,l<M.N→M.bx l≠M.blk id:=by
 cases x with
 | grow n sz=>exact h.2.2.2.2.1
 | vec v sz cs=>exact h.2.2.2.2.1
 | dead v=>exact h.2.2.1
theorem RowOk.lt {w0:World} {M:Mem} {w:World} {id:Nat} {x:RowA} (h:RowOk w0 M w id x):M.blk id<w.heap.size:=by
 cases x with
 | grow n sz=>obtain ⟨_,_,_,_,_,_,_,c,b,a,_⟩:=h;exact (Array.getElem?_eq_some_iff.1 a).1
 | vec v sz cs=>obtain ⟨_,_,_,_,_,_,_,c,b,a,_⟩:=h;exact (Array.getElem?_eq_some_iff.1 a).1
 | dead v=>exact h.2.2.2
theorem RowOk.keep {w0:World} {M M':Mem} {w w':World} {id:Nat} {x:RowA} (h:RowOk w0 M w id x) (hx:Ext w0 M w M' w') (e1:M'.fr id=M.fr id) (e2:M'.rsz id=M.rsz id) (e3:M'.blk id=M.blk id) (e4:M'.cap id=M.cap id)
  (e5:M'.top (M.blk id)=M.top (M.blk id)) (e6:∀ l,l<M'.N→M'.bx l≠M.blk id) (e7:w'.heap[M.blk id]? = w.heap[M.blk id]?):RowOk w0 M' w' id x:=by
 cases x with
 | grow n sz =>
  obtain ⟨a1,a2,a3,a4,a5,a6,a7,c,b,d,a⟩:=h
  simp only [RowOk,e1,e2,e3,e4,e5,e7]
  exact ⟨a1,a2,a3,a4,e6,a6,a7,c,b,d,a⟩
 | vec v sz cs =>
  obtain ⟨a1,a2,a3,a4,a5,a6,a7,c,b,d,a,k,g,f⟩:=h
  simp only [RowOk,e1,e2,e3,e4,e5,e7]
  exact ⟨a1,a2,a3,a4,e6,a6,a7,c,b,d,a,k,g,fun i j e=>(f i j e).mono hx⟩
 | dead v =>
  obtain ⟨a1,a2,a3,a4⟩:=h
  simp only [RowOk,e1,e3]
  exact ⟨a1,a2,e6,Nat.lt_of_lt_of_le a4 hx.size⟩
structure RelSt (w0:World) (M:Mem) (st:St) (w:World):Prop where
 below:Below w0.heap.size w0 w
 N:M.N=st.boxes.length
 NR:M.NR=st.rows.length
 top:∀ b,w.heap.size≤b→M.top b=0
 inj:∀ l l',l<M.N→l'<M.N→M.bx l=M.bx l'→l=l'
 box:∀ l cs,st.boxes[l]? = some cs→w0.heap.size≤M.bx l∧M.top (M.bx l)=0∧∃ c ty,w.heap[M.bx l]? = some (.cells c ty (0,0))∧c.size=cs.length∧(∀ x∈cs,x.one=true) ∧
  ∀ i (h1:i<c.size) (h2:i<cs.length),R w0 M w c[i] cs[i]
 row:∀ id x,st.rows[id]? = some x→RowOk w0 M w id x
 rowinj:∀ i j,i<M.NR→j<M.NR→M.blk i=M.blk j→i=j
 loop:LoopSt w0 M w st.loops
structure Rel (w0:World) (n:Nat) (M:Mem) (e:Env) (st:St) (a:Act) (w:World):Prop where
 st:RelSt w0 M st w
 size:a.tmps.size=n
 env:∀ s x,look e s=some x→entryOk w0 M w (a.tmps.getD s undef) x
section
variable {P:Program} {w0:World} {n:Nat} {M:Mem} {e:Env} {st:St} {a:Act} {w:World}
theorem Lp {t:TypeId} {s:Nat} {b:Bool} (h:GK P t=some (s,b)):∃ i d,P.info? t=some i∧i.size=s∧P.underlying t=some d∧(match d with | .struct _ | .array _ _=>true | _=>false)=b:=by
 unfold GK at h
 split at h
 ·rename_i i d h1 h2
  simp only [Option.some.injEq,Prod.mk.injEq] at h
  exact ⟨i,d,h1,h.1,h2,h.2⟩
 ·cases h
theorem Be {t:TypeId} {s:Nat} {b:Bool} (h:GK P t=some (s,b)) (w:World):(sizeOf t).run P w = .ok s w:=by
 obtain ⟨i,d,a,c,_,_⟩:=Lp h
 simp [sizeOf,typeInfo,a,c]
theorem RQ {t:TypeId} {s:Nat} {b:Bool} (h:GK P t=some (s,b)) (w:World):(isAgg t).run P w = .ok b w:=by
 obtain ⟨i,d,_,_,a,h4⟩:=Lp h
 unfold isAgg
 rw [Sem.run_bind,run_underlying a w]
 subst h4
 cases d<;>rfl
theorem U5 {t:TypeId} {f o s:Nat} {b:Bool} (h:CE P t f=some (o,s,b)):∃ fs x,P.underlying t=some (.struct fs)∧fs[f]? = some x∧x.offset=o∧GK P x.type=some (s,b):=by
 unfold CE at h
 split at h
 ·rename_i fs h1
  split at h
  ·rename_i x h2
   obtain ⟨⟨e,d⟩,c,a⟩:=Option.map_eq_some_iff.1 h
   simp only [Prod.mk.injEq] at a
   obtain ⟨rfl,rfl,rfl⟩:=a
   exact ⟨fs,x,h1,h2,rfl,c⟩
  ·cases h
 ·cases h
theorem FV {t el:TypeId} {s by8:Nat} {b:Bool} (h:KA P t=some (el,s,b,by8)):∃ i,P.underlying t=some (.slice el)∧P.info? el=some i∧i.bytes=by8∧GK P el=some (s,b):=by
 unfold KA at h
 split at h
 ·rename_i e' h1
  split at h
  ·rename_i i s' b' h2 h3
   simp only [Option.some.injEq,Prod.mk.injEq] at h
   obtain ⟨rfl,rfl,rfl,rfl⟩:=h
   exact ⟨i,h1,h2,rfl,h3⟩
  ·cases h
 ·cases h
theorem Qg {t:TypeId} {m s:Nat} {b:Bool} (h:EE P t=some (m,s,b)):∃ el,P.underlying t=some (.array m el)∧GK P el=some (s,b):=by
 unfold EE at h
 split at h
 ·rename_i m' el h1
  obtain ⟨⟨e,d⟩,c,a⟩:=Option.map_eq_some_iff.1 h
  simp only [Prod.mk.injEq] at a
  obtain ⟨rfl,rfl,rfl⟩:=a
  exact ⟨el,h1,c⟩
 ·cases h
theorem EJ {t:TypeId} (h:Ej P t=true):P.underlying t=some .string:=by
 unfold Ej at h
 split at h
 ·assumption
 ·cases h
theorem PY {t:TypeId} {k:IntKind} (h:M6 P t=some k):P.underlying t=some (.int k):=by
 unfold M6 at h
 split at h
 ·rename_i k' h1;cases h;exact h1
 ·cases h
theorem Zx:R w0 M w undef .junk := .tup rfl (fun i a=>absurd a (by simp))
theorem X7 {v:Value} (h:Oz v=true):R w0 M w v (Me v):=by
 unfold Me
 split
 ·exact .nil (fun id=>by simp)
 ·rename_i hne
  refine .flat ?_
  unfold Oz at h
  split at h
  ·exact absurd rfl hne
  ·exact h
theorem Zk {v:Value} (h:Oz v=true):(Me v).one=true:=by
 unfold Me
 split<;>rfl
theorem O5 {v:Value} (h:NY v=true):R w0 M w v (H8 v):=by
 cases v with
 | agg cs =>
  have a:∀ x∈cs.toList,Oz x=true:=List.all_eq_true.1 h
  refine .agg (by simp) (fun x c=>?_) (fun i e d=>?_)
  ·obtain ⟨y,b,rfl⟩:=List.mem_map.1 c
   exact Zk (a y b)
  ·simp only [List.getElem_map,Array.getElem_toList]
   exact X7 (a _ (by simp))
 | _=>exact X7 h
theorem A2 (h:Rel w0 n M e st a w) {x:Operand} (ho:AH e true x):R w0 M w (a.eval x) (Az e x):=by
 cases x with
 | tmp t =>
  simp only [AH,Az] at *
  cases hl:look e t with
  | none=>simp [hl] at ho
  | some x =>
   obtain ⟨c,v⟩:=x
   simp only [hl] at ho ⊢
   have:=h.env t _ hl
   unfold entryOk at this
   rw [Ai (by simpa using ho)] at this
   exact this
 | const v=>exact O5 ho
 | func f=>exact .clo rfl (fun i b=>absurd b (by simp))
 | global g=>exact ho.elim
theorem R.val_inv {v u:Value} (h:R w0 M w v (.val u)):v=u∧FB u=true:=by cases h;exact ⟨rfl,‹_›⟩
theorem R.plain {v:Value} {x:AV} (h:R w0 M w v x) (hp:EU x=true):v=GA x∧FB (GA x)=true∧x = .val (GA x):=by
 cases x with
 | val u=>obtain ⟨rfl,a⟩:=h.val_inv;exact ⟨rfl,a,rfl⟩
 | _=>cases hp
theorem R.int {v:Value} {x:AV} (h:R w0 M w v x) (hp:Dt x=true):v = .int (JF x) (AD x)∧x = .val (.int (JF x) (AD x)):=by
 cases x with
 | val u =>
  obtain ⟨rfl,a⟩:=h.val_inv
  cases v<;>first | exact ⟨rfl,rfl⟩ | cases hp
 | _=>cases hp
theorem R.bool {v:Value} {x:AV} (h:R w0 M w v x) (hp:Ui x=true):v = .bool (Ji x)∧x = .val (.bool (Ji x)):=by
 cases x with
 | val u =>
  obtain ⟨rfl,a⟩:=h.val_inv
  cases v<;>first | exact ⟨rfl,rfl⟩ | cases hp
 | _=>cases hp
def Yields' (P:Program) (w0:World) (M:Mem) (st':St) (r:AV) (w:World) (s:Sem Next):Prop :=
 ∃ v w' M',(s.run P w = .ok (.value v) w'∨(s.run P w = .ok .skip w'∧v=undef))∧Ext w0 M w M' w'∧RelSt w0 M' st' w'∧R w0 M' w' v r
theorem KD (hst:RelSt w0 M st w) {s:Sem Next} {v:Value} {r:AV} (hs:s.run P w = .ok (.value v) w) (hr:R w0 M w v r):Yields' P w0 M st r w s :=
 ⟨v,w,M,.inl hs,Ext.refl _ _ _,hst,hr⟩
theorem LD {k:IntKind} {m:Int} (h:inK k m):k.wrap m=m:=by
 cases k<;>simp only [inK] at h<;>simp only [IntKind.wrap,IntKind.signed,IntKind.bits]<;>simp<;>omega
theorem On (x y:ByteArray):(x.toList == y.toList)=GP x y:=by
 unfold GP
 rw [Lib.toList_data,Lib.toList_data]
theorem W8 {op:BinOp} {x y:Value} {t:TypeId} {X Y:Operand} (h:(evBin op x y).1) :
  (do eqGuard op t X Y x y;binOp op t x y:Sem Value).run P w = .ok (evBin op x y).2 w:=by
 unfold evBin at h ⊢
 split at h<;>simp only at h ⊢ <;> try exact h.elim
 case h_1 k a k' b=>obtain ⟨rfl,h⟩:=h;simp [eqGuard,binOp,Op.intArith,LD h]
 case h_2 k a k' b=>obtain ⟨rfl,h⟩:=h;simp [eqGuard,binOp,Op.intArith,LD h]
 case h_3 k a k' b=>obtain ⟨rfl,h⟩:=h;simp [eqGuard,binOp,Op.intArith,LD h]
 case h_4 k a k' b =>
  obtain ⟨rfl,c,h⟩:=h
  simp [eqGuard,binOp,Op.intDiv,c,LD h]
 case h_5 k a k' b =>
  obtain ⟨rfl,c⟩:=h
  simp [eqGuard,binOp,Op.intDiv,c]
 case h_6 k a k' b=>subst h;simp [eqGuard,binOp,Op.intCmp];rfl
 case h_7 k a k' b=>subst h;simp [eqGuard,binOp,Op.intCmp];rfl
 case h_8 k a k' b=>subst h;simp [eqGuard,binOp,Op.intCmp]
 case h_9 k a k' b=>subst h;simp [eqGuard,binOp,Op.intCmp]
 case h_10 k a k' b=>subst h;simp [eqGuard,binOp,Op.intCmp]
 case h_11 k a k' b=>subst h;simp [eqGuard,binOp,Op.intCmp]
 case h_12 x y =>
  have e:¬ (((x.size+y.size:Nat):Int) > IntKind.i64.max):=by simp [IntKind.max,IntKind.signed,IntKind.bits];omega
  simp only [eqGuard,binOp,Op.stringOp,Aj e]
  simp
 case h_13 x y=>simp [eqGuard,binOp,Op.stringOp,On]
 case h_14 x y=>simp [eqGuard,binOp,Op.stringOp,On]
 case h_15 x y=>simp [eqGuard,binOp,Op.stringOp,Lib.toList_data,ZP]
 case h_16 x y=>simp [eqGuard,binOp,Op.stringOp,Lib.toList_data,ZP,GP]
 case h_17 x y=>simp [eqGuard,binOp,Op.stringOp,Lib.toList_data,ZP,GP]
 case h_18 x y=>simp [eqGuard,binOp,Op.stringOp,Lib.toList_data,ZP]
 case h_19 k a k' b =>
  obtain ⟨rfl,h⟩:=h
  have e:Nat.min (Int.toNat 1) k.bits=1:=by cases k<;>rfl
  have d:min (Int.toNat 1) k.bits=1:=by cases k<;>rfl
  simp only [eqGuard,binOp,Op.shift,e,d]
  simp [Int.fdiv_eq_ediv_of_nonneg]
section
theorem Vx {d:Nat} {t:TypeId} {u v:Value} (h:Kq P t (.val u) (.val v)):(Op.equalIn (d+1) t u v).run P w = .ok (eqCell (.val u) (.val v)) w:=by
 unfold Kq at h
 split at h
 ·rename_i k a k' b e1 e2
  cases e1;cases e2
  obtain ⟨h1,rfl⟩:=h
  unfold M6 at h1
  split at h1
  ·rename_i k1 hk
   rw [run_equalIn_int w d t _ k1 a b hk];rfl
  ·cases h1
 ·rename_i a b e1 e2
  cases e1;cases e2
  unfold Ej at h
  split at h
  ·rename_i hk
   rw [run_equalIn_string w d t a b hk,On];rfl
  ·cases h
 ·rename_i a b e1 e2
  cases e1;cases e2
  unfold Lr at h
  split at h
  ·rename_i hk
   rw [run_equalIn_bool' w d t a b hk];rfl
  ·cases h
 ·exact h.elim
theorem Vm {t:TypeId} {x y:AV} (h:Kq P t x y):∃ u v,x = .val u∧y = .val v:=by
 unfold Kq at h
 split at h
 ·exact ⟨_,_,rfl,rfl⟩
 ·exact ⟨_,_,rfl,rfl⟩
 ·exact ⟨_,_,rfl,rfl⟩
 ·exact h.elim
theorem XO {t:TypeId} (ht:GK P t=some (1,false)) {cs:Array Value} {i:Nat} {v:Value} (h:cs[i]? = some v):(part t cs i).run P w = .ok v w:=by
 obtain ⟨e,d,f,c,a,h4⟩:=Lp ht
 have b:(isAgg t).run P w = .ok false w:=by
  simp only [isAgg,Sem.run_bind,run_underlying a,Result.andThen_ok]
  cases d<;>first | (cases h4;done) | rfl | (cases h4;rfl)
 simp [part,b,h]
theorem J4 (d:Nat) {cs ds:Array Value}:∀ (fs:List Field) (i:Nat) (xs ys:List AV),V5 P fs i xs ys→(∀ j v,xs[j]? = some (.val v)→cs[i+j]? = some v)→(∀ j v,ys[j]? = some (.val v)→ds[i+j]? = some v) →
  (Op.eqFields (d+1) cs ds fs).run P w = .ok (MX xs ys) w
 | [],_,[],[],_,_,_=>by simp [Op.eqFields,MX]
 | f::fs,i,x::xs,y::ys,h,hx,hy=>by
  obtain ⟨k,rfl,e,c,l⟩:=h
  obtain ⟨u,v,rfl,rfl⟩:=Vm c
  have g:=XO (w:=w) e (hx 0 u rfl)
  have b:=XO (w:=w) e (hy 0 v rfl)
  simp only [Nat.add_zero] at g b
  have ih:=J4 d fs _ xs ys l (fun j v a=>by rw [Nat.add_assoc,Nat.add_comm 1 j];exact hx (j+1) v a) (fun j v a=>by rw [Nat.add_assoc,Nat.add_comm 1 j];exact hy (j+1) v a)
  simp only [Op.eqFields,Ai k,Sem.run_bind,g,b,Result.andThen_ok,Vx c,MX]
  cases hc:eqCell (.val u) (.val v)
  ·simp
  ·simp [ih]
 | [],_,[],_::_,h,_,_=>h.elim
 | [],_,_::_,_,h,_,_=>h.elim
 | _::_,_,[],_,h,_,_=>h.elim
 | _::_,_,_::_,[],h,_,_=>h.elim
theorem ZaH {op:BinOp} {t:TypeId} {cs ds:Array Value} {xs ys:List AV} {X Y:Operand} (h:(MR P op t xs ys).1) (hx:∀ (j:Nat) (v:Value),xs[j]? = some (.val v)→cs[j]? = some v) (hy:∀ (j:Nat) (v:Value),ys[j]? = some (.val v)→ds[j]? = some v) :
  (do eqGuard op t X Y (.agg cs) (.agg ds);binOp op t (.agg cs) (.agg ds):Sem Value).run P w = .ok (.bool (MR P op t xs ys).2) w:=by
 unfold MR at h ⊢
 unfold eqT at h ⊢
 cases hu:P.underlying t with
 | none=>rw [hu] at h;exact h.elim
 | some d =>
  cases d<;>(try (rw [hu] at h;exact h.elim))
  rename_i fs
  rw [hu] at h
  simp only at h ⊢
  by_cases hc:P.stoodInHeld t=false∧P.eqGuardType P.depth t=false
  ·rw [Ai hc] at h ⊢
   have c:P.fieldsOf t=fs:=by unfold Program.fieldsOf;rw [hu]
   have b:P.underlying t=some (.struct (P.fieldsOf t)):=by rw [c];exact hu
   cases op<;>simp only at h ⊢ <;> (try exact h.elim)
   ·have:=J4 (P:=P) (w:=w) 9998 fs.toList 0 xs ys h (fun j v a=>by rw [Nat.zero_add];exact hx j v a) (fun j v a=>by rw [Nat.zero_add];exact hy j v a)
    simp only [Sem.run_bind,run_eqGuard_agg w _ t X Y cs ds hc.2,Result.andThen_ok,run_eql_struct,run_equalIn_agg w 9999 t cs ds b hc.1,c,this]
   ·have:=J4 (P:=P) (w:=w) 9998 fs.toList 0 xs ys h (fun j v a=>by rw [Nat.zero_add];exact hx j v a) (fun j v a=>by rw [Nat.zero_add];exact hy j v a)
    simp only [Sem.run_bind,run_eqGuard_agg w _ t X Y cs ds hc.2,Result.andThen_ok,run_neq_struct,run_equalIn_agg w 9999 t cs ds b hc.1,c,this]
  ·rw [Aj hc] at h;exact h.elim
end
theorem R.aggC {w0:World} {M:Mem} {w:World} {v:Value} {x:AV} (h:R w0 M w v x) (hx:Fp x=true):∃ cs,v = .agg cs∧∀ (j:Nat) (u:Value),(Ly x)[j]? = some (.val u)→cs[j]? = some u:=by
 cases h with
 | @agg cs xs hl h1 h =>
  refine ⟨cs,rfl,fun j u c=>?_⟩
  replace c:xs[j]? = some (.val u):=c
  obtain ⟨b,e⟩:=Ak.1 c
  have hr:=h j (by omega) b
  have a:xs[j]'b = .val u:=e
  rw [a] at hr
  have d:j<cs.size:=by omega
  rw [Array.getElem?_eq_getElem d]
  generalize cs[j]=q at hr
  cases hr
  rfl
 | _=>cases hx
theorem Yw {op:BinOp} {x y:Value} (h:(evBin op x y).1):FB (evBin op x y).2=true:=by
 unfold evBin at h ⊢
 split at h<;>simp only at h ⊢ <;> try first | exact h.elim | rfl
 rename_i x y
 have e:(x++y).size=x.size+y.size:=ByteArray.size_append
 simp only [FB,maxLen,e]
 simp
 omega
theorem Yq {op:UnOp} {x:Value} (h:(evUn op x).1):(Op.unary op x).run P w = .ok (evUn op x).2 w:=by
 unfold evUn at h ⊢
 split at h<;>simp only at h ⊢ <;> try exact h.elim
 ·simp [Op.unary]
 ·have e:=LD h
  simp only [Op.unary,Op.intArith,e]
  rfl
theorem Zad {op:UnOp} {x:Value} (h:(evUn op x).1):FB (evUn op x).2=true:=by
 unfold evUn at h ⊢
 split at h<;>simp only at h ⊢ <;> first | exact h.elim | rfl
theorem Eb (b o j:Nat):(⟨b,o,none⟩:Addr).add j=⟨b,o+j,none⟩:=by
 unfold Addr.add
 split
 ·subst j;rfl
 ·rfl
theorem EB {rows:List RowA} {id ver sz:Nat} {cs:List AV} (h:Ey rows id ver=some (sz,cs)):rows[id]? = some (.vec ver sz cs):=by
 unfold Ey at h
 split at h
 ·rename_i v s c he
  split at h
  ·rename_i hv;cases h;rw [he,hv]
  ·cases h
 ·cases h
theorem Qj {rows:List RowA} {id ver:Nat} (h:(Ey rows id ver).isSome=true):∃ sz cs,Ey rows id ver=some (sz,cs):=by
 obtain ⟨⟨a,b⟩,h⟩:=Option.isSome_iff_exists.1 h
 exact ⟨a,b,h⟩
theorem WO (hst:RelSt w0 M st w) {v:Value} {x:AV} (h:R w0 M w v x) (hr:C7 st x=true) :
  ∃ b o,v = .pointer (some ⟨b,o+DR x,none⟩)∧(∀ c∈A6 st x,c.one=true)∧∀ j (hj:j<(A6 st x).length),∃ u,w.cell? ⟨b,o+j,none⟩=some u∧R w0 M w u (A6 st x)[j]:=by
 cases x with
 | box l off =>
  cases h with
  | box hl =>
   have g:l<st.boxes.length:=by simpa [C7] using hr
   obtain ⟨cs,d⟩:∃ cs,st.boxes[l]? = some cs:=⟨_,List.getElem?_eq_getElem g⟩
   obtain ⟨_,_,c,i,z,t,r,m⟩:=hst.box l cs d
   have e:A6 st (.box l off)=cs:=by simp [A6,List.getD,d]
   refine ⟨M.bx l,0,by simp [DR],by rw [e];exact r,fun j hj=>?_⟩
   simp only [e] at hj ⊢
   refine ⟨c[j]'(by omega),?_,m j (by omega) hj⟩
   rw [Nat.zero_add,cell_of_row w _ j c i _ z]
   exact Array.getElem?_eq_getElem (by omega)
 | elem y k =>
  cases h with
  | @elem b off x u k hcell hu =>
   obtain ⟨hs,m⟩:=hu.cells
   refine ⟨b,off,rfl,?_,fun j hj=>?_⟩
   ·refine hu.cellsOne (fun vs hv=>?_)
    subst hv
    simp [C7] at hr
   ·have f:j<u.cells.size:=by rw [hs];exact hj
    refine ⟨u.cells[j],?_,m j f hj⟩
    rw [(hcell j f).2]
    exact Array.getElem?_eq_getElem f
 | vel id ver off =>
  cases h with
  | @vel _ _ _ a hi hv hh =>
   obtain ⟨sz,cs,d⟩:=Qj (show (Ey st.rows id ver).isSome=true from hr)
   obtain ⟨q,J,G,D,K,H,F,c,i,C,E,s,n,p⟩:=hst.row id _ (EB d)
   have e:A6 st (.vel id ver off)=cs:=by simp [A6,d]
   refine ⟨M.blk id,0,by rw [hh q.symm];simp [DR],by rw [e];exact n,fun j hj=>?_⟩
   simp only [e] at hj ⊢
   refine ⟨c[j]'(by omega),?_,p j (by omega) hj⟩
   rw [Nat.zero_add,cell_of_row w _ j c i _ C]
   exact Array.getElem?_eq_getElem (by omega)
 | _=>cases hr
theorem Yields'.value {s:Sem Value} {st':St} {r:AV} (h:∃ v w' M',s.run P w = .ok v w'∧Ext w0 M w M' w'∧RelSt w0 M' st' w'∧R w0 M' w' v r) :
  Yields' P w0 M st' r w (do pure (.value (← s))):=by
 obtain ⟨v,w',M',hs,b,c,a⟩:=h
 exact ⟨v,w',M',.inl (by simp [hs]),b,c,a⟩
theorem Yields'.here (hst:RelSt w0 M st w) {s:Sem Value} {v:Value} {r:AV} (hs:s.run P w = .ok v w) (hr:R w0 M w v r) :
  Yields' P w0 M st r w (do pure (.value (← s))) := .value ⟨v,w,M,hs,Ext.refl _ _ _,hst,hr⟩
theorem Yp {t:TypeId} (h:Lr P t=true):P.underlying t=some .bool:=by
 unfold Lr at h
 split at h
 ·assumption
 ·cases h
theorem Zb5 {op:BinOp} {a b:Bool} {t:TypeId} {X Y:Operand} (ht:Lr P t=true) (h:(evBB op a b).1):(do eqGuard op t X Y (.bool a) (.bool b);binOp op t (.bool a) (.bool b):Sem Value).run P w = .ok (.bool (evBB op a b).2) w:=by
 have c:=Yp ht
 cases op<;>try exact h.elim
 ·simp [eqGuard,binOp,run_equal_bool w t a b c,evBB]
 ·simp [eqGuard,binOp,run_equal_bool w t a b c,evBB];cases a<;>cases b<;>rfl
theorem QZ (d:Nat) (t:TypeId) (v:Value) {ms:Array (String × TypeId)} (hu:P.underlying t=some (.interface ms)) (hv:Pq v=true):(Op.equalIn (d+1) t v .nilIface).run P w = .ok (FT v) w:=by
 cases v<;>first | cases hv | skip
 all_goals simp [Op.equalIn,run_underlying hu,FT]
theorem Zau {op:BinOp} {v:Value} {t:TypeId} {X Y:Operand} (ht:V3 P t=true) (hy:RH Y=true) (h:(RN op v).1):(do eqGuard op t X Y v .nilIface;binOp op t v .nilIface:Sem Value).run P w = .ok (.bool (RN op v).2) w:=by
 obtain ⟨ms,hu⟩:∃ ms,P.underlying t=some (.interface ms):=by
  unfold V3 at ht
  split at ht
  ·exact ⟨_,‹_›⟩
  ·cases ht
 have e:∃ c,Y = .const c:=by
  cases Y<;>first | exact ⟨_,rfl⟩ | cases hy
 obtain ⟨c,rfl⟩:=e
 have a:∀ v,Pq v=true→(eqGuard op t X (.const c) v .nilIface).run P w = .ok () w∧(Op.equal t v .nilIface).run P w = .ok (FT v) w:=by
  intro v hv
  cases v<;>first | cases hv | skip
  all_goals
   refine ⟨?_,QZ 9999 t _ hu rfl⟩
   cases op<;>cases X<;>simp [eqGuard]
 cases op<;>first | exact h.elim | skip
 all_goals
  obtain ⟨d,b⟩:=a v h
  simp only [Sem.run_bind,d,Result.andThen_ok]
  cases v<;>first | cases h | skip
  all_goals simp [binOp,b,RN]
theorem Zcw (h:Rel w0 n M e st a w) (op:BinOp) (t:TypeId) (x y:Operand) (u:TypeId) (hob:(AZ P e true st (.binOp op t x y u)).1) :
  Yields' P w0 M (AZ P e true st (.binOp op t x y u)).2.2 (AZ P e true st (.binOp op t x y u)).2.1 w (do pure (.value (← (do eqGuard op t x y (a.eval x) (a.eval y);binOp op t (a.eval x) (a.eval y))))):=by
 simp only [AZ] at hob ⊢
 by_cases hc:(Ui (Az e x)&&Ui (Az e y))=true
 ·rw [Ai hc] at hob ⊢
  simp only [Bool.and_eq_true] at hc
  obtain ⟨d,g,k,b⟩:=hob
  obtain ⟨f,_⟩:=(A2 h d).bool hc.1
  obtain ⟨c,_⟩:=(A2 h g).bool hc.2
  rw [f,c]
  exact .here h.st (Zb5 k b) (.flat rfl)
 ·rw [Aj hc] at hob ⊢
  by_cases hg:(Fp (Az e x)&&Fp (Az e y))=true
  ·rw [Ai hg] at hob ⊢
   simp only [Bool.and_eq_true] at hg
   obtain ⟨d,g,b⟩:=hob
   obtain ⟨cs,f,j⟩:=(A2 h d).aggC hg.1
   obtain ⟨m,c,i⟩:=(A2 h g).aggC hg.2
   rw [f,c]
   exact .here h.st (ZaH b j i) (.flat rfl)
  rw [Aj hg] at hob ⊢
  by_cases hn:RH y=true
  ·rw [Ai hn] at hob ⊢
   obtain ⟨d,px,k,b⟩:=hob
   obtain ⟨f,_,_⟩:=(A2 h d).plain px
   have c:a.eval y = .nilIface:=by
    cases y with
    | const v=>cases v<;>first | rfl | cases hn
    | _=>cases hn
   rw [f,c]
   exact .here h.st (Zau k hn b) (.flat rfl)
  rw [Aj hn] at hob ⊢
  obtain ⟨d,g,px,l,b⟩:=hob
  obtain ⟨f,_,_⟩:=(A2 h d).plain px
  obtain ⟨c,_,_⟩:=(A2 h g).plain l
  rw [f,c]
  exact .here h.st (W8 b) (.flat (Yw b))
theorem Zeb (h:Rel w0 n M e st a w) (op:UnOp) (t:TypeId) (x:Operand) (hob:(AZ P e true st (.unOp op t x)).1) :
  Yields' P w0 M st (.val (evUn op (GA (Az e x))).2) w (do pure (.value (← Op.unary op (a.eval x)))):=by
 obtain ⟨c,px,b⟩:=hob
 obtain ⟨d,_,_⟩:=(A2 h c).plain px
 rw [d]
 exact .here h.st (Yq b) (.flat (Zad b))
theorem Zih {t:Bool} {u v:Value} {x y:AV} (hx:t=true→R w0 M w u x) (hy:t=false→R w0 M w v y):R w0 M w (if t then u else v) (AV.sel t x y):=by
 have b:AV.sel false x y=y:=by unfold AV.sel;split<;>rfl
 have a:AV.sel true x y=x:=by unfold AV.sel;split<;>rfl
 cases t
 ·rw [b];exact hy rfl
 ·rw [a];exact hx rfl
theorem Zfg (h:Rel w0 n M e st a w) (b x y:Operand) (hob:(AZ P e true st (.pick b x y)).1) :
  Yields' P w0 M st (AV.sel (Ji (Az e b)) (Az e x) (Az e y)) w (do pure (.value (if ← asBool (a.eval b) then a.eval x else a.eval y))):=by
 obtain ⟨d,c,i,f⟩:=hob
 obtain ⟨g,_⟩:=(A2 h d).bool c
 refine KD h.st (v:=if Ji (Az e b) then a.eval x else a.eval y) ?_ (Zih (fun q=>A2 h (i rfl q)) (fun q=>A2 h (f rfl q)))
 rw [g]
 simp [asBool]
theorem MB {t:TypeId} {sz:Nat} {ag:Bool} (ht:GK P t=some (sz,ag)) {b o:Nat} {f:Nat→Value} (hc:∀ j,j<sz→w.cell? ⟨b,o+j,none⟩=some (f j)) (h1:ag=true∨sz=1) :
  (loadVar t ⟨b,o,none⟩).run P w = .ok (if ag then .agg ((List.range sz).map f).toArray else f 0) w:=by
 unfold loadVar
 rw [Sem.run_bind,RQ ht]
 cases ag with
 | true =>
  simp only [Result.andThen_ok,if_true,Sem.run_bind,Be ht,run_loadCells w ⟨b,o,none⟩ sz f (fun j a=>by rw [Eb];exact hc j a)]
  rfl
 | false =>
  have:sz=1:=by simpa using h1
  subst this
  have:=hc 0 (by omega)
  simp only [Nat.add_zero] at this
  simp [this]
theorem PC {cs:List AV} {f:Nat→Value} {o sz:Nat} {ag:Bool} (h1:∀ c∈cs,c.one=true) (ho:o+sz≤cs.length) (hs:ag=true∨sz=1)
  (hR:∀ j (hj:o+j<cs.length),R w0 M w (f j) cs[o+j]):R w0 M w (if ag then .agg ((List.range sz).map f).toArray else f 0) (Og ag cs o sz):=by
 unfold Og
 cases ag with
 | true =>
  simp only [if_true]
  refine .agg (by simp;omega) (fun x a=>h1 x (List.mem_of_mem_drop (List.mem_of_mem_take a))) (fun i a1 a2=>?_)
  simp only [List.getElem_take,List.getElem_drop,List.getElem_toArray,List.getElem_map,List.getElem_range]
  exact hR i (by simp at a1;omega)
 | false =>
  have:sz=1:=by simpa using hs
  subst this
  have:=hR 0 (by omega)
  simp only [Nat.add_zero] at this
  simpa [Ya,List.getD,List.getElem?_eq_getElem (show o<cs.length by omega)] using this
theorem Zfe (h:Rel w0 n M e st a w) (t:TypeId) (x:Operand) (hob:(AZ P e true st (.load t x)).1) :
  Yields' P w0 M st (AZ P e true st (.load t x)).2.1 w (do pure (.value (← Instr.loadAt t (a.eval x)))):=by
 unfold AZ at hob ⊢
 cases ht:GK P t with
 | none=>simp [ht] at hob
 | some p =>
  obtain ⟨sz,D⟩:=p
  simp only [ht] at hob ⊢
  obtain ⟨z,r,k,q⟩:=hob
  obtain ⟨b,o,ev,g,m⟩:=WO h.st (A2 h z) r
  rw [ev]
  have d:∀ j,j<sz→∃ u,w.cell? ⟨b,o+DR (Az e x)+j,none⟩=some u∧∀ c,R w0 M w u ((A6 st (Az e x))[DR (Az e x)+j]'c):=by
   intro j c
   obtain ⟨u,y,C⟩:=m (DR (Az e x)+j) (by omega)
   exact ⟨u,by rw [←y,Nat.add_assoc],fun _=>C⟩
  let f:Nat→Value:=fun j=>((w.cell? ⟨b,o+DR (Az e x)+j,none⟩).getD undef)
  have s:∀ j,j<sz→w.cell? ⟨b,o+DR (Az e x)+j,none⟩=some (f j):=fun j c=>by
   obtain ⟨u,i,_⟩:=d j c
   simp [f,i]
  refine .here h.st (v:=if D then .agg ((List.range sz).map f).toArray else f 0) ?_ (PC g k q (fun j c=>?_))
  ·simp only [Instr.loadAt,Instr.sureAddr,Sem.run_bind,Sem.run_pure,Result.andThen_ok]
   exact MB ht s q
  ·by_cases hjs:j<sz
   ·obtain ⟨u,i,l⟩:=d j hjs
    have:f j=u:=by simp [f,i]
    rw [this]
    exact l c
   ·obtain ⟨u,i,l⟩:=m (DR (Az e x)+j) c
    have:f j=u:=by simp [f,Nat.add_assoc,i]
    rw [this]
    exact l
theorem Qh (hst:RelSt w0 M st w) {v:Value} {x:AV} (h:R w0 M w v x) (hr:C7 st x=true):∃ b o,v = .pointer (some ⟨b,o,none⟩)∧∀ k,R w0 M w (.pointer (some ⟨b,o+k,none⟩)) (P8 x k):=by
 cases x with
 | box l off=>cases h with | box hl=>exact ⟨_,_,rfl,fun k => .box hl⟩
 | elem y k =>
  cases h with
  | @elem b off x u k hcell hu=>exact ⟨_,_,rfl,fun d=>by rw [Nat.add_assoc];exact .elem u (k+d) hcell hu⟩
 | vel id ver off =>
  cases h with
  | @vel _ _ _ a hi hv hh =>
   obtain ⟨sz,cs,c⟩:=Qj (show (Ey st.rows id ver).isSome=true from hr)
   have e:=(hst.row id _ (EB c)).1
   have f:=hh e.symm
   exact ⟨M.blk id,off,by rw [f],fun k => .vel hi hv fun _=>rfl⟩
 | _=>cases hr
theorem XC (h:Rel w0 n M e st a w) (o:Oper) (x:Operand) (ho:o.op = .nilCheck x) (hob:(AZ P e true st (.nilCheck x)).1) :
  Yields' P w0 M st (Az e x) w (execOp a.eval o):=by
 obtain ⟨c,d⟩:=hob
 obtain ⟨b,o',ev,_⟩:=Qh h.st (A2 h c) d
 refine KD h.st (v:=a.eval x) ?_ (A2 h c)
 simp only [execOp,ho,ev]
 rfl
theorem X1 (h:Rel w0 n M e st a w) (f:FuncId) (fi cap:Array Operand) (hob:(AZ P e true st (.makeFunc (.func f) fi cap)).1) :
  Yields' P w0 M st (.clo f (cap.toList.map (Az e))) w (do pure (.value (← Instr.makeFunc (.func f) (fi.map a.eval) (cap.map a.eval)))):=by
 obtain ⟨c,b⟩:=hob
 refine .here h.st (v := .func (.func f) (fi.map a.eval) (cap.map a.eval)) rfl ?_
 have:fi.map a.eval = #[]:=by simp [Array.size_eq_zero_iff.1 c]
 rw [this]
 refine .clo (by simp) (fun i d g=>?_)
 simp only [Array.getElem_map,List.getElem_map,Array.getElem_toList]
 exact A2 h (b _ (by simp))
theorem V2 (h:Rel w0 n M e st a w) (t:TypeId) (x:Operand) (f:Nat) (hob:(AZ P e true st (.fieldAddr t x f)).1) :
  Yields' P w0 M (AZ P e true st (.fieldAddr t x f)).2.2 (AZ P e true st (.fieldAddr t x f)).2.1 w (do pure (.value (← Instr.fieldAt t (a.eval x) f))):=by
 unfold AZ at hob ⊢
 cases hf:CE P t f with
 | none=>simp [hf] at hob
 | some p =>
  obtain ⟨o,sz,r⟩:=p
  simp only [hf] at hob ⊢
  obtain ⟨k,g,s⟩:=hob
  obtain ⟨q,y,i,d,l,m⟩:=U5 hf
  obtain ⟨b,o',ev,j⟩:=Qh h.st (A2 h k) g
  refine .here h.st (v := .pointer (some ⟨b,o'+o,none⟩)) ?_ (j o)
  rw [ev]
  have c:¬ sz=0:=by omega
  simp [Instr.fieldAt,run_underlying i,d,Instr.sureAddr,fieldPlace,l,Eb,Be m,c]
theorem UH {t:TypeId} {sz:Nat} {ag:Bool} (ht:GK P t=some (sz,ag)) {cs:Array Value} {o:Nat} (ho:o+sz≤cs.size) (h1:ag=true∨sz=1) :
  (part t cs o).run P w = .ok (if ag then .agg ((List.range sz).map fun j=>cs.getD (o+j) undef).toArray else cs.getD o undef) w:=by
 unfold part
 rw [Sem.run_bind,RQ ht]
 cases ag with
 | true =>
  simp only [Result.andThen_ok,if_true,Sem.run_bind,Be ht,Sem.run_pure]
  congr 2
  apply Array.ext
  ·simp;omega
  ·intro i h1 b
   simp at h1 b
   simp [show o+i<cs.size by omega]
 | false =>
  have:sz=1:=by simpa using h1
  subst this
  have a:o<cs.size:=by omega
  simp [a]
theorem R.agg_inv {v:Value} {x:AV} (h:R w0 M w v x) (ha:Fp x=true):∃ cs,v = .agg cs∧cs.size=x.cells.length∧(∀ y∈x.cells,y.one=true)∧∀ j (hj:j<x.cells.length),R w0 M w (cs.getD j undef) x.cells[j]:=by
 cases x with
 | agg xs =>
  cases h with
  | agg hl h1 hR =>
   rename_i cs
   refine ⟨cs,rfl,hl,h1,fun j hj=>?_⟩
   have a:j<cs.size:=by rw [hl];exact hj
   have e:cs.getD j undef=cs[j]:=by simp [a]
   rw [e]
   exact hR j a hj
 | _=>cases ha
theorem ZcJ (h:Rel w0 n M e st a w) (t:TypeId) (x:Operand) (f:Nat) (hob:(AZ P e true st (.field t x f)).1) :
  Yields' P w0 M (AZ P e true st (.field t x f)).2.2 (AZ P e true st (.field t x f)).2.1 w (do pure (.value (← Instr.field t (a.eval x) f))):=by
 unfold AZ at hob ⊢
 cases hf:CE P t f with
 | none=>simp [hf] at hob
 | some p =>
  obtain ⟨o,sz,q⟩:=p
  simp only [hf] at hob ⊢
  obtain ⟨m,g,c,hs⟩:=hob
  obtain ⟨u,y,l,i,h3,r⟩:=U5 hf
  obtain ⟨cs,ev,s,b,d⟩:=(A2 h m).agg_inv g
  rw [ev]
  refine .here h.st (v:=if q then .agg ((List.range sz).map fun j=>cs.getD (o+j) undef).toArray else cs.getD o undef) ?_ (PC (f:=fun j=>cs.getD (o+j) undef) b c hs (fun j k=>d _ k))
  subst h3
  simp [Instr.field,run_underlying l,i,asAgg,UH (w:=w) r (cs:=cs) (o:=y.offset) (by omega) hs]
theorem R.list_inv {v:Value} {x:AV} (h:R w0 M w v x) (hl:Bv x=true) :
  (∃ a cap,v = .slice a (AM x).length cap∧(a=none→AM x=[]∧cap=0)∧(AM x).length≤cap∧cap≤maxLen):=by
 cases x with
 | list xs o =>
  cases h with
  | nil ho=>exact ⟨none,0,rfl,fun _=>⟨rfl,rfl⟩,Nat.zero_le _,by simp [maxLen]⟩
  | emp ho=>exact ⟨_,0,rfl,fun e=>(by cases e),Nat.zero_le _,by simp [maxLen]⟩
  | list sz us hc hm hcell hu ho=>exact ⟨_,_,rfl,fun e=>(by cases e),hc,hm⟩
 | _=>cases hl
theorem R.list_elem {v:Value} {xs:List AV} {o:Own} (h:R w0 M w v (.list xs o)) {i:Nat} (hi:i<xs.length) {sz:Nat} (hsz:xs[i].cells.length=sz) :
  ∃ b off cap,v = .slice (some ⟨b,off,none⟩) xs.length cap∧R w0 M w (.pointer (some ⟨b,off+i*sz,none⟩)) (.elem xs[i] 0):=by
 cases h with
 | nil ho=>exact absurd hi (by simp)
 | emp ho=>exact absurd hi (by simp)
 | @list b off cap _ _ sz' us hc hm hcell hu ho =>
  obtain ⟨a,c⟩:=hcell i hi
  have e:sz'=sz:=by rw [←a,(hu i hi).cells.1,hsz]
  subst e
  exact ⟨b,off,cap,rfl,.elem (us i) 0 (fun j d=>c j (by omega)) (hu i hi)⟩
theorem G2 {x:AV} (h:Bv x=true):∃ xs o,x = .list xs o:=by
 cases x with
 | list xs o=>exact ⟨xs,o,rfl⟩
 | _=>cases h
theorem Zcz {l:List AV} {i:Nat} (h:i<l.length):Ya l i=l[i]:=by simp [Ya,List.getD,List.getElem?_eq_getElem h]
theorem Wc (h:Rel w0 n M e st a w) (t:TypeId) (x i:Operand) (hob:(AZ P e true st (.indexAddr t x i)).1) :
  Yields' P w0 M (AZ P e true st (.indexAddr t x i)).2.2 (AZ P e true st (.indexAddr t x i)).2.1 w (do pure (.value (← Instr.indexAt t (a.eval x) (a.eval i)))):=by
 unfold AZ Sz at hob ⊢
 cases he:KA P t with
 | some p =>
  obtain ⟨Y,sz,O,V⟩:=p
  simp only [he] at hob ⊢
  split at hob
  ·rename_i id ver o n' hx0
   cases hvr:Ey st.rows id ver with
   | none=>simp [hvr] at hob
   | some p =>
    obtain ⟨E,cs⟩:=p
    simp only [hvr] at hob ⊢
    obtain ⟨r,g,c,y,z,rfl⟩:=hob
    obtain ⟨u,s,_,_,f⟩:=FV he
    obtain ⟨l,_⟩:=(A2 h g).int c
    have hR:=A2 h r
    rw [hx0] at hR
    generalize AD (Az e i)=m at *
    obtain ⟨k,rfl⟩:=Int.eq_ofNat_of_zero_le y
    have j:k<n':=by omega
    generalize hev:a.eval x=v at hR
    cases hR with
    | @vec _ _ _ _ p F hid hv hh =>
     obtain ⟨K,Z,_⟩:=h.st.row id _ (EB hvr)
     obtain ⟨rfl,G,J⟩:=hh K.symm
     refine .here h.st (v := .pointer (some ⟨M.blk id,o*M.rsz id+k*E,none⟩)) ?_ ?_
     ·rw [l]
      simp [Instr.indexAt,asIntOf,run_underlying s,Be f,Eb]
      omega
     ·refine .vel hid hv fun _=>?_
      rw [Z,Int.toNat_natCast,Nat.add_mul]
  rename_i hx0
  obtain ⟨r,g,H,c,y,z,d⟩:=hob
  obtain ⟨u,s,_,_,f⟩:=FV he
  obtain ⟨l,_⟩:=(A2 h g).int c
  have hR:=A2 h r
  obtain ⟨xs,o,D⟩:=G2 H
  rw [D] at hR z d ⊢
  simp only [AM] at z d ⊢
  generalize AD (Az e i)=m at *
  obtain ⟨k,rfl⟩:=Int.eq_ofNat_of_zero_le y
  have j:k<xs.length:=by omega
  simp only [Int.toNat_natCast] at d ⊢
  rw [Zcz j] at d ⊢
  obtain ⟨b,C,F,ev,Q⟩:=hR.list_elem j d
  refine .here h.st (v := .pointer (some ⟨b,C+k*sz,none⟩)) ?_ Q
  rw [ev,l]
  simp [Instr.indexAt,asIntOf,run_underlying s,Be f,Eb]
  omega
 | none =>
  simp only [he] at hob ⊢
  cases ha:EE P t with
  | none=>simp [ha] at hob
  | some p =>
   obtain ⟨m,sz,O⟩:=p
   simp only [ha] at hob ⊢
   obtain ⟨r,g,U,c,y,z⟩:=hob
   obtain ⟨Y,s,f⟩:=Qg ha
   obtain ⟨l,_⟩:=(A2 h g).int c
   obtain ⟨b,o',ev,j⟩:=Qh h.st (A2 h r) U
   generalize AD (Az e i)=q at *
   obtain ⟨k,rfl⟩:=Int.eq_ofNat_of_zero_le y
   have N:k<m:=by omega
   refine .here h.st (v := .pointer (some ⟨b,o'+k*sz,none⟩)) ?_ (by simpa using j (k*sz))
   rw [ev,l]
   simp [Instr.indexAt,asIntOf,run_underlying s,Be f,Instr.sureAddr,Eb]
   omega
theorem getElem?_get! (s:ByteArray) (k:Nat) (hk:k<s.size):s[k]? = some (s.get! k):=by
 rw [getElem?_pos s k hk]
 congr 1
 simp only [ByteArray.get!]
 have:k<s.data.size:=hk
 rw [getElem!_pos s.data k this]
 rfl
theorem ZcX (h:Rel w0 n M e st a w) (t:TypeId) (x i:Operand) (hob:(AZ P e true st (.index t x i)).1) :
  Yields' P w0 M (AZ P e true st (.index t x i)).2.2 (AZ P e true st (.index t x i)).2.1 w (do pure (.value (← Instr.index t (a.eval x) (a.eval i)))):=by
 unfold AZ Sz at hob ⊢
 simp only at hob ⊢
 split at hob
 ·rename_i s hx0
  obtain ⟨hs,D,y,d,E,K⟩:=hob
  obtain ⟨C,_⟩:=(A2 h y).int d
  have r:=A2 h D
  rw [hx0] at r
  obtain ⟨ev,_⟩:=r.val_inv
  generalize AD (Az e i)=q at *
  obtain ⟨k,rfl⟩:=Int.eq_ofNat_of_zero_le E
  have z:k<s.size:=by omega
  refine .here h.st (v := .int .u8 (s.get! k).toNat) ?_ (.flat rfl)
  rw [ev,C]
  have H:s[k]? = some (s.get! k):=getElem?_get! s k z
  simp [Instr.index,asIntOf,run_underlying (EJ hs),H]
 ·rename_i cs hx0
  cases ha:EE P t with
  | none=>simp [ha] at hob
  | some p =>
   obtain ⟨m,sz,N⟩:=p
   simp only [ha] at hob ⊢
   obtain ⟨D,y,d,E,K,F,hs⟩:=hob
   obtain ⟨O,G,u⟩:=Qg ha
   obtain ⟨C,_⟩:=(A2 h y).int d
   have r:=A2 h D
   rw [hx0] at r
   obtain ⟨c,ev,o,b,l⟩:=r.agg_inv rfl
   simp only [AV.cells] at o b l
   generalize AD (Az e i)=q at *
   obtain ⟨k,rfl⟩:=Int.eq_ofNat_of_zero_le E
   have z:k<m:=by omega
   have g:k*sz+sz≤cs.length:=by rw [F,←Nat.succ_mul];exact Nat.mul_le_mul_right _ z
   refine .here h.st (v:=if N then .agg ((List.range sz).map fun j=>c.getD (k*sz+j) undef).toArray else c.getD (k*sz) undef) ?_ ?_
   ·rw [ev,C]
    simp only [Instr.index,asIntOf,Sem.run_bind,Sem.run_pure,Result.andThen_ok,run_underlying G]
    rw [Ai ⟨by omega,by omega⟩]
    simp only [Sem.run_bind,Be u,Result.andThen_ok,Int.toNat_natCast]
    exact UH u (by rw [o];exact g) hs
   ·simp only [Int.toNat_natCast]
    exact PC (f:=fun j=>c.getD (k*sz+j) undef) b g hs (fun j J=>l _ J)
 ·exact hob.elim
theorem Zn (h:Rel w0 n M e st a w) (x:Operand) (i:Nat) (hob:(AZ P e true st (.extract x i)).1) :
  Yields' P w0 M (AZ P e true st (.extract x i)).2.2 (AZ P e true st (.extract x i)).2.1 w (do pure (.value (← Instr.extract (a.eval x) i))):=by
 unfold AZ Sz at hob ⊢
 simp only at hob ⊢
 split at hob
 ·rename_i vs hx0
  obtain ⟨c,b⟩:=hob
  have hR:=A2 h c
  rw [hx0] at hR
  generalize a.eval x=v at hR ⊢
  cases hR with
  | tup hl hR =>
   rename_i cs
   rw [Zcz b]
   refine .here h.st (v:=cs[i]'(by omega)) ?_ (hR i (by omega) b)
   simp [Instr.extract,show i<cs.size by omega]
 ·exact hob.elim
theorem Zgc (h:Rel w0 n M e st a w) (x:Operand) (t ty:TypeId) (hx:AH e true x) (hob:(Up P t (Az e x)).1) :
  Yields' P w0 M st (Up P t (Az e x)).2 w (do pure (.value (← Builtin.len_ #[t] ty #[a.eval x]))):=by
 have hR:=A2 h hx
 unfold Up at hob ⊢
 split at hob
 ·rename_i s hx0
  rw [hx0] at hR
  obtain ⟨ev,_⟩:=hR.val_inv
  refine .here h.st (v := .int .i64 s.size) ?_ (.flat rfl)
  rw [ev]
  simp [Builtin.len_,run_underlying (EJ hob),goInt]
 ·rename_i xs o hx0
  rw [hx0] at hR
  obtain ⟨b,f,ev,_⟩:=hR.list_inv rfl
  simp only [AM] at ev
  obtain ⟨p,c⟩:=Option.isSome_iff_exists.1 hob
  obtain ⟨j,sz,k,d⟩:=p
  obtain ⟨i,g,_⟩:=FV c
  refine .here h.st (v := .int .i64 xs.length) ?_ (.flat rfl)
  rw [ev]
  simp [Builtin.len_,run_underlying g,goInt]
 ·rename_i id ver o n' hx0
  rw [hx0] at hR
  obtain ⟨p,c⟩:=Option.isSome_iff_exists.1 hob
  obtain ⟨j,sz,k,d⟩:=p
  obtain ⟨i,g,_⟩:=FV c
  generalize hev:a.eval x=v at hR
  cases hR with
  | @vec _ _ _ _ p f hid hv hh =>
   refine .here h.st (v := .int .i64 n') ?_ (.flat rfl)
   simp [Builtin.len_,run_underlying g,goInt]
 ·exact hob.elim
theorem Dx {v:Value} {k:IntKind} {q:Nat} {y:Nat} {code:BoundsCode} (hv:v = .int k q) (h:q≤y) (w:World):(Instr.sliceBound v y code).run P w = .ok q w:=by
 subst hv
 simp [Instr.sliceBound,asIntOf]
 omega
theorem OT (h:Rel w0 n M e st a w) (isl:Bool) (len cap:Nat) (hlc:len≤cap) {lo hi:Option Operand} (hlo:MS e true lo) (hhi:MS e true hi)
  {l u:Nat} (el:B7 e 0 lo=l) (eu:B7 e len hi=u) (h1:l≤u) (h2:u≤len) :
  (Instr.sliceBounds isl len cap (lo.map a.eval) (hi.map a.eval) none).run P w = .ok (l,u,cap) w:=by
 have H:∀ (y:Operand),(AH e true y∧Dt (Az e y)=true)→∃ k,a.eval y = .int k (AD (Az e y)):=fun y d=>⟨_,((A2 h d.1).int d.2).1⟩
 cases hi with
 | none =>
  simp only [B7] at eu
  have eu':u=len:=by omega
  subst eu'
  cases lo with
  | none =>
   simp only [B7] at el
   have el':l=0:=by omega
   subst el'
   simp [Instr.sliceBounds]
  | some y =>
   obtain ⟨k,b⟩:=H y hlo
   simp only [B7] at el
   rw [el] at b
   simp [Instr.sliceBounds,Dx b h1]
 | some z =>
  obtain ⟨g,c⟩:=H z hhi
  simp only [B7] at eu
  rw [eu] at c
  have f:u≤cap:=by omega
  cases lo with
  | none =>
   simp only [B7] at el
   have el':l=0:=by omega
   subst el'
   simp [Instr.sliceBounds,Dx c f]
  | some y =>
   obtain ⟨k,b⟩:=H y hlo
   simp only [B7] at el
   rw [el] at b
   simp [Instr.sliceBounds,Dx c f,Dx b h1]
theorem R.empty (b off cap:Nat) (hm:cap≤maxLen):R w0 M w (.slice (some ⟨b,off,none⟩) 0 cap) (.list [] .none) :=
 R.list (xs:=[]) 0 (fun _=>undef) (Nat.zero_le _) hm (fun i a=>absurd a (by simp)) (fun i a=>absurd a (by simp)) trivial
theorem R.sub {b off cap : Nat} {xs : List AV} {o : Own} (h : R w0 M w (.slice (some ⟨b, off, none⟩) xs.length cap) (.list xs o)) {l u sz : Nat} (hl : l ≤ u) (hu : u ≤ xs.length) (hsz : l = 0 ∨ ∀ y ∈ xs, y.cells.length = sz) (hne : cap ≠ l) :
    R w0 M w (.slice (some ⟨b, off + l * sz, none⟩) (u - l) (cap - l)) (.list ((xs.take u).drop l) .none) := by
  generalize hv : Value.slice (some ⟨b, off, none⟩) xs.length cap = v at h
  cases h with
  | nil ho => cases hv
  | emp ho => cases hv; simp at hu; subst hu; have : l = 0 := by omega
              subst this; exact absurd rfl hne
  | @list b' off' cap' _ _ sz' us hc hm hcell hus ho =>
    cases hv
    have hlen : ((xs.take u).drop l).length = u - l := by simp; omega
    rw [← hlen]
    have eo : ∀ i, i < u - l → off + l * sz + i * sz' = off + (l + i) * sz' := by
      intro i hi
      rcases hsz with rfl | hsz
      · simp
      · have e : sz' = sz := by
          have h1 : (us i).cells.size = sz' := (hcell i (by omega)).1
          rw [← h1, (hus i (by omega)).cells.1, hsz _ (List.getElem_mem _)]
        rw [e, Nat.add_mul]; omega
    refine .list sz' (fun i => us (l + i)) (by rw [hlen]; omega) (by omega) (fun i hi => ?_) (fun i hi => ?_) trivial
    · rw [hlen] at hi
      obtain ⟨h1, h2⟩ := hcell (l + i) (by omega)
      refine ⟨h1, fun j hj => ?_⟩
      rw [eo i hi]
      exact h2 j hj
    · rw [hlen] at hi
      simp only [List.getElem_drop, List.getElem_take]
      exact hus (l + i) (by omega)
theorem ZbR (h:Rel w0 n M e st a w) (t:TypeId) (x:Operand) (lo hi mx:Option Operand) (hob:(AZ P e true st (.slice t x lo hi mx)).1) :
  Yields' P w0 M (AZ P e true st (.slice t x lo hi mx)).2.2 (AZ P e true st (.slice t x lo hi mx)).2.1 w (do pure (.value (← Instr.sliceAt t (a.eval x) (lo.map a.eval) (hi.map a.eval) (mx.map a.eval)))):=by
 unfold AZ at hob ⊢
 simp only at hob ⊢
 split at hob
 ·rename_i id ver o n' hx0
  cases hp:KA P t with
  | none=>simp [hp] at hob
  | some p =>
  obtain ⟨el,sz,ag,ae⟩:=p
  cases hvr:Ey st.rows id ver with
  | none=>simp [hp,hvr] at hob
  | some q =>
  obtain ⟨N,cs⟩:=q
  simp only [hp,hvr] at hob ⊢
  obtain ⟨G,j,l,hm,D,u,J,V,rfl⟩:=hob
  have hR:=A2 h G
  rw [hx0] at hR
  obtain ⟨i,O,_,_,E⟩:=FV hp
  cases mx with
  | some _=>cases hm
  | none =>
   obtain ⟨d,g⟩:=Int.eq_ofNat_of_zero_le D
   obtain ⟨C,f⟩:=Int.eq_ofNat_of_zero_le (Int.le_trans D u)
   rw [g,f] at u
   rw [f] at J
   rw [g] at V
   rw [g,f]
   simp only [Int.toNat_natCast]
   generalize hev:a.eval x=v at hR
   cases hR with
   | @vec _ _ _ _ p c hid hv hh =>
    obtain ⟨f1,f2,_⟩:=h.st.row id _ (EB hvr)
    obtain ⟨rfl,af,Z⟩:=hh f1.symm
    have K:=OT (P:=P) h true n' c Z j l g f (by omega) (by omega)
    refine .here h.st (v := .slice (if c=d then some ⟨M.blk id,o*M.rsz id,none⟩ else (some (⟨M.blk id,o*M.rsz id,none⟩:Addr)).map (·.add (d*N))) (C-d) (c-d)) ?_ ?_
    ·simp only [Instr.sliceAt,Instr.slice,Sem.run_bind,run_underlying O,Result.andThen_ok,Option.map_none,K,Be E,Sem.run_pure]
    ·refine .vec hid hv fun _=>⟨?_,by omega,by omega⟩
     by_cases hcl:c=d
     ·have:d=0:=by omega
      rw [Ai hcl,this];simp
     ·rw [Aj hcl]
      simp only [Option.map_some,Eb]
      rw [f2,Nat.add_mul]
 ·rename_i s hx0
  obtain ⟨hs,G,j,l,hm,D,u,J⟩:=hob
  have hR:=A2 h G
  rw [hx0] at hR
  obtain ⟨ev,hf⟩:=hR.val_inv
  cases mx with
  | some _=>cases hm
  | none =>
   have K:=OT (P:=P) h false s.size s.size (Nat.le_refl _) j l (Int.toNat_of_nonneg D).symm (Int.toNat_of_nonneg (Int.le_trans D u)).symm (by omega) (by omega)
   refine .here h.st (v := .string (s.extract (B7 e 0 lo).toNat (B7 e s.size hi).toNat)) ?_ (.flat ?_)
   ·rw [ev]
    simp only [Instr.sliceAt,Instr.slice,Sem.run_bind,run_underlying (EJ hs),Result.andThen_ok,Option.map_none,Option.isSome_none,Bool.false_eq_true,if_false,K,Sem.run_pure]
   ·simp only [FB,decide_eq_true_eq] at hf ⊢
    simp only [ByteArray.size_extract]
    omega
 ·rename_i xs o hx0
  cases hp:KA P t with
  | none=>simp [hp] at hob
  | some p =>
   obtain ⟨el,sz,ag,ae⟩:=p
   simp only [hp] at hob ⊢
   cases mx with
   | some m =>
    simp only at hob ⊢
    obtain ⟨G,j,l,hm,D,u,J⟩:=hob
    have hR:=A2 h G
    rw [hx0] at hR
    obtain ⟨i,O,_,_,E⟩:=FV hp
    have H:∀ (y:Operand),(AH e true y∧Dt (Az e y)=true)→∃ k,a.eval y = .int k (AD (Az e y)):=fun y hy=>⟨_,((A2 h hy.1).int hy.2).1⟩
    cases hi with
    | none=>simp [B7] at u
    | some z =>
     obtain ⟨k2,kz⟩:=H z l
     obtain ⟨k3,km⟩:=H m hm
     simp only [B7] at u J
     rw [u] at kz
     rw [J] at km
     have K:∀ (ln c:Nat),ln≤c→(Instr.sliceBounds true ln c (lo.map a.eval) ((some z).map a.eval) ((some m).map a.eval)).run P w = .ok (0,0,0) w:=by
      intro ln c Q
      have e1:=Dx (P:=P) (k:=k3) (q:=0) (y:=c) (code := .slice3Acap) km (Nat.zero_le _) w
      have e2:=Dx (P:=P) (k:=k2) (q:=0) (y:=0) (code := .slice3B) kz (Nat.zero_le _) w
      cases lo with
      | none=>simp [Instr.sliceBounds,e1,e2]
      | some y =>
       obtain ⟨k,ky⟩:=H y j
       simp only [B7] at D
       rw [D] at ky
       have e3:=Dx (P:=P) (k:=k) (q:=0) (y:=0) (code := .slice3C) ky (Nat.zero_le _) w
       simp [Instr.sliceBounds,e1,e2,e3]
     obtain ⟨v,hv⟩:∃ v,a.eval x=v:=⟨_,rfl⟩
     rw [hv] at hR
     have fin:∀ (r:Option Addr) (ln c:Nat),ln≤c→v = .slice r ln c→R w0 M w (.slice r 0 0) (.list [] .full) →
       Yields' P w0 M st (.list [] .full) w (do pure (.value (← Instr.sliceAt t (a.eval x) (lo.map a.eval) (Option.map a.eval (some z)) (Option.map a.eval (some m))))):=by
      intro r ln c Q e1 hr
      refine .here h.st ?_ hr
      rw [hv,e1]
      simp only [Instr.sliceAt,Instr.slice,Sem.run_bind,run_underlying O,Result.andThen_ok,K ln c Q,Be E,Sem.run_pure]
      simp
     cases hR with
     | nil ho=>exact fin none 0 0 (Nat.le_refl _) rfl (by simpa using R.nil (fun id=>by simp))
     | @emp r _ ho=>exact fin (some r) 0 0 (Nat.le_refl _) rfl (.emp (fun id=>by simp))
     | @list b off c _ _ N us hc hm' hcell hu' ho =>
      exact fin _ _ c hc rfl (R.list (xs:=[]) 0 (fun _=>undef) (Nat.zero_le _) (Nat.zero_le _) (fun i hi=>absurd hi (by simp)) (fun i hi=>absurd hi (by simp)) rfl)
   | none =>
   obtain ⟨G,j,l,D,u,J,V⟩:=hob
   have hR:=A2 h G
   rw [hx0] at hR
   obtain ⟨i,O,_,_,E⟩:=FV hp
   ·obtain ⟨d,g⟩:=Int.eq_ofNat_of_zero_le D
    obtain ⟨C,f⟩:=Int.eq_ofNat_of_zero_le (Int.le_trans D u)
    rw [g,f] at u
    rw [f] at J
    rw [g] at V
    rw [g,f]
    have U:d≤C:=by omega
    have F:C≤xs.length:=by omega
    simp only [Int.toNat_natCast]
    have ab:d=0∨∀ y∈xs,y.cells.length=sz:=V.imp (fun q=>by omega) id
    have go:∀ (r:Option Addr) (c:Nat),xs.length≤c→a.eval x = .slice r xs.length c →
      R w0 M w (.slice (if c=d then r else r.map (·.add (d*sz))) (C-d) (c-d)) (.list ((xs.take C).drop d) .none) →
      Yields' P w0 M st (.list ((xs.take C).drop d) .none) w (do pure (.value (← Instr.sliceAt t (a.eval x) (lo.map a.eval) (hi.map a.eval) (Option.map a.eval none)))):=by
     intro r c Y ev hr
     have K:=OT (P:=P) h true xs.length c Y j l g f U F
     refine .here h.st ?_ hr
     rw [ev]
     simp only [Instr.sliceAt,Instr.slice,Sem.run_bind,run_underlying O,Result.andThen_ok,Option.map_none,K,Be E,Sem.run_pure]
    generalize hv:a.eval x=v at hR go
    have aa:=hR
    cases hR with
    | nil ho =>
     have e1:C=0:=by simpa using F
     have e2:d=0:=by omega
     subst e1;subst e2
     refine go none 0 (Nat.le_refl _) rfl ?_
     simpa using (R.nil (w0:=w0) (M:=M) (w:=w) (o := .none) (fun id=>by simp))
    | @emp r _ ho =>
     have e1:C=0:=by simpa using F
     have e2:d=0:=by omega
     subst e1;subst e2
     refine go (some r) 0 (Nat.le_refl _) rfl ?_
     simpa using (R.emp (w0:=w0) (M:=M) (w:=w) (a:=r) (o := .none) (fun id=>by simp))
    | @list b off c _ _ N us hc hm' hcell hu' ho =>
     refine go (some ⟨b,off,none⟩) c hc rfl ?_
     by_cases hcl:c=d
     ·have e1:C=d:=by omega
      have:(xs.take C).drop d=[]:=by rw [e1];simp
      rw [this,Ai hcl,e1,Nat.sub_self]
      exact R.empty _ _ _ (by omega)
     ·rw [Aj hcl]
      simp only [Option.map_some,Eb]
      exact aa.sub U F ab hcl
 ·exact hob.elim
theorem ZgH (h:Rel w0 n M e st a w) (x y:Operand) (ts:Array TypeId) (t:TypeId) (hx:AH e true x) (hy:AH e true y) (ix:Dt (Az e x)=true) (iy:Dt (Az e y)=true) :
  Yields' P w0 M st (.val (.int (JF (Az e x)) (if AD (Az e y)<AD (Az e x) then AD (Az e y) else AD (Az e x)))) w (do pure (.value (← Builtin.min_ ts t #[a.eval x,a.eval y]))):=by
 rw [((A2 h hx).int ix).1,((A2 h hy).int iy).1]
 exact .here h.st (by simp [Builtin.min_,Builtin.min2]) (.flat rfl)
theorem ZgF (h:Rel w0 n M e st a w) (x y:Operand) (ts:Array TypeId) (t:TypeId) (hx:AH e true x) (hy:AH e true y) (ix:Dt (Az e x)=true) (iy:Dt (Az e y)=true) :
  Yields' P w0 M st (.val (.int (JF (Az e x)) (if AD (Az e x)<AD (Az e y) then AD (Az e y) else AD (Az e x)))) w (do pure (.value (← Builtin.max_ ts t #[a.eval x,a.eval y]))):=by
 rw [((A2 h hx).int ix).1,((A2 h hy).int iy).1]
 exact .here h.st (by simp [Builtin.max_,Builtin.max2]) (.flat rfl)
end
section
variable {P:Program} {w0:World} {n:Nat} {M:Mem} {e:Env} {st:St} {a:Act} {w:World}
theorem RelSt.box_lt (h:RelSt w0 M st w) {l:Nat} (hl:l<M.N):M.bx l<w.heap.size:=by
 have a:l<st.boxes.length:=by rw [←h.N];exact hl
 obtain ⟨_,_,c,d,b,_⟩:=h.box l _ (List.getElem?_eq_getElem a)
 exact (Array.getElem?_eq_some_iff.1 b).1
theorem RelSt.row_lt (h:RelSt w0 M st w) {i:Nat} (hi:i<M.NR):M.blk i<w.heap.size:=by
 have a:i<st.rows.length:=by rw [←h.NR];exact hi
 exact (h.row i _ (List.getElem?_eq_getElem a)).lt
theorem RelSt.base_le (h:RelSt w0 M st w):w0.heap.size≤w.heap.size:=h.below.size
theorem RelSt.drew (h:RelSt w0 M st w):RelSt w0 M st w.drew∧Ext w0 M w M w.drew :=
 have b:Ext w0 M w M w.drew:=⟨Nat.le_refl _,fun _ _=>rfl,Nat.le_refl _,fun _ _=>⟨Nat.le_refl _,fun _=>⟨rfl,rfl,rfl⟩⟩,fun _ _ _ j d=>⟨d,j⟩,Nat.le_refl _,Nat.le_refl _,fun _ _=>rfl,fun _ _ _=>by omega,fun _ _ h _ _=>h⟩
 ⟨⟨h.below.drew,h.N,h.NR,h.top,h.inj,fun l cs e=>by
   obtain ⟨a1,a2,c,g,a3,a4,a5,a6⟩:=h.box l cs e
   exact ⟨a1,a2,c,g,a3,a4,a5,fun i k f=>(a6 i k f).mono b⟩,fun id x a=>(h.row id x a).keep b rfl rfl rfl rfl rfl (h.row id x a).ne rfl,h.rowinj,h.loop.mono b rfl fun _ _ h _=>h⟩,b⟩
def Mem.newTop (M:Mem) (b k:Nat):Mem:={ M with top:=fun x=>if x=b then k else M.top x }
theorem O3 (M':Mem) (o:Obj) (hN:M'.N=M.N∨M'.N=M.N+1) (hb:∀ l,l<M.N→M'.bx l=M.bx l) (hNR:M.NR≤M'.NR)
  (hr:∀ id,id<M.NR→M.fr id≤M'.fr id∧(M'.fr id=M.fr id→M'.blk id=M.blk id∧M'.cap id=M.cap id∧M'.rsz id=M.rsz id)) (ht:∀ b,b<w.heap.size→M.top b≤M'.top b) (hNL:M'.NL=M.NL:=by rfl) (hlb:M'.lb=M.lb:=by rfl) :
  Ext w0 M w M' (w.alloc o) :=
 ⟨by omega,hb,hNR,hr,fun b f v hi c=>by
  have a:=World.block_lt_of_cell? w _ c
  refine ⟨by rw [World.cell?_alloc_lt _ _ _ a];exact c,?_⟩
  rcases hi with hi | hi
  ·exact .inl hi
  ·exact .inr (Nat.lt_of_lt_of_le hi (ht b a)),by simp,by omega,fun _ _=>by rw [hlb],fun _ _ _=>by omega,fun b o' e d _=>KeepsObj.alloc w o b o' e d⟩
theorem Br (w:World) (o:Obj) {k:Nat} (h:k<w.heap.size):(w.alloc o).heap[k]? = w.heap[k]? := Below.heap_alloc w o k h
theorem RelSt.newTop (h:RelSt w0 M st w) (cs:Array Value) (ty:TypeId) (k:Nat) :
  RelSt w0 (M.newTop w.heap.size k) st (w.alloc (.cells cs ty))∧Ext w0 M w (M.newTop w.heap.size k) (w.alloc (.cells cs ty)):=by
 have j:∀ b,b<w.heap.size→(M.newTop w.heap.size k).top b=M.top b:=fun b e=>by simp [Mem.newTop];omega
 have f:Ext w0 M w (M.newTop w.heap.size k) (w.alloc (.cells cs ty)) :=
  O3 _ _ (.inl rfl) (fun _ _=>rfl) (Nat.le_refl _) (fun _ _=>⟨Nat.le_refl _,fun _=>⟨rfl,rfl,rfl⟩⟩) (fun b e=>by rw [j b e];exact Nat.le_refl _)
 refine ⟨⟨h.below.alloc h.base_le _,h.N,h.NR,fun b e=>?_,h.inj,fun l c m=>?_,fun id x a=>(h.row id x a).keep f rfl rfl rfl rfl (j _ (h.row id x a).lt) (h.row id x a).ne (Br _ _ (h.row id x a).lt),h.rowinj,h.loop.mono f rfl (KeepsObj.alloc _ _)⟩,f⟩
 ·simp at e
  have:(M.newTop w.heap.size k).top b=M.top b:=by simp [Mem.newTop];omega
  rw [this]
  exact h.top b (by omega)
 ·obtain ⟨a1,a2,o,g,a3,a4,a5,a6⟩:=h.box l c m
  have d:=(Array.getElem?_eq_some_iff.1 a3).1
  exact ⟨a1,by rw [show (M.newTop w.heap.size k).bx l=M.bx l from rfl,j _ d];exact a2,o,g,by rw [show (M.newTop w.heap.size k).bx l=M.bx l from rfl,Br _ _ d];exact a3,a4,a5,fun i p n=>(a6 i p n).mono f⟩
theorem RelSt.later (h:RelSt w0 M st w) {w':World} (hb:Below w.heap.size w w') (b k:Nat) (hw:w.heap.size≤b) (hk:b<w'.heap.size∨k=0) :
  RelSt w0 (M.newTop b k) st w'∧Ext w0 M w (M.newTop b k) w':=by
 have s:∀ x,x<w.heap.size→(M.newTop b k).top x=M.top x:=fun x j=>by simp [Mem.newTop];omega
 have p:∀ x,x<w.heap.size→w'.heap[x]? = w.heap[x]? := hb.block
 have m:KeepsObj w w':=fun x o f _=>(p x (Array.getElem?_eq_some_iff.1 f).1).trans f
 have j:Ext w0 M w (M.newTop b k) w' :=
  ⟨Nat.le_refl _,fun _ _=>rfl,Nat.le_refl _,fun _ _=>⟨Nat.le_refl _,fun _=>⟨rfl,rfl,rfl⟩⟩,fun x z v u n=>by
   have a:=World.block_lt_of_cell? w _ n
   refine ⟨?_,u.imp id fun q=>by rw [s x a];exact q⟩
   unfold World.cell? at n ⊢
   simp only [p x a] at n ⊢
   exact n,hb.size,Nat.le_refl _,fun _ _=>rfl,fun _ f g=>absurd g (Nat.not_lt.2 f),fun x o f g _=>m x o f g⟩
 refine ⟨⟨h.below.trans (hb.mono h.base_le),h.N,h.NR,fun x C=>?_,h.inj,fun l c t=>?_,fun id x d=>(h.row id x d).keep j rfl rfl rfl rfl (s _ (h.row id x d).lt) (h.row id x d).ne (p _ (h.row id x d).lt),h.rowinj,h.loop.mono j rfl m⟩,j⟩
 ·have:=hb.size
  by_cases c:x=b
  ·have e:(M.newTop b k).top x=k:=by simp [Mem.newTop,c]
   rw [e]
   rcases hk with hk | hk
   ·omega
   ·exact hk
  ·have e:(M.newTop b k).top x=M.top x:=by simp [Mem.newTop,c]
   rw [e]
   exact h.top x (by omega)
 ·obtain ⟨a1,a2,y,r,a3,a4,a5,a6⟩:=h.box l c t
  have a:=(Array.getElem?_eq_some_iff.1 a3).1
  exact ⟨a1,by rw [show (M.newTop b k).bx l=M.bx l from rfl,s _ a];exact a2,y,r,by rw [show (M.newTop b k).bx l=M.bx l from rfl,p _ a];exact a3,a4,a5,fun i f g=>(a6 i f g).mono j⟩
def Mem.newBox (M:Mem) (b:Nat):Mem:={ M with N:=M.N+1,bx:=fun l=>if l=M.N then b else M.bx l }
theorem RelSt.newBox (h:RelSt w0 M st w) (v:Value) (x:AV) (ty:TypeId) (hR:R w0 M w v x) (hn:AX x=true) :
  RelSt w0 (M.newBox w.heap.size) { st with boxes:=st.boxes++[x.cells] } (w.alloc (.cells v.cells ty))∧Ext w0 M w (M.newBox w.heap.size) (w.alloc (.cells v.cells ty)) ∧
   R w0 (M.newBox w.heap.size) (w.alloc (.cells v.cells ty)) (.pointer (some ⟨w.heap.size,0,none⟩)) (.box st.boxes.length 0):=by
 have d:∀ l,l<M.N→(M.newBox w.heap.size).bx l=M.bx l:=fun l hl=>by simp [Mem.newBox];omega
 have a:(M.newBox w.heap.size).bx M.N=w.heap.size:=by simp [Mem.newBox]
 have m:Ext w0 M w (M.newBox w.heap.size) (w.alloc (.cells v.cells ty)) :=
  O3 _ _ (.inr rfl) d (Nat.le_refl _) (fun _ _=>⟨Nat.le_refl _,fun _=>⟨rfl,rfl,rfl⟩⟩) (fun b q=>Nat.le_refl _)
 have o:=hR.mono m
 refine ⟨⟨h.below.alloc h.base_le _,by simp [Mem.newBox,h.N],h.NR,fun b q=>h.top b (by simp at q;omega),fun l k hl f e=>?_,fun l c hl=>?_,fun id x g=>?_,h.rowinj,h.loop.mono m rfl (KeepsObj.alloc _ _)⟩,m,?_⟩
 ·have p:(M.newBox w.heap.size).N=M.N+1:=rfl
  rw [p] at hl f
  by_cases e1:l=M.N
  ·by_cases e2:k=M.N
   ·omega
   ·subst e1
    rw [a,d k (by omega)] at e
    have:=h.box_lt (l:=k) (by omega)
    omega
  ·by_cases e2:k=M.N
   ·subst e2
    rw [a,d l (by omega)] at e
    have:=h.box_lt (l:=l) (by omega)
    omega
   ·rw [d l (by omega),d k (by omega)] at e
    exact h.inj l k (by omega) (by omega) e
 ·by_cases e1:l=M.N
  ·subst e1
   simp only [h.N,List.getElem?_concat_length,Option.some.injEq] at hl
   subst hl
   rw [a]
   obtain ⟨hs,hc⟩:=o.cells
   refine ⟨h.base_le,h.top _ (Nat.le_refl _),v.cells,ty,heap_alloc_new w _,hs,hR.cellsOne (fun vs e=>by subst e;cases hn),hc⟩
  ·have f:l<M.N:=by
    have:l<(st.boxes++[x.cells]).length:=(Ak.1 hl).1
    have p:=h.N
    simp at this
    omega
   rw [List.getElem?_append_left (by rw [←h.N];exact f)] at hl
   obtain ⟨a1,a2,s,n,a3,a4,a5,a6⟩:=h.box l c hl
   have j:=(Array.getElem?_eq_some_iff.1 a3).1
   rw [d l f]
   exact ⟨a1,a2,s,n,by rw [Br _ _ j];exact a3,a4,a5,fun i t r=>(a6 i t r).mono m⟩
 ·have j:=(h.row id x g).lt
  refine (h.row id x g).keep m rfl rfl rfl rfl rfl (fun l hl=>?_) (Br _ _ j)
  by_cases e1:l=M.N
  ·subst e1
   rw [a]
   show w.heap.size≠M.blk id
   omega
  ·have p:(M.newBox w.heap.size).N=M.N+1:=rfl
   rw [d l (by omega)]
   exact (h.row id x g).ne l (by omega)
 ·have:=R.box (w0:=w0) (M:=M.newBox w.heap.size) (w:=w.alloc (.cells v.cells ty)) (l:=st.boxes.length) (off:=0) (by rw [←h.N];exact Nat.lt_succ_self _)
  rwa [←h.N,a,h.N] at this
theorem EQ {t:TypeId} {z:List AV} (h:BA P t=some z):∃ i v,P.info? t=some i∧i.zero=some v∧NY v=true∧v.cells.size=i.size∧z=(H8 v).cells:=by
 unfold BA at h
 split at h
 ·rename_i i hi
  split at h
  ·rename_i v hv
   split at h
   ·rename_i hc
    simp only [Bool.and_eq_true,beq_iff_eq] at hc
    exact ⟨i,v,hi,hv,hc.1,hc.2,(Option.some.inj h).symm⟩
   ·cases h
  ·cases h
 ·cases h
theorem LQ {v:Value} (h:NY v=true):AX (H8 v)=true:=by
 have hc:∀ u,AX (Me u)=true:=fun u=>by unfold Me;split<;>rfl
 cases v<;>first | rfl | exact hc _
theorem Zcc (h:Rel w0 n M e st a w) (t:TypeId) (hob:(AZ P e true st (.alloc t)).1) :
  Yields' P w0 M (AZ P e true st (.alloc t)).2.2 (AZ P e true st (.alloc t)).2.1 w (do pure (.value (← Instr.alloc t true (.tuple #[])))):=by
 unfold AZ at hob ⊢
 cases hz:BA P t with
 | none=>simp [hz] at hob
 | some z =>
  simp only [hz]
  obtain ⟨i,v,d,hv,b,hs,rfl⟩:=EQ hz
  obtain ⟨f,c,g⟩:=h.st.newBox v (H8 v) t (O5 b) (LQ b)
  refine .value ⟨_,_,_,?_,c,f,g⟩
  simp [Instr.alloc,zeroValue,typeInfo,d,hv,newVar,newRow]
theorem ZgS (h:Rel w0 n M e st a w) (t:TypeId) (x:Operand) (hob:(AZ P e true st (.box t x)).1) :
  Yields' P w0 M (AZ P e true st (.box t x)).2.2 (AZ P e true st (.box t x)).2.1 w (do pure (.value (← Instr.box t (a.eval x)))):=by
 obtain ⟨_,f,b⟩:=hob
 obtain ⟨d,c,g⟩:=h.st.newBox (a.eval x) (Az e x) t (A2 h f) b
 refine .value ⟨_,_,_,?_,c,d,g⟩
 simp [Instr.box,newVar,newRow]
theorem U2 (vs:List Value):∀ (k:Nat) (cs:Array Value) (off:Nat),off+k+vs.length≤cs.size →
  ((vs.zipIdx k).foldl (fun cs (x:Value × Nat)=>cs.setIfInBounds (off+x.2) x.1) cs).size=cs.size ∧
  ∀ j,((vs.zipIdx k).foldl (fun cs (x:Value × Nat)=>cs.setIfInBounds (off+x.2) x.1) cs)[j]? = if off+k≤j∧j<off+k+vs.length then vs[j-(off+k)]? else cs[j]? := by
 induction vs with
 | nil=>intro k cs off h;exact ⟨rfl,fun j=>by simp;omega⟩
 | cons v vs ih =>
  intro k cs off h
  simp only [List.length_cons] at h
  simp only [List.zipIdx_cons,List.foldl_cons,List.length_cons]
  obtain ⟨c,b⟩:=ih (k+1) (cs.setIfInBounds (off+k) v) off (by simp;omega)
  refine ⟨by rw [c];simp,fun j=>?_⟩
  rw [b j]
  by_cases c1:off+(k+1)≤j∧j<off+(k+1)+vs.length
  ·rw [Ai c1,Ab,show j-(off+k)=(j-(off+(k+1)))+1 from by omega]
   simp
  ·rw [Aj c1]
   by_cases c2:j=off+k
   ·subst c2
    have a:off+k<cs.size:=by omega
    rw [Ab]
    simp [a]
   ·rw [Aa,Array.getElem?_setIfInBounds_ne (by omega)]
theorem KV {l xs:List AV} {off:Nat} (h:off+xs.length≤l.length):(CM l off xs).length=l.length:=by
 simp [CM];omega
theorem Y1 {l xs:List AV} {off:Nat} (h:off+xs.length≤l.length) (j:Nat):(CM l off xs)[j]? = if off≤j∧j<off+xs.length then xs[j-off]? else l[j]? := by
 unfold CM
 rw [List.append_assoc,List.getElem?_append]
 simp only [List.length_take]
 have e:min off l.length=off:=by omega
 rw [e]
 by_cases c1:j<off
 ·rw [Ai c1,Aa,List.getElem?_take,Ai c1]
 ·rw [Aj c1,List.getElem?_append]
  by_cases c2:j-off<xs.length
  ·rw [Ai c2,Ab]
  ·rw [Aj c2,Aa,List.getElem?_drop]
   congr 1
   omega
theorem OL {l xs:List AV} {off:Nat} (h1:∀ x∈l,x.one=true) (h2:∀ x∈xs,x.one=true):∀ x∈CM l off xs,x.one=true:=by
 intro x hx
 simp only [CM,List.mem_append] at hx
 rcases hx with (hx | hx) | hx
 ·exact h1 x (List.mem_of_mem_take hx)
 ·exact h2 x hx
 ·exact h1 x (List.mem_of_mem_drop hx)
def RowR (w0:World) (M:Mem) (w:World) (cs:Array Value) (l:List AV):Prop:=cs.size=l.length∧∀ i (h1:i<cs.size) (h2:i<l.length),R w0 M w cs[i] l[i]
theorem RowR.get {cs:Array Value} {l:List AV} (h:RowR w0 M w cs l) {i:Nat} {v:Value} {x:AV} (hv:cs[i]? = some v) (hx:l[i]? = some x):R w0 M w v x:=by
 obtain ⟨a1,rfl⟩:=Array.getElem?_eq_some_iff.1 hv
 obtain ⟨a2,rfl⟩:=Ak.1 hx
 exact h.2 i a1 a2
theorem RowR.mk {cs:Array Value} {l:List AV} (hs:cs.size=l.length) (h:∀ (i:Nat) (v:Value) (x:AV),cs[i]? = some v→l[i]? = some x→R w0 M w v x):RowR w0 M w cs l :=
 ⟨hs,fun i a b=>h i _ _ (Array.getElem?_eq_getElem a) (List.getElem?_eq_getElem b)⟩
theorem RowR.put {cs cs':Array Value} {l:List AV} (h:RowR w0 M w cs l) {v:Value} {x:AV} (hR:R w0 M w v x) {off:Nat} (hoff:off+x.cells.length≤l.length) (hs:cs'.size=cs.size)
  (hg:∀ j,cs'[j]? = if off≤j∧j<off+v.cells.toList.length then v.cells.toList[j-off]? else cs[j]?):RowR w0 M w cs' (CM l off x.cells):=by
 obtain ⟨d,e⟩:=hR.cells
 refine .mk (by rw [hs,KV hoff];exact h.1) (fun i u y a b=>?_)
 rw [hg i] at a
 rw [Y1 hoff] at b
 simp only [Array.length_toList] at a
 rw [←d] at b
 by_cases c:off≤i∧i<off+v.cells.size
 ·rw [Ai c] at a b
  rw [Array.getElem?_toList] at a
  exact RowR.get ⟨d,e⟩ a b
 ·rw [Aj c] at a b
  exact h.get a b
theorem WC (t:TypeId) (pl:Nat→Option (Nat × Nat)) (hpl:∀ i o s,J9 P t i=some (o,s)→pl i=some (o,s)) :
  ∀ (vs:List (Nat × Value)) (xs:List (Nat × AV)) (cs:Array Value) (l:List AV),vs.length=xs.length→(∀ (k:Nat) (p:Nat × Value) (q:Nat × AV),vs[k]? = some p→xs[k]? = some q→p.1=q.1∧R w0 M w p.2 q.2∧AX q.2=true) →
   RowR w0 M w cs l→(∀ y∈l,y.one=true)→O1 P t l.length xs→∃ cs',Instr.fill pl cs vs=some cs'∧RowR w0 M w cs' (QL P t l xs)∧(∀ y∈QL P t l xs,y.one=true)
 | [],[],cs,l,_,_,h,h1,_=>⟨cs,rfl,h,h1⟩
 | [],_::_,_,_,hl,_,_,_,_=>by cases hl
 | _::_,[],_,_,hl,_,_,_,_=>by cases hl
 | (i,v)::vs,(i',x)::xs,cs,l,hl,hp,h,h1,hf=>by
  obtain ⟨rfl,g,hn⟩:=hp 0 _ _ rfl rfl
  simp only at g hn
  simp only [O1] at hf
  obtain ⟨d,m⟩:=hf
  simp only [Instr.fill,QL]
  cases hpp:J9 P t i with
  | none=>simp [hpp] at d
  | some p =>
   obtain ⟨o,s⟩:=p
   simp only [hpp] at d ⊢
   obtain ⟨a1,a2⟩:=d
   obtain ⟨z,C⟩:=g.cells
   rw [hpl i o s hpp]
   have u:(decide (v.cells.size≠s)||decide (o+v.cells.size > cs.size))=false:=by have:=h.1;simp;omega
   simp only [u,Bool.false_eq_true,if_false]
   have b:=U2 v.cells.toList 0 cs o (by simp;have:=h.1;omega)
   have a:(v.cells.zipIdx.foldl (fun cs (c,j)=>cs.setIfInBounds (o+j) c) cs)=(v.cells.toList.zipIdx 0).foldl (fun cs (x:Value × Nat)=>cs.setIfInBounds (o+x.2) x.1) cs:=by
    rw [←Array.foldl_toList]
    simp
   rw [a]
   simp only [Nat.add_zero] at b
   have f:=h.put g (off:=o) (by omega) b.1 b.2
   refine WC t pl hpl vs xs _ _ (by simpa using hl) (fun k p q n r=>hp (k+1) p q (by simpa using n) (by simpa using r)) f (OL h1 (g.cellsOne (fun vs e=>by subst e;cases hn))) ?_
   rw [KV (by omega)]
   exact m
theorem Xv {α β:Type} (f:α→Sem β) (g:α→β):∀ (l:List α),(∀ x∈l,∀ w,(f x).run P w = .ok (g x) w)→∀ w,(l.mapM f).run P w = .ok (l.map g) w
 | [],_,w=>by simp
 | x::l,h,w=>by simp [h x (by simp),Xv f g l (fun y a=>h y (by simp [a])) w]
theorem ZaF {α β:Type} (f:α→Sem β) (g:α→β) (xs:Array α) (h:∀ x∈xs.toList,∀ w,(f x).run P w = .ok (g x) w) (w:World):(xs.mapM f).run P w = .ok (xs.map g) w:=by
 rw [Array.mapM_eq_mapM_toList]
 simp only [Sem.run_map,Xv f g xs.toList h w,Result.andThen_ok]
 congr 1
 apply Array.ext'
 simp
theorem Oc:∀ (fs:List Field) (l:List (Nat × Nat)),O8 P fs=some l →
  l=fs.map (fun f=>(f.offset,P.cellsOf f.type))∧∀ f∈fs,∀ w,(sizeOf f.type).run P w = .ok (P.cellsOf f.type) w
 | [],l,h=>by cases h;exact ⟨rfl,fun f hf=>by cases hf⟩
 | f::fs,l,h=>by
  simp only [O8] at h
  split at h
  ·rename_i i r hi hr
   cases h
   obtain ⟨c,b⟩:=Oc fs r hr
   have a:P.cellsOf f.type=i.size:=by simp [Program.cellsOf,hi]
   refine ⟨by simp [a,←c],fun g hg w=>?_⟩
   rcases List.mem_cons.1 hg with rfl | hg
   ·simp [sizeOf,typeInfo,hi,a]
   ·exact b g hg w
  ·cases h
theorem Zb4 (h:Rel w0 n M e st a w) (t:TypeId) (ps:Array (Nat × Operand)) (hob:(AZ P e true st (.build t ps)).1) :
  Yields' P w0 M (AZ P e true st (.build t ps)).2.2 (AZ P e true st (.build t ps)).2.1 w (do pure (.value (← Instr.build t (ps.map fun (i,x)=>(i,a.eval x))))):=by
 unfold AZ at hob ⊢
 cases hz:BA P t with
 | none=>simp [hz] at hob
 | some z =>
  simp only [hz] at hob ⊢
  obtain ⟨F,y,D⟩:=hob
  obtain ⟨i,v,Q,hv,O,hs,rfl⟩:=EQ hz
  have u:R w0 M w v (H8 v):=O5 O
  have d:RowR w0 M w v.cells (H8 v).cells:=u.cells
  have g:=u.cellsOne (fun vs e=>by have:=LQ O;rw [e] at this;cases this)
  have j:∀ (k:Nat) (p:Nat × Value) (q:Nat × AV),((ps.map fun (i,x)=>(i,a.eval x)).toList)[k]? = some p→(ps.toList.map fun p=>(p.1,Az e p.2))[k]? = some q→p.1=q.1∧R w0 M w p.2 q.2∧AX q.2=true:=by
   intro k p q c V
   simp only [Array.toList_map,List.getElem?_map,Option.map_eq_some_iff] at c V
   obtain ⟨H,U,rfl⟩:=c
   obtain ⟨q0,h2,rfl⟩:=V
   rw [U] at h2
   cases h2
   have E:H∈ps.toList:=List.mem_of_getElem? U
   exact ⟨rfl,A2 h (y H E).1,(y H E).2⟩
  have r:((ps.map fun (i,x)=>(i,a.eval x)).toList).length=(ps.toList.map fun p=>(p.1,Az e p.2)).length:=by simp
  cases hpp:Cm P t with
  | some l =>
   unfold Cm at hpp
   split at hpp
   ·rename_i fs hu
    obtain ⟨Y,Z⟩:=Oc _ _ hpp
    have b:∀ i o s,J9 P t i=some (o,s)→((fs.map fun f=>(f.offset,P.cellsOf f.type))[·]?) i=some (o,s):=by
     intro i o s c
     simp only [J9,Cm,hu,hpp] at c
     rw [Y] at c
     simpa using c
    obtain ⟨cs',G,C,J⟩:=WC t _ b _ _ v.cells _ r j d g D
    refine .here h.st (v := .agg cs') ?_ (.agg C.1 J C.2)
    have E:=ZaF (P:=P) (fun (f:Field)=>(do pure (f.offset,←sizeOf f.type):Sem (Nat × Nat))) (fun f=>(f.offset,P.cellsOf f.type)) fs (fun f D w=>by simp [Z f D]) w
    simp only [Instr.build,zeroValue,typeInfo,Sem.run_bind,run_program,Result.andThen_ok,Q,hv,Sem.run_pure,run_underlying hu,E,G]
   ·cases hpp
  | none =>
   cases ha:EE P t with
   | none=>simp [hpp,ha] at F
   | some p =>
    obtain ⟨m,s,ag⟩:=p
    obtain ⟨el,hu,N⟩:=Qg ha
    have b:∀ i o K,J9 P t i=some (o,K)→(fun i=>some (i*s,s)) i=some (o,K):=by
     intro i o K c
     simpa [J9,hpp,ha] using c
    obtain ⟨cs',G,C,J⟩:=WC t _ b _ _ v.cells _ r j d g D
    refine .here h.st (v := .agg cs') ?_ (.agg C.1 J C.2)
    simp only [Instr.build,zeroValue,typeInfo,Sem.run_bind,run_program,Result.andThen_ok,Q,hv,Sem.run_pure,run_underlying hu,Be N,G]
theorem Tu (sz:Nat):∀ (vals:List Value) (k:Nat) (cs:Array Value),(∀ v∈vals,v.cells.size=sz)→(k+vals.length)*sz≤cs.size →
  ∃ cs',Instr.fill (fun i=>some (i*sz,sz)) cs ((vals.zipIdx k).map fun x=>(x.2,x.1))=some cs'∧cs'.size=cs.size∧(∀ j,j<k*sz→cs'[j]? = cs[j]?) ∧
   ∀ i v,vals[i]? = some v→∀ j,j<sz→cs'[(k+i)*sz+j]? = v.cells[j]?
 | [],k,cs,_,_=>⟨cs,rfl,rfl,fun _ _=>rfl,fun i v h=>by simp at h⟩
 | v::vals,k,cs,hv,hl=>by
  have f:=hv v (by simp)
  simp only [List.length_cons] at hl
  have d:(k+1)*sz≤cs.size:=Nat.le_trans (Nat.mul_le_mul_right _ (by omega)) hl
  rw [Nat.succ_mul] at d
  simp only [List.zipIdx_cons,List.map_cons,Instr.fill]
  have g:(decide (v.cells.size≠sz)||decide (k*sz+v.cells.size > cs.size))=false:=by simp;omega
  simp only [g,Bool.false_eq_true,if_false]
  have b:(v.cells.zipIdx.foldl (fun cs (c,j)=>cs.setIfInBounds (k*sz+j) c) cs)=(v.cells.toList.zipIdx 0).foldl (fun cs (x:Value × Nat)=>cs.setIfInBounds (k*sz+x.2) x.1) cs:=by
   rw [←Array.foldl_toList]
   simp
  have a:=U2 v.cells.toList 0 cs (k*sz) (by simp;omega)
  rw [b]
  simp only [Nat.add_zero,Array.length_toList,f] at a
  obtain ⟨cs',a1,a2,a3,a4⟩:=Tu sz vals (k+1) ((v.cells.toList.zipIdx 0).foldl (fun cs (x:Value × Nat)=>cs.setIfInBounds (k*sz+x.2) x.1) cs) (fun u hu=>hv u (by simp [hu])) (by rw [a.1];rw [show k+1+vals.length=k+(vals.length+1) from by omega];exact hl)
  refine ⟨cs',a1,by rw [a2,a.1],fun j e=>?_,fun i u hu j e=>?_⟩
  ·rw [a3 j (by rw [Nat.succ_mul];omega),a.2 j,Aa]
  ·cases i with
   | zero =>
    simp only [List.getElem?_cons_zero,Option.some.injEq] at hu
    subst hu
    simp only [Nat.add_zero]
    rw [a3 _ (by rw [Nat.succ_mul];omega),a.2,Ab,Array.getElem?_toList]
    congr 1
    omega
   | succ i =>
    have:=a4 i u (by simpa using hu) j e
    rw [←this,show k+(i+1)=k+1+i from by omega]
theorem Ve {ps:List (Nat × Operand)} {m:Nat} (h:ps.map (·.1)=List.range m) (f:Operand→Value) :
  (ps.map fun p=>(p.1,f p.2))=((ps.map fun p=>f p.2).zipIdx 0).map fun x=>(x.2,x.1):=by
 have a:ps.length=m:=by simpa using congrArg List.length h
 apply List.ext_getElem?
 intro i
 simp only [List.getElem?_map,List.getElem?_zipIdx]
 cases hp:ps[i]? with
 | none=>simp
 | some p =>
  have b:i<m:=by rw [←a];exact (Ak.1 hp).1
  have:=congrArg (·[i]?) h
  simp [hp,b] at this
  simp [this]
theorem R.row {cs:Array Value} {ty:TypeId} {xs:List AV} {sz k:Nat} (us:Nat→Value) (hu:∀ i (hi:i<xs.length),(us i).cells.size=sz∧R w0 M w (us i) xs[i])
  (hc:∀ i,i<xs.length→∀ j,j<sz→cs[i*sz+j]? = (us i).cells[j]?) {cap:Nat} (hcap:xs.length≤cap) (hm:cap≤maxLen) {o:Own} (hk:xs.length*sz≤k) (M':Mem) (hM:M'.top w.heap.size=k)
  (hx:Ext w0 M w M' (w.alloc (.cells cs ty))) (ho:Zbt M' w.heap.size 0 cap xs.length sz o) :
  R w0 M' (w.alloc (.cells cs ty)) (.slice (some ⟨w.heap.size,0,none⟩) xs.length cap) (.list xs o):=by
 refine .list sz us hcap hm (fun i hi=>⟨(hu i hi).1,fun j a=>⟨.inr ?_,?_⟩⟩) (fun i hi=>((hu i hi).2).mono hx) ho
 ·rw [hM]
  have:(i+1)*sz≤xs.length*sz:=Nat.mul_le_mul_right _ hi
  rw [Nat.succ_mul] at this
  omega
 ·rw [Nat.zero_add,World.cell?_alloc_new]
  exact hc i hi j a
theorem TS (h:Rel w0 n M e st a w) (t:TypeId) (m:Nat) (ps:Array (Nat × Operand)) (hmk:Iz e t=false) (hob:(AZ P e true st (.buildSlice t m ps)).1) :
  Yields' P w0 M (AZ P e true st (.buildSlice t m ps)).2.2 (AZ P e true st (.buildSlice t m ps)).2.1 w (do pure (.value (← Instr.buildSlice t m (ps.map fun (i,x)=>(i,a.eval x))))):=by
 unfold AZ at hob ⊢
 cases he:KA P t with
 | none=>simp [he] at hob
 | some p =>
  obtain ⟨O,sz,ag,V⟩:=p
  simp only [he,hmk] at hob ⊢
  obtain ⟨s,N,J,g,Y,E⟩:=hob
  obtain ⟨i,hu,Z,_,r⟩:=FV he
  obtain ⟨z,F⟩:=Option.isSome_iff_exists.1 Y
  obtain ⟨i',v,D,hv,hc,hs,rfl⟩:=EQ F
  have G:ps.toList.length=m:=by simpa using congrArg List.length N
  have c:∀ p∈ps.toList,(a.eval p.2).cells.size=sz:=fun p y=>by
   rw [(A2 h (s p y)).cells.1]
   exact E _ (List.mem_map.2 ⟨p,y,rfl⟩)
  obtain ⟨zc,hzc⟩:∃ zc:Array Value,if m*sz=0 then zc = #[] else zc=v.cells:=by
   by_cases h0:m*sz=0
   ·exact ⟨#[],by rw [Ai h0]⟩
   ·exact ⟨v.cells,by rw [Aj h0]⟩
  obtain ⟨cs',a1,a2,a3,a4⟩:=Tu sz (ps.toList.map fun p=>a.eval p.2) 0 ((Array.range (m*sz)).map (zc[· % zc.size]!)) (fun u hu=>by obtain ⟨p,y,rfl⟩:=List.mem_map.1 hu;exact c p y) (by simp [G])
  obtain ⟨q,H⟩:=h.st.newTop cs' O (m*sz)
  have b:((ps.toList.map fun p=>Az e p.2).map AV.pub).length=m:=by simp [←G]
  have f:=R.row (us:=fun i=>((ps.toList.map fun p=>a.eval p.2).getD i undef)) (xs:=(ps.toList.map fun p=>Az e p.2).map AV.pub) (cs:=cs') (ty:=O) (sz:=sz) (k:=m*sz) (cap:=m) (o := .full) ?hu ?hc (by rw [b];exact Nat.le_refl _) ?hm (by rw [b];exact Nat.le_refl _) (M.newTop w.heap.size (m*sz)) (by simp [Mem.newTop]) H b
  case hu =>
   intro k C
   have d:k<ps.toList.length:=by simpa using C
   have Q:(ps.toList.map fun p=>a.eval p.2).getD k undef=a.eval (ps.toList[k]).2:=by simp [List.getD,List.getElem?_eq_getElem d]
   rw [Q]
   refine ⟨c _ (List.getElem_mem _),?_⟩
   simp only [List.getElem_map]
   exact (A2 h (s _ (List.getElem_mem _))).pub
  case hc =>
   intro k C j U
   have d:k<ps.toList.length:=by simpa using C
   have:=a4 k (a.eval (ps.toList[k]).2) (by simp [List.getElem?_eq_getElem d]) j U
   rw [Nat.zero_add] at this
   rw [this]
   simp [List.getD,List.getElem?_eq_getElem d]
  case hm =>
   have:m*1≤m*sz:=Nat.mul_le_mul_left _ g
   simp [maxLen]
   omega
  rw [b] at f
  refine .value ⟨_,_,_,?_,H,q,f⟩
  have K:¬ (m*sz > 2 ^ 24):=by omega
  have l:(ps.map fun (i,x)=>(i,a.eval x)).toList=((ps.toList.map fun p=>a.eval p.2).zipIdx 0).map fun x=>(x.2,x.1):=by
   rw [Array.toList_map]
   exact Ve N a.eval
  by_cases h0:m*sz=0
  ·rw [Ai h0] at hzc
   subst hzc
   simp only [Instr.buildSlice,Sem.run_bind,run_underlying hu,Result.andThen_ok,Be r,Aj K,Ai h0,Sem.run_pure,l,a1,newRow,run_newObj]
   rfl
  ·rw [Aj h0] at hzc
   subst hzc
   simp only [Instr.buildSlice,Sem.run_bind,run_underlying hu,Result.andThen_ok,Be r,Aj K,Aj h0,Sem.run_pure,zeroValue,typeInfo,run_program,D,hv,l,a1,newRow,run_newObj]
   rfl
theorem Below.setRow {B:Nat} {x y:World} (h:Below B x y) {g:Nat} (hg:B≤g) (cs:Array Value):Below B x (y.setRow g cs) :=
 h.trans ⟨rfl,rfl,rfl,by simp,fun k a=>setRow_other y g k cs (by omega)⟩
theorem KeepsObj.setRow {g:Nat} {c:Array Value} {ty:TypeId} (hg:w.heap[g]? = some (.cells c ty (0,0))) (c':Array Value):KeepsObj w (w.setRow g c'):=by
 intro b o h1 h2
 by_cases q:b=g
 ·subst q;rw [hg] at h1;cases h1;cases h2
 ·rw [setRow_other w g b c' q];exact h1
theorem L9 (M':Mem) (hN:M'.N=M.N) (hb:∀ l,l<M.N→M'.bx l=M.bx l) (hNR:M'.NR=M.NR)
  (hr:∀ id,id<M.NR→M.fr id≤M'.fr id∧(M'.fr id=M.fr id→M'.blk id=M.blk id∧M'.cap id=M.cap id∧M'.rsz id=M.rsz id)) (ht:∀ b,M.top b≤M'.top b)
  {g:Nat} {c c':Array Value} {ty:TypeId} (hg:w.heap[g]? = some (.cells c ty (0,0))) (hg0:w0.heap.size≤g) (hkeep:∀ j,j<M.top g→c'[j]? = c[j]?) (hNL:M'.NL=M.NL:=by rfl) (hlb:M'.lb=M.lb:=by rfl) :
  Ext w0 M w M' (w.setRow g c') :=
 ⟨by omega,hb,by omega,hr,fun b a v e d=>by
  refine ⟨?_,e.imp id (fun q=>Nat.lt_of_lt_of_le q (ht b))⟩
  by_cases hbg:b=g
  ·subst hbg
   have i:a<M.top b:=e.resolve_left (by omega)
   rw [cell_of_row w b a c ty _ hg] at d
   rw [cell_of_row _ b a c' ty _ (setRow_heap w b c c' ty _ hg),hkeep a i]
   exact d
  ·rw [cell_setRow_other w g c' ⟨b,a,none⟩ hbg]
   exact d,by simp,by omega,fun _ _=>by rw [hlb],fun _ _ _=>by omega,fun b o h f _=>KeepsObj.setRow hg c' b o h f⟩
theorem ZcA (h:Rel w0 n M e st a w) (t:TypeId) (x v:Operand) (hob:(AZ P e true st (.store t x v)).1) :
  Yields' P w0 M (AZ P e true st (.store t x v)).2.2 (AZ P e true st (.store t x v)).2.1 w (do Instr.storeAt t (a.eval x) (a.eval v);pure .skip):=by
 unfold AZ at hob ⊢
 cases ht:GK P t with
 | none=>simp [ht] at hob
 | some p =>
  obtain ⟨sz,ag⟩:=p
  simp only [ht] at hob ⊢
  obtain ⟨_,g,hv,hbx,hr,hn,hl,hle⟩:=hob
  have hRx:=A2 h g
  have m:=A2 h hv
  generalize Az e x=X at hRx hbx hr hle ⊢
  generalize a.eval x=vx at hRx ⊢
  cases X with
  | box l off =>
   cases hRx with
   | box hlN =>
    have aa:l<st.boxes.length:=by simpa [C7] using hr
    obtain ⟨cs,hcs⟩:∃ cs,st.boxes[l]? = some cs:=⟨_,List.getElem?_eq_getElem aa⟩
    have Y:st.boxes.getD l []=cs:=by simp [List.getD,hcs]
    obtain ⟨V,b2,c,O,E,b4,b5,b6⟩:=h.st.box l cs hcs
    simp only [A6,DR,Y] at hle
    simp only [RV,Y]
    obtain ⟨v1,v2⟩:=m.cells
    have v3:=m.cellsOne (fun vs e=>by rw [e] at hn;cases hn)
    have r:∀ u∈(a.eval v).cells.toList,u.oneCell'=true:=by
     intro u hu
     obtain ⟨k,G,rfl⟩:=List.getElem_of_mem hu
     simp only [Array.length_toList] at G
     rw [Array.getElem_toList]
     exact (v2 k G (by omega)).oneCell (v3 _ (List.getElem_mem _))
    have hst:=run_storeCells_at P (M.bx l) off O (a.eval v).cells.toList 0 c w E (by simp;omega) r
    simp only [Nat.add_zero] at hst
    generalize hc':(c.toList.take off++(a.eval v).cells.toList++c.toList.drop (off+(a.eval v).cells.toList.length)).toArray=c' at hst
    have y:c'.size=c.size:=by rw [←hc'];simp;omega
    have o:∀ j,c'[j]? = if off≤j∧j<off+(a.eval v).cells.toList.length then (a.eval v).cells.toList[j-off]? else c[j]? := by
     intro j
     rw [←hc',List.getElem?_toArray,List.append_assoc,List.getElem?_append]
     simp only [List.length_take,Array.length_toList]
     have e:min off c.size=off:=by omega
     rw [e]
     by_cases c1:j<off
     ·rw [Ai c1,Aa,List.getElem?_take,Ai c1,Array.getElem?_toList]
     ·rw [Aj c1,List.getElem?_append]
      simp only [Array.length_toList]
      by_cases c2:j-off<(a.eval v).cells.size
      ·rw [Ai c2,Ab]
      ·rw [Aj c2,Aa,List.getElem?_drop,Array.getElem?_toList]
       congr 1
       omega
    have g:Ext w0 M w M (w.setRow (M.bx l) c'):=L9 M rfl (fun _ _=>rfl) rfl (fun _ _=>⟨Nat.le_refl _,fun _=>⟨rfl,rfl,rfl⟩⟩) (fun _=>Nat.le_refl _) E V (fun j hj=>by rw [b2] at hj;omega)
    have f:RowR w0 M w c' (CM cs off (Az e v).cells):=RowR.put ⟨b4,b6⟩ m (by omega) y o
    refine ⟨undef,_,M,.inr ⟨?_,rfl⟩,g,⟨Below.setRow h.st.below V _,by simp [h.st.N],h.st.NR,fun b hb=>h.st.top b (by simpa using hb),h.st.inj,fun D cs' hl'=>?_,fun id x s=>(h.st.row id x s).keep g rfl rfl rfl rfl rfl (h.st.row id x s).ne (setRow_other w _ _ _ (Ne.symm ((h.st.row id x s).ne l hlN))),h.st.rowinj,h.st.loop.mono g rfl (KeepsObj.setRow E _)⟩,Zx⟩
    ·have e0:¬ ((a.eval v).cells.size≠sz):=by omega
     simp only [Instr.storeAt,Instr.sureAddr,Sem.run_bind,Sem.run_pure,Result.andThen_ok,storeVar,Be ht,Aj e0,hst]
    ·by_cases ell:D=l
     ·subst ell
      rw [List.getElem?_set_self aa] at hl'
      cases hl'
      exact ⟨V,b2,c',O,setRow_heap w _ c c' O _ E,f.1,OL b5 v3,fun i J F=>(f.2 i J F).mono g⟩
     ·rw [List.getElem?_set_ne (Ne.symm ell)] at hl'
      obtain ⟨d1,d2,d,K,d3,d4,d5,d6⟩:=h.st.box D cs' hl'
      have z:D<M.N:=by rw [h.st.N];exact (Ak.1 hl').1
      have Q:M.bx D≠M.bx l:=fun q=>ell (h.st.inj D l z hlN q)
      exact ⟨d1,d2,d,K,by rw [setRow_other w _ _ _ Q];exact d3,d4,d5,fun i J F=>(d6 i J F).mono g⟩
  | vel id ver off =>
   cases hRx with
   | @vel _ _ _ ad s hver hh =>
    obtain ⟨ai,cs,H⟩:=Qj (show (Ey st.rows id ver).isSome=true from hr)
    have f:=EB H
    obtain ⟨f1,f2,V,b2,f5,f6,f7,c,O,E,b4,ah,b5,b6⟩:=h.st.row id _ f
    have had:=hh f1.symm
    subst had
    simp only [A6,DR,H] at hle
    simp only [RV,H]
    obtain ⟨v1,v2⟩:=m.cells
    have v3:=m.cellsOne (fun vs e=>by rw [e] at hn;cases hn)
    have r:∀ u∈(a.eval v).cells.toList,u.oneCell'=true:=by
     intro u hu
     obtain ⟨k,G,rfl⟩:=List.getElem_of_mem hu
     simp only [Array.length_toList] at G
     rw [Array.getElem_toList]
     exact (v2 k G (by omega)).oneCell (v3 _ (List.getElem_mem _))
    have hst:=run_storeCells_at P (M.blk id) off O (a.eval v).cells.toList 0 c w E (by simp;omega) r
    simp only [Nat.add_zero] at hst
    generalize hc':(c.toList.take off++(a.eval v).cells.toList++c.toList.drop (off+(a.eval v).cells.toList.length)).toArray=c' at hst
    have y:c'.size=c.size:=by rw [←hc'];simp;omega
    have o:∀ j,c'[j]? = if off≤j∧j<off+(a.eval v).cells.toList.length then (a.eval v).cells.toList[j-off]? else c[j]? := by
     intro j
     rw [←hc',List.getElem?_toArray,List.append_assoc,List.getElem?_append]
     simp only [List.length_take,Array.length_toList]
     have e:min off c.size=off:=by omega
     rw [e]
     by_cases c1:j<off
     ·rw [Ai c1,Aa,List.getElem?_take,Ai c1,Array.getElem?_toList]
     ·rw [Aj c1,List.getElem?_append]
      simp only [Array.length_toList]
      by_cases c2:j-off<(a.eval v).cells.size
      ·rw [Ai c2,Ab]
      ·rw [Aj c2,Aa,List.getElem?_drop,Array.getElem?_toList]
       congr 1
       omega
    have g:Ext w0 M w M (w.setRow (M.blk id) c'):=L9 M rfl (fun _ _=>rfl) rfl (fun _ _=>⟨Nat.le_refl _,fun _=>⟨rfl,rfl,rfl⟩⟩) (fun _=>Nat.le_refl _) E V (fun j hj=>by rw [b2] at hj;omega)
    have Z:id<st.rows.length:=(Ak.1 f).1
    have af:=KV (l:=cs) (xs:=(Az e v).cells) (off:=off) (by omega)
    refine ⟨undef,_,M,.inr ⟨?_,rfl⟩,g,⟨Below.setRow h.st.below V _,h.st.N,by simp [h.st.NR],fun b hb=>h.st.top b (by simpa using hb),h.st.inj,fun D cs' hl'=>?_,fun C x hid'=>?_,h.st.rowinj,h.st.loop.mono g rfl (KeepsObj.setRow E _)⟩,Zx⟩
    ·have e0:¬ ((a.eval v).cells.size≠sz):=by omega
     simp only [Instr.storeAt,Instr.sureAddr,Sem.run_bind,Sem.run_pure,Result.andThen_ok,storeVar,Be ht,Aj e0,hst]
    ·obtain ⟨d1,d2,d,K,d3,d4,d5,d6⟩:=h.st.box D cs' hl'
     have z:D<M.N:=by rw [h.st.N];exact (Ak.1 hl').1
     exact ⟨d1,d2,d,K,by rw [setRow_other w _ _ _ (f5 D z)];exact d3,d4,d5,fun i J F=>(d6 i J F).mono g⟩
    ·by_cases ell:C=id
     ·subst ell
      rw [List.getElem?_set_self Z] at hid'
      cases hid'
      refine ⟨f1,f2,V,b2,f5,f6,f7,c',O,setRow_heap w _ c c' O _ E,y.trans b4,by omega,OL b5 v3,fun i J F=>?_⟩
      have ab:RowR w0 M w (c'.extract 0 cs.length) (CM cs off (Az e v).cells):=by
       have ae:RowR w0 M w (c.extract 0 cs.length) cs:=⟨by simp;omega,fun i J F=>by rw [Array.getElem_extract];simp only [Nat.zero_add];exact b6 i (by omega) F⟩
       refine RowR.put ae m (by omega) (by simp;omega) (fun j=>?_)
       simp only [Array.getElem?_extract,Nat.zero_add,o]
       by_cases q1:j<min cs.length c'.size
       ·rw [Ab]
        by_cases q2:off≤j∧j<off+(a.eval v).cells.toList.length
        ·rw [Ai q2,Ai q2]
        ·rw [Aj q2,Aj q2,Ab]
       ·rw [Aa,Aj (by simp;omega),Aa]
      have h3:i<(c'.extract 0 cs.length).size:=by simp;omega
      have:=(ab.2 i h3 F).mono g
      rw [Array.getElem_extract] at this
      simpa using this
     ·rw [List.getElem?_set_ne (Ne.symm ell)] at hid'
      have G:=h.st.row C x hid'
      have U:C<M.NR:=by rw [h.st.NR];exact (Ak.1 hid').1
      have Q:M.blk C≠M.blk id:=fun q=>ell (h.st.rowinj C id U s q)
      exact G.keep g rfl rfl rfl rfl rfl G.ne (setRow_other w _ _ _ Q)
  | _=>cases hbx
end
section
variable {P:Program} {w0:World} {n:Nat} {M:Mem} {e:Env} {st:St} {a:Act} {w:World}
def flat (us:Nat→Value) (m:Nat):List Value:=(List.range m).flatMap fun i=>(us i).cells.toList
theorem U7 (us:Nat→Value) (m:Nat):flat us (m+1)=flat us m++(us m).cells.toList:=by
 simp [flat,List.range_succ]
theorem AP {us:Nat→Value} {sz:Nat}:∀ {m:Nat},(∀ i,i<m→(us i).cells.size=sz)→(flat us m).length=m*sz
 | 0,_=>by simp [flat]
 | m+1,h=>by
  rw [U7,List.length_append,AP (fun i a=>h i (by omega)),Array.length_toList,h m (by omega),Nat.succ_mul]
theorem HM {us:Nat→Value} {sz:Nat}:∀ {m:Nat},(∀ i,i<m→(us i).cells.size=sz)→∀ i,i<m→∀ j,j<sz→(flat us m)[i*sz+j]? = (us i).cells[j]?
 | 0,_,i,a,_,_=>absurd a (by omega)
 | m+1,h,i,a,j,hj=>by
  have d:=AP (us:=us) (m:=m) (fun i a=>h i (by omega))
  rw [U7,List.getElem?_append,d]
  by_cases c:i=m
  ·subst c
   rw [Aa,show i*sz+j-i*sz=j from by omega,Array.getElem?_toList]
  ·have b:(i+1)*sz≤m*sz:=Nat.mul_le_mul_right _ (by omega)
   rw [Nat.succ_mul] at b
   rw [Ab]
   exact HM (fun i a=>h i (by omega)) i (by omega) j hj
theorem E9 {us:Nat→Value} {sz m:Nat} (hs:∀ i,i<m→(us i).cells.size=sz) {b off:Nat} (hsz:0<sz) (hc:∀ i,i<m→∀ j,j<sz→w.cell? ⟨b,off+i*sz+j,none⟩=(us i).cells[j]?) :
  ∀ j u,(flat us m)[j]? = some u→w.cell? ((⟨b,off,none⟩:Addr).add j)=some u:=by
 intro j u g
 have k:=AP hs
 have l:j<m*sz:=by rw [←k];exact (Ak.1 g).1
 have e:=Nat.div_add_mod j sz
 have d:j / sz<m:=(Nat.div_lt_iff_lt_mul hsz).2 l
 have a:=Nat.mod_lt j hsz
 have f:=HM hs (j / sz) d (j % sz) a
 have c:=hc (j / sz) d (j % sz) a
 have h:j / sz*sz+j % sz=j:=by rw [Nat.mul_comm];exact e
 rw [h] at f
 rw [Nat.add_assoc,h] at c
 rw [Eb,c,←f,g]
theorem R.list_open {v:Value} {xs:List AV} {o:Own} {sz:Nat} (h:R w0 M w v (.list xs o)) (hs:∀ y∈xs,y.cells.length=sz) :
  ∃ us:Nat→Value,(∀ i (hi:i<xs.length),(us i).cells.size=sz∧R w0 M w (us i) xs[i]) ∧
   (((v = .slice none 0 0∨∃ ad,v = .slice (some ad) 0 0)∧xs=[]∧∀ id,o ≠ .row id)∨∃ b off cap sz',v = .slice (some ⟨b,off,none⟩) xs.length cap∧xs.length≤cap∧cap≤maxLen∧Zbt M b off cap xs.length sz' o ∧
    ∀ i,i<xs.length→∀ j,j<sz→w.cell? ⟨b,off+i*sz+j,none⟩=(us i).cells[j]?):=by
 cases h with
 | nil ho=>exact ⟨fun _=>undef,fun i hi=>absurd hi (by simp),.inl ⟨.inl rfl,rfl,ho⟩⟩
 | emp ho=>exact ⟨fun _=>undef,fun i hi=>absurd hi (by simp),.inl ⟨.inr ⟨_,rfl⟩,rfl,ho⟩⟩
 | @list b off cap _ _ sz' us hc hm hcell hu ho =>
  have a:∀ i (hi:i<xs.length),(us i).cells.size=sz:=fun i hi=>by rw [(hu i hi).cells.1];exact hs _ (List.getElem_mem _)
  refine ⟨us,fun i hi=>⟨a i hi,hu i hi⟩,.inr ⟨b,off,cap,sz',rfl,hc,hm,ho,fun i hi j c=>?_⟩⟩
  have e:sz'=sz:=by rw [←(hcell i hi).1,a i hi]
  subst e
  exact ((hcell i hi).2 j c).2
theorem W9 {us:Nat→Value} {xs:List AV} {sz:Nat} (hu:∀ i (hi:i<xs.length),(us i).cells.size=sz∧R w0 M w (us i) xs[i]) (hn:∀ y∈xs,AX y=true):∀ u∈flat us xs.length,u.oneCell'=true:=by
 intro u g
 obtain ⟨i,hi,b⟩:=List.mem_flatMap.1 g
 have c:i<xs.length:=List.mem_range.1 hi
 obtain ⟨hs,d⟩:=hu i c
 obtain ⟨k,f,rfl⟩:=List.getElem_of_mem b
 simp only [Array.length_toList] at f
 rw [Array.getElem_toList]
 have a:=d.cellsOne (fun vs e=>by have:=hn _ (List.getElem_mem c);rw [e] at this;cases this)
 exact (d.cells.2 k f (by rw [←d.cells.1];exact f)).oneCell (a _ (List.getElem_mem _))
def Mem.addRow (M:Mem) (b cap k sz tp:Nat):Mem :=
  { M with NR:=M.NR+1,fr:=fun i=>if i=M.NR then k else M.fr i,blk:=fun i=>if i=M.NR then b else M.blk i,cap:=fun i=>if i=M.NR then cap else M.cap i,
           rsz:=fun i=>if i=M.NR then sz else M.rsz i,top:=fun x=>if x=b then tp else M.top x }
def Mem.growRow (M:Mem) (id b cap k tp:Nat):Mem :=
 { M with fr:=fun i=>if i=id then k else M.fr i,blk:=fun i=>if i=id then b else M.blk i,cap:=fun i=>if i=id then cap else M.cap i,top:=fun x=>if x=b then tp else M.top x }
theorem RelSt.addRow' (h:RelSt w0 M st w) {cs:Array Value} {ty:TypeId} {cap k sz tp:Nat} {x:RowA}
  (hnew:Ext w0 M w (M.addRow w.heap.size cap k sz tp) (w.alloc (.cells cs ty))→(∀ l,l<M.N→M.bx l≠w.heap.size)→RowOk w0 (M.addRow w.heap.size cap k sz tp) (w.alloc (.cells cs ty)) M.NR x) :
  RelSt w0 (M.addRow w.heap.size cap k sz tp) { st with rows:=st.rows++[x] } (w.alloc (.cells cs ty))∧Ext w0 M w (M.addRow w.heap.size cap k sz tp) (w.alloc (.cells cs ty)):=by
 have f:∀ b,b<w.heap.size→(M.addRow w.heap.size cap k sz tp).top b=M.top b:=fun b q=>by simp [Mem.addRow];omega
 have a:∀ i,i<M.NR→(M.addRow w.heap.size cap k sz tp).fr i=M.fr i∧(M.addRow w.heap.size cap k sz tp).blk i=M.blk i∧(M.addRow w.heap.size cap k sz tp).cap i=M.cap i∧(M.addRow w.heap.size cap k sz tp).rsz i=M.rsz i:=by
  intro i o
  have:¬ i=M.NR:=by omega
  simp [Mem.addRow,this]
 have g:Ext w0 M w (M.addRow w.heap.size cap k sz tp) (w.alloc (.cells cs ty)) :=
  O3 _ _ (.inl rfl) (fun _ _=>rfl) (Nat.le_succ _) (fun i o=>by obtain ⟨a1,a2,a3,a4⟩:=a i o;exact ⟨by omega,fun _=>⟨a2,a3,a4⟩⟩) (fun b q=>by rw [f b q];exact Nat.le_refl _)
 have t:∀ l,l<M.N→M.bx l≠w.heap.size:=fun l r=>by have:=h.box_lt r;omega
 refine ⟨⟨h.below.alloc h.base_le _,h.N,by simp [Mem.addRow,h.NR],fun b q=>?_,h.inj,fun l c r=>?_,fun id y hid=>?_,fun i j o D d=>?_,h.loop.mono g rfl (KeepsObj.alloc _ _)⟩,g⟩
 ·simp at q
  have:(M.addRow w.heap.size cap k sz tp).top b=M.top b:=by simp [Mem.addRow];omega
  rw [this]
  exact h.top b (by omega)
 ·obtain ⟨a1,a2,E,s,a3,a4,a5,a6⟩:=h.box l c r
  have n:=(Array.getElem?_eq_some_iff.1 a3).1
  exact ⟨a1,by rw [show (M.addRow w.heap.size cap k sz tp).bx l=M.bx l from rfl,f _ n];exact a2,E,s,by rw [show (M.addRow w.heap.size cap k sz tp).bx l=M.bx l from rfl,Br _ _ n];exact a3,a4,a5,fun i F C=>(a6 i F C).mono g⟩
 ·by_cases e1:id=M.NR
  ·subst e1
   simp only [h.NR,List.getElem?_concat_length,Option.some.injEq] at hid
   subst hid
   exact hnew g t
  ·have e:id<M.NR:=by
    have:id<(st.rows++[x]).length:=(Ak.1 hid).1
    have u:=h.NR
    simp at this
    omega
   rw [List.getElem?_append_left (by rw [←h.NR];exact e)] at hid
   have p:=h.row id y hid
   obtain ⟨H,z,v,G⟩:=a id e
   exact p.keep g H G z v (f _ p.lt) p.ne (Br _ _ p.lt)
 ·have u:(M.addRow w.heap.size cap k sz tp).NR=M.NR+1:=rfl
  rw [u] at o D
  have m:(M.addRow w.heap.size cap k sz tp).blk M.NR=w.heap.size:=by simp [Mem.addRow]
  by_cases e1:i=M.NR
  ·by_cases e2:j=M.NR
   ·omega
   ·subst e1
    rw [m,(a j (by omega)).2.1] at d
    have:=h.row_lt (i:=j) (by omega)
    omega
  ·by_cases e2:j=M.NR
   ·subst e2
    rw [m,(a i (by omega)).2.1] at d
    have:=h.row_lt (i:=i) (by omega)
    omega
   ·rw [(a i (by omega)).2.1,(a j (by omega)).2.1] at d
    exact h.rowinj i j (by omega) (by omega) d
theorem RelSt.addRow (h:RelSt w0 M st w) {cs:Array Value} {ty:TypeId} {cap k sz:Nat} (hm:cap≤maxLen) (hk:k≤cap) (hs:cs.size=cap*sz) :
  RelSt w0 (M.addRow w.heap.size cap k sz (k*sz)) { st with rows:=st.rows++[.grow k sz] } (w.alloc (.cells cs ty))∧Ext w0 M w (M.addRow w.heap.size cap k sz (k*sz)) (w.alloc (.cells cs ty)) :=
 h.addRow' fun _ a=>by
  have q:(M.addRow w.heap.size cap k sz (k*sz)).fr M.NR=k∧(M.addRow w.heap.size cap k sz (k*sz)).blk M.NR=w.heap.size∧(M.addRow w.heap.size cap k sz (k*sz)).cap M.NR=cap∧(M.addRow w.heap.size cap k sz (k*sz)).rsz M.NR=sz∧(M.addRow w.heap.size cap k sz (k*sz)).top w.heap.size=k*sz:=by simp [Mem.addRow]
  obtain ⟨q1,q2,q3,b,c⟩:=q
  simp only [RowOk,q1,q2,q3,b,c]
  exact ⟨trivial,trivial,h.base_le,trivial,a,hm,hk,cs,ty,heap_alloc_new w _,hs⟩
theorem RelSt.addVec (h:RelSt w0 M st w) {cs:Array Value} {ty:TypeId} {cap sz:Nat} {xs:List AV} (hm:cap≤maxLen) (hz:0<sz) (hs:cs.size=cap*sz) (hl:xs.length≤cs.size) (h1:∀ x∈xs,x.one=true) (hR:∀ (i:Nat) (v:Value) (x:AV),cs[i]? = some v→xs[i]? = some x→R w0 M w v x) :
  RelSt w0 (M.addRow w.heap.size cap 0 sz 0) { st with rows:=st.rows++[.vec 0 sz xs] } (w.alloc (.cells cs ty))∧Ext w0 M w (M.addRow w.heap.size cap 0 sz 0) (w.alloc (.cells cs ty)) :=
 h.addRow' fun d c=>by
  have q:(M.addRow w.heap.size cap 0 sz 0).fr M.NR=0∧(M.addRow w.heap.size cap 0 sz 0).blk M.NR=w.heap.size∧(M.addRow w.heap.size cap 0 sz 0).cap M.NR=cap∧(M.addRow w.heap.size cap 0 sz 0).rsz M.NR=sz∧(M.addRow w.heap.size cap 0 sz 0).top w.heap.size=0:=by simp [Mem.addRow]
  obtain ⟨q1,q2,q3,e,f⟩:=q
  simp only [RowOk,q1,q2,q3,e,f]
  exact ⟨trivial,trivial,h.base_le,trivial,c,hm,hz,cs,ty,heap_alloc_new w _,hs,hl,h1,fun i a b=>(hR i _ _ (Array.getElem?_eq_getElem a) (List.getElem?_eq_getElem b)).mono d⟩
theorem RelSt.growRow' (h:RelSt w0 M st w) {id:Nat} {x0 x:RowA} (hid:st.rows[id]? = some x0) {w':World} {b cap k tp:Nat} (hbelow:Below w0.heap.size w w')
  (hsize:w.heap.size≤w'.heap.size) (hbw:b<w'.heap.size) (hbox:∀ l,l<M.N→M.bx l≠b∧w'.heap[M.bx l]? = w.heap[M.bx l]?) (hrow:∀ i,i<M.NR→i≠id→M.blk i≠b∧w'.heap[M.blk i]? = w.heap[M.blk i]?)
  (hnew:RowOk w0 (M.growRow id b cap k tp) w' id x) (hx:Ext w0 M w (M.growRow id b cap k tp) w') (hko:KeepsObj w w') :
  RelSt w0 (M.growRow id b cap k tp) { st with rows:=st.rows.set id x } w':=by
 have e:id<st.rows.length:=(Ak.1 hid).1
 refine ⟨h.below.trans hbelow,h.N,by simp [Mem.growRow,h.NR],fun y u=>?_,h.inj,fun l c r=>?_,fun i y hi=>?_,fun i j hi n a=>?_,h.loop.mono hx rfl hko⟩
 ·have:(M.growRow id b cap k tp).top y=M.top y:=by simp [Mem.growRow];omega
  rw [this]
  exact h.top y (by omega)
 ·obtain ⟨a1,a2,v,o,a3,a4,a5,a6⟩:=h.box l c r
  have p:l<M.N:=by rw [h.N];exact (Ak.1 r).1
  obtain ⟨g,f⟩:=hbox l p
  refine ⟨a1,?_,v,o,by rw [show (M.growRow id b cap k tp).bx l=M.bx l from rfl,f];exact a3,a4,a5,fun i g f=>(a6 i g f).mono hx⟩
  show (M.growRow id b cap k tp).top (M.bx l)=0
  simp [Mem.growRow,g,a2]
 ·by_cases e1:i=id
  ·subst e1
   rw [List.getElem?_set_self e] at hi
   cases hi
   exact hnew
  ·rw [List.getElem?_set_ne (Ne.symm e1)] at hi
   have m:i<M.NR:=by rw [h.NR];exact (Ak.1 hi).1
   have s:=h.row i y hi
   obtain ⟨g,f⟩:=hrow i m e1
   have q:(M.growRow id b cap k tp).fr i=M.fr i∧(M.growRow id b cap k tp).blk i=M.blk i∧(M.growRow id b cap k tp).cap i=M.cap i∧(M.growRow id b cap k tp).rsz i=M.rsz i∧(M.growRow id b cap k tp).top (M.blk i)=M.top (M.blk i):=by simp [Mem.growRow,e1,g]
   obtain ⟨q1,q2,q3,t,z⟩:=q
   exact s.keep hx q1 t q2 q3 z s.ne f
 ·have d:∀ j,(M.growRow id b cap k tp).blk j=if j=id then b else M.blk j:=fun j=>rfl
  rw [d,d] at a
  have C:(M.growRow id b cap k tp).NR=M.NR:=rfl
  rw [C] at hi n
  by_cases e1:i=id
  ·by_cases e2:j=id
   ·omega
   ·rw [Ai e1,Aj e2] at a
    exact absurd a.symm (hrow j n e2).1
  ·by_cases e2:j=id
   ·rw [Aj e1,Ai e2] at a
    exact absurd a (hrow i hi e1).1
   ·rw [Aj e1,Aj e2] at a
    exact h.rowinj i j hi n a
theorem RelSt.growRow (h:RelSt w0 M st w) {id:Nat} {k0 sz:Nat} (hid:st.rows[id]? = some (.grow k0 sz)) {w':World} {b cap k:Nat} (hb0:w0.heap.size≤b) (hbelow:Below w0.heap.size w w')
  (hsize:w.heap.size≤w'.heap.size) (hbw:b<w'.heap.size) (hm:cap≤maxLen) (hk:k≤cap) (hbox:∀ l,l<M.N→M.bx l≠b∧w'.heap[M.bx l]? = w.heap[M.bx l]?) (hrow:∀ i,i<M.NR→i≠id→M.blk i≠b∧w'.heap[M.blk i]? = w.heap[M.blk i]?)
  {cs:Array Value} {ty:TypeId} (hcs:w'.heap[b]? = some (.cells cs ty (0,0))) (hs:cs.size=cap*sz) (hx:Ext w0 M w (M.growRow id b cap k (k*sz)) w') (hko:KeepsObj w w') :
  RelSt w0 (M.growRow id b cap k (k*sz)) { st with rows:=st.rows.set id (.grow k sz) } w':=by
 refine h.growRow' hid hbelow hsize hbw hbox hrow ?_ hx hko
 have q:(M.growRow id b cap k (k*sz)).fr id=k∧(M.growRow id b cap k (k*sz)).blk id=b∧(M.growRow id b cap k (k*sz)).cap id=cap∧(M.growRow id b cap k (k*sz)).rsz id=M.rsz id∧(M.growRow id b cap k (k*sz)).top b=k*sz:=by simp [Mem.growRow]
 obtain ⟨q1,q2,q3,c,d⟩:=q
 simp only [RowOk,q1,q2,q3,c,d]
 exact ⟨trivial,(h.row id _ hid).2.1,hb0,trivial,fun l a=>(hbox l a).1,hm,hk,cs,ty,hcs,hs⟩
def Wn (us ux:Nat→Value) (k:Nat):Nat→Value:=fun i=>if i<k then us i else ux (i-k)
theorem Yk {us ux:Nat→Value} {xs ys:List AV} {sz:Nat} {M':Mem} {w':World} (hx:Ext w0 M w M' w') (h1:∀ i (hi:i<xs.length),(us i).cells.size=sz∧R w0 M w (us i) xs[i]) (h2:∀ i (hi:i<ys.length),(ux i).cells.size=sz∧R w0 M w (ux i) ys[i]) :
  ∀ i (hi:i<(xs++ys.map AV.pub).length),(Wn us ux xs.length i).cells.size=sz∧R w0 M' w' (Wn us ux xs.length i) (xs++ys.map AV.pub)[i]:=by
 intro i hi
 unfold Wn
 by_cases c:i<xs.length
 ·rw [Ai c,List.getElem_append_left c]
  exact ⟨(h1 i c).1,((h1 i c).2).mono hx⟩
 ·simp at hi
  rw [Aj c,List.getElem_append_right (by omega),List.getElem_map]
  exact ⟨(h2 _ (by omega)).1,((h2 _ (by omega)).2).pub.mono hx⟩
theorem WV {us ux:Nat→Value} {k m sz:Nat} (hs:∀ i,i<k→(us i).cells.size=sz) (hx:∀ i,i<m→(ux i).cells.size=sz) (zs:List Value) :
  ∀ i,i<k+m→∀ j,j<sz→(flat us k++flat ux m++zs)[i*sz+j]? = (Wn us ux k i).cells[j]? := by
 intro i f j a
 have b:=AP hs
 have d:=AP hx
 rw [List.append_assoc,List.getElem?_append,b]
 unfold Wn
 by_cases c:i<k
 ·have q:(i+1)*sz≤k*sz:=Nat.mul_le_mul_right _ c
  rw [Nat.succ_mul] at q
  rw [Ab,Ai c]
  exact HM hs i c j a
 ·have q:k*sz≤i*sz:=Nat.mul_le_mul_right _ (by omega)
  have q2:(i-k+1)*sz≤m*sz:=Nat.mul_le_mul_right _ (by omega)
  rw [Nat.succ_mul] at q2
  have e:i*sz=k*sz+(i-k)*sz:=by rw [←Nat.add_mul];congr 1;omega
  rw [Aa,Aj c,List.getElem?_append,d,Ab,show i*sz+j-k*sz=(i-k)*sz+j from by omega]
  exact HM hx (i-k) (by omega) j a
theorem W7 (t ty el:TypeId) {sz:Nat} {ag:Bool} (ht:P.underlying t=some (.slice el)) (hty:GK P el=some (sz,ag)) (g k cap:Nat) (cur:Array Value) (te:TypeId) (hg:w.heap[g]? = some (.cells cur te (0,0)))
  {x:Value} {m:Nat} (hlen:(Builtin.lenOf x).run P w = .ok m w) (news:List Value) (hf:(Builtin.firstCells sz m x).run P w = .ok news.toArray w) (h1:∀ u∈news,u.oneCell'=true)
  (hroom:k+m≤cap) (hfit:k*sz+news.length≤cur.size) :
  (Builtin.append_ #[t,t] ty #[.slice (some ⟨g,0,none⟩) k cap,x]).run P w =
   .ok (.slice (some ⟨g,0,none⟩) (k+m) cap) (w.setRow g (cur.toList.take (k*sz)++news++cur.toList.drop (k*sz+news.length)).toArray):=by
 have b:=run_storeCells_at P g (k*sz) te news 0 cur w hg (by simpa using hfit) h1
 simp only [Nat.add_zero] at b
 obtain ⟨i,d,c,hsz,_,_⟩:=Lp hty
 subst hsz
 have a:(⟨g,0,none⟩:Addr).add (k*i.size)=⟨g,k*i.size,none⟩:=by rw [Eb,Nat.zero_add]
 simp [Builtin.append_,run_underlying ht,sizeOf,typeInfo,c,hlen,hroom,hf,a,b]
theorem NK {ys:List AV} {sz:Nat} (hs:∀ y∈ys,y.cells.length=sz):(ys.flatMap fun y=>y.pub.cells).length=ys.length*sz:=by
 induction ys with
 | nil=>simp
 | cons y ys ih =>
  rw [List.flatMap_cons,List.length_append,ih (fun z a=>hs z (by simp [a])),AV.pub_cells_length,hs y (by simp),List.length_cons,Nat.succ_mul]
  omega
theorem Zcy {sz:Nat}:∀ (ys:List AV),(∀ y∈ys,y.cells.length=sz)→∀ i y,ys[i]? = some y→∀ k,k<sz→(ys.flatMap fun y=>y.pub.cells)[i*sz+k]? = y.pub.cells[k]?
 | [],_,i,y,h,_,_=>by simp at h
 | x::ys,hs,0,y,h,k,hk=>by
  simp only [List.getElem?_cons_zero,Option.some.injEq] at h
  subst h
  rw [List.flatMap_cons,Nat.zero_mul,Nat.zero_add,List.getElem?_append_left (by rw [AV.pub_cells_length,hs x (by simp)];exact hk)]
 | x::ys,hs,i+1,y,h,k,hk=>by
  have a:x.pub.cells.length=sz:=by rw [AV.pub_cells_length];exact hs x (by simp)
  rw [List.flatMap_cons,List.getElem?_append_right (by rw [a,Nat.succ_mul];omega),a,show (i+1)*sz+k-sz=i*sz+k from by rw [Nat.succ_mul];omega]
  exact Zcy ys (fun z b=>hs z (by simp [b])) i y (by simpa using h) k hk
theorem Y4 {ux:Nat→Value} {ys:List AV} (hu:∀ i (hi:i<ys.length),R w0 M w (ux i) ys[i]) (hn:∀ y∈ys,AX y=true):∀ x∈ys.flatMap (fun y=>y.pub.cells),x.one=true:=by
 intro x c
 obtain ⟨y,b,a⟩:=List.mem_flatMap.1 c
 obtain ⟨i,hi,rfl⟩:=List.mem_iff_getElem.1 b
 refine ((hu i hi).pub).cellsOne (fun vs e=>?_) x a
 have:=hn _ b
 cases h:ys[i]<;>rw [h] at e this<;>first | (cases this;done) | (cases e;done)
theorem ZgO {ux:Nat→Value} {ys:List AV} {sz:Nat} (hz:0<sz) (hu:∀ i (hi:i<ys.length),(ux i).cells.size=sz∧R w0 M w (ux i) ys[i]) (hs:∀ y∈ys,y.cells.length=sz) {j:Nat} {v:Value} {x:AV} (hv:(flat ux ys.length)[j]? = some v) (hx:(ys.flatMap fun y=>y.pub.cells)[j]? = some x):R w0 M w v x:=by
 have f:j<ys.length*sz:=by rw [←NK hs];exact (Ak.1 hx).1
 have hi:j / sz<ys.length:=(Nat.div_lt_iff_lt_mul hz).2 f
 have c:=Nat.mod_lt j hz
 have e:j / sz*sz+j % sz=j:=by rw [Nat.mul_comm];exact Nat.div_add_mod j sz
 have b:=HM (us:=ux) (sz:=sz) (fun i hi=>(hu i hi).1) (j / sz) hi (j % sz) c
 have a:=Zcy ys hs (j / sz) _ (List.getElem?_eq_getElem hi) (j % sz) c
 rw [e] at b a
 rw [hv] at b
 rw [hx] at a
 obtain ⟨_,d⟩:=((hu _ hi).2).pub.cells
 obtain ⟨q1,q2⟩:=Array.getElem?_eq_some_iff.1 b.symm
 obtain ⟨q3,g⟩:=Ak.1 a.symm
 rw [←q2,←g]
 exact d _ q1 q3
theorem Zap (h:Rel w0 n M e st a w) (s x:Operand) (t ty:TypeId) (hs:AH e true s) (hx:AH e true x) (hob:(BD P st t (Az e s) (Az e x)).1) :
  Yields' P w0 M (BD P st t (Az e s) (Az e x)).2.2 (BD P st t (Az e s) (Az e x)).2.1 w (do pure (.value (← Builtin.append_ #[t,t] ty #[a.eval s,a.eval x]))):=by
 have hRs:=A2 h hs
 have hRx:=A2 h hx
 generalize Az e s=S at hRs hob ⊢
 generalize Az e x=X at hRx hob ⊢
 generalize a.eval s=vs at hRs ⊢
 generalize a.eval x=vx at hRx ⊢
 unfold BD at hob ⊢
 cases he:KA P t with
 | none=>simp [he] at hob
 | some p =>
  obtain ⟨el,sz,ag,bp⟩:=p
  simp only [he] at hob ⊢
  obtain ⟨f,hu,g,a4,bd⟩:=FV he
  have r:f.size=sz:=by
   obtain ⟨i',d,h1,h2,_⟩:=Lp bd
   rw [g] at h1;cases h1;exact h2
  cases S with
  | list xs o =>
   have a0:(AM X).length=0→Bv X=true→Yields' P w0 M st (.list xs o) w (do pure (.value (← Builtin.append_ #[t,t] ty #[vs,vx]))):=by
    intro ah lx
    obtain ⟨ys,o',rfl⟩:=G2 lx
    simp only [AM] at ah
    have:ys=[]:=List.length_eq_zero_iff.1 ah
    subst this
    refine .here h.st (v:=vs) ?_ hRs
    have bk:(Builtin.lenOf vx).run P w = .ok 0 w∧(Builtin.firstCells sz 0 vx).run P w = .ok #[] w:=by
     cases hRx with
     | nil _=>exact ⟨rfl,rfl⟩
     | emp _=>exact ⟨rfl,by simp [Builtin.firstCells,loadCells,loadCellsFrom]⟩
     | list=>exact ⟨rfl,by simp [Builtin.firstCells,loadCells,loadCellsFrom]⟩
    obtain ⟨bf,be⟩:=bk
    have bc:∀ (ad:Option Addr) (ln cap:Nat),ln≤cap→(Builtin.append_ #[t,t] ty #[.slice ad ln cap,vx]).run P w = .ok (.slice ad ln cap) w:=fun ad ln cap Z=>by
     cases ad with
     | none=>simp [Builtin.append_,run_underlying hu,sizeOf,typeInfo,g,r,bf,be,Z]
     | some ad=>simp [Builtin.append_,run_underlying hu,sizeOf,typeInfo,g,r,bf,be,Z,storeCells]
    cases hRs with
    | nil _=>exact bc none 0 0 (Nat.le_refl _)
    | emp _=>exact bc _ 0 0 (Nat.le_refl _)
    | list sz us hc=>exact bc _ _ _ hc
   cases o with
   | none=>exact hob.elim
   | full =>
   simp only at hob ⊢
   by_cases ah:(AM X).length=0
   ·rw [Ai ah] at hob ⊢
    exact a0 ah hob.1
   rw [Aj ah] at hob ⊢
   obtain ⟨lx,⟨K,hz,F,a1,cx⟩,cs⟩:=hob
   obtain ⟨ys,o',rfl⟩:=G2 lx
   simp only [AM] at *
   have hpos:0<ys.length:=by omega
   obtain ⟨z,au⟩:=Option.isSome_iff_exists.1 hz
   obtain ⟨i',v,hi',hv,hc,aa,rfl⟩:=EQ au
   rw [g] at hi';cases hi'
   obtain ⟨us,u1,u2⟩:=hRs.list_open cs
   obtain ⟨ux,x1,x2⟩:=hRx.list_open (fun y hy=>(cx y hy).1)
   have ao:∀ i,i<xs.length→(us i).cells.size=sz:=fun i g=>(u1 i g).1
   have m:∀ i,i<ys.length→(ux i).cells.size=sz:=fun i g=>(x1 i g).1
   rcases x2 with ⟨_,q,_⟩ | ⟨bx,ox,cx',_,rfl,_,_,_,hcx⟩
   ·subst q;exact absurd hpos (by simp)
   have J:=E9 (w:=w) m K hcx
   have Q:xs.length+ys.length≤maxLen:=by simp [maxLen];omega
   have G:∀ (O:Nat) (zs:List Value) (cells:Array Value),cells.toList=flat us xs.length++flat ux ys.length++zs→zs.length=(grownCap w (xs.length+ys.length) O el-(xs.length+ys.length))*sz →
     (Builtin.append_ #[t,t] ty #[vs,.slice (some ⟨bx,ox,none⟩) ys.length cx']).run P w = .ok (.slice (some ⟨w.heap.size,0,none⟩) (xs.length+ys.length) (grownCap w (xs.length+ys.length) O el)) (w.drew.alloc (.cells cells el)) →
     Yields' P w0 M { st with rows:=st.rows++[.grow (xs.length+ys.length) sz] } (.list (xs++ys.map AV.pub) (.row st.rows.length)) w (do pure (.value (← Builtin.append_ #[t,t] ty #[vs,.slice (some ⟨bx,ox,none⟩) ys.length cx']))):=by
    intro O zs cells E ba hrun
    obtain ⟨d1,d2⟩:=h.st.drew
    have ae:=grownCap_ge w (xs.length+ys.length) O el
    have Z:=grownCap_le_maxLen w (xs.length+ys.length) O el Q
    have H:cells.size=grownCap w (xs.length+ys.length) O el*sz:=by
     have:cells.size=cells.toList.length:=by simp
     rw [this,E]
     simp only [List.length_append,AP ao,AP m,ba]
     rw [←Nat.add_mul,←Nat.add_mul]
     congr 1
     omega
    obtain ⟨r1,r2⟩:=d1.addRow (cs:=cells) (ty:=el) (sz:=sz) Z ae H
    have ai:=Yk (w0:=w0) d2 u1 x1
    have D:(xs++ys.map AV.pub).length=xs.length+ys.length:=by simp
    have Y:=R.row (w0:=w0) (M:=M) (w:=w.drew) (us:=Wn us ux xs.length) (xs:=xs++ys.map AV.pub) (cs:=cells) (ty:=el) (sz:=sz) (k:=(xs.length+ys.length)*sz) (cap:=grownCap w (xs.length+ys.length) O el) (o := .row st.rows.length) ai
     (fun i g j hj=>by
      rw [D] at g
      rw [←Array.getElem?_toList,E]
      exact WV ao m zs i g j hj) (by rw [D];exact ae) Z (by rw [D];exact Nat.le_refl _) (M.addRow w.drew.heap.size (grownCap w (xs.length+ys.length) O el) (xs.length+ys.length) sz ((xs.length+ys.length)*sz)) (by simp [Mem.addRow]) r2
     (by
      have hN:=h.st.NR
      refine ⟨by simp [Mem.addRow,hN],by rw [D];simp [Mem.addRow,hN],fun _=>by simp [Mem.addRow,hN]⟩)
    rw [D] at Y
    exact .value ⟨_,_,_,hrun,d2.trans r2,r1,Y⟩
   have ab:(flat ux ys.length).length=ys.length*f.size:=by rw [AP m,r]
   have ak:(xs.length+ys.length)*f.bytes≤140737488355328:=by rw [a4];exact F
   rcases u2 with ⟨rfl | ⟨ad,rfl⟩,q,_⟩ | ⟨bs,os,cps,sz',rfl,_,_,ho,hcs'⟩
   ·subst q
    simp only [List.length_nil,Nat.zero_add] at *
    have hrun:=run_append_nil (P:=P) w t ty el f v hu g hv ⟨bx,ox,none⟩ ys.length cx' (flat ux ys.length) ab J hpos (by omega) (by omega)
    refine G 0 (Builtin.zeroCells v.cells (grownCap w ys.length 0 el-ys.length)).toList _ ?_ ?_ hrun
    ·simp [flat]
    ·simp only [Array.length_toList,size_zeroCells,aa,r]
   ·subst q
    simp only [List.length_nil,Nat.zero_add] at *
    have hrun:=run_append_grow (P:=P) w t ty el f v hu g hv ad 0 0 [] (by simp) (fun j u hu=>by simp at hu) ⟨bx,ox,none⟩ ys.length cx' (flat ux ys.length) ab J (by omega) (by rw [Nat.zero_add];omega) (growslice_fits (by omega) (by rw [Nat.zero_add];exact ak))
    simp only [Nat.zero_add] at hrun
    refine G 0 (Builtin.zeroCells v.cells (grownCap w ys.length 0 el-ys.length)).toList _ ?_ ?_ hrun
    ·simp [flat]
    ·simp only [Array.length_toList,size_zeroCells,aa,r]
   ·have hcap:xs.length=cps:=ho
    have ap:=E9 (w:=w) ao K hcs'
    have aw:(flat us xs.length).length=xs.length*f.size:=by rw [AP ao,r]
    have hrun:=run_append_grow (P:=P) w t ty el f v hu g hv ⟨bs,os,none⟩ xs.length cps (flat us xs.length) aw ap ⟨bx,ox,none⟩ ys.length cx' (flat ux ys.length) ab J (by omega) (by omega) (growslice_fits (by omega) ak)
    refine G cps (Builtin.zeroCells v.cells (grownCap w (xs.length+ys.length) cps el-(xs.length+ys.length))).toList _ ?_ ?_ hrun
    ·simp
    ·simp only [Array.length_toList,size_zeroCells,aa,r]
   | seed =>
   simp only at hob ⊢
   by_cases ah:(AM X).length=0
   ·rw [Ai ah] at hob ⊢
    exact a0 ah hob.1
   rw [Aj ah] at hob ⊢
   obtain ⟨lx,⟨K,hz,F,a1,cx⟩,bl,hpos⟩:=hob
   obtain ⟨ys,o',rfl⟩:=G2 lx
   have:xs=[]:=List.length_eq_zero_iff.1 bl
   subst this
   simp only [AM,Nat.zero_add] at *
   obtain ⟨z,au⟩:=Option.isSome_iff_exists.1 hz
   obtain ⟨i',v,hi',hv,hc,aa,rfl⟩:=EQ au
   rw [g] at hi';cases hi'
   obtain ⟨ux,x1,x2⟩:=hRx.list_open (fun y hy=>(cx y hy).1)
   have m:∀ i,i<ys.length→(ux i).cells.size=sz:=fun i g=>(x1 i g).1
   rcases x2 with ⟨_,q,_⟩ | ⟨bx,ox,cx',_,rfl,_,_,_,hcx⟩
   ·subst q;exact absurd hpos (by simp)
   have J:=E9 (w:=w) m K hcx
   have Q:ys.length≤maxLen:=by simp [maxLen];omega
   have ab:(flat ux ys.length).length=ys.length*f.size:=by rw [AP m,r]
   have ak:ys.length*f.bytes≤140737488355328:=by rw [a4];exact F
   have G:∀ (O:Nat) (zs:List Value) (cells:Array Value),cells.toList=flat ux ys.length++zs→zs.length=(grownCap w ys.length O el-ys.length)*sz →
     (Builtin.append_ #[t,t] ty #[vs,.slice (some ⟨bx,ox,none⟩) ys.length cx']).run P w = .ok (.slice (some ⟨w.heap.size,0,none⟩) ys.length (grownCap w ys.length O el)) (w.drew.alloc (.cells cells el)) →
     Yields' P w0 M { st with rows:=st.rows++[.vec 0 sz (ys.flatMap fun y=>y.pub.cells)] } (.vec st.rows.length 0 0 ys.length) w (do pure (.value (← Builtin.append_ #[t,t] ty #[vs,.slice (some ⟨bx,ox,none⟩) ys.length cx']))):=by
    intro O zs cells E ba hrun
    obtain ⟨d1,d2⟩:=h.st.drew
    have ae:=grownCap_ge w ys.length O el
    have Z:=grownCap_le_maxLen w ys.length O el Q
    have H:cells.size=grownCap w ys.length O el*sz:=by
     have:cells.size=cells.toList.length:=by simp
     rw [this,E]
     simp only [List.length_append,AP m,ba]
     rw [←Nat.add_mul]
     congr 1
     omega
    have a3:=NK (fun y hy=>(cx y hy).1)
    obtain ⟨r1,r2⟩:=d1.addVec (cs:=cells) (ty:=el) (sz:=sz) (xs:=ys.flatMap fun y=>y.pub.cells) Z K H (by rw [H,a3];exact Nat.mul_le_mul_right _ ae) (Y4 (fun i g=>((x1 i g).2).mono d2) (fun y hy=>(cx y hy).2))
     (fun i v x aq aj=>by
      have a7:i<ys.length*sz:=by rw [←a3];exact (Ak.1 aj).1
      rw [←Array.getElem?_toList,E,List.getElem?_append_left (by rw [AP m];exact a7)] at aq
      exact (ZgO K x1 (fun y hy=>(cx y hy).1) aq aj).mono d2)
    refine .value ⟨_,_,_,hrun,d2.trans r2,r1,?_⟩
    have hN:=h.st.NR
    refine .vec (by simp [Mem.addRow,hN]) (Nat.zero_le _) fun _=>⟨by simp [Mem.addRow,hN],by simp [Mem.addRow,hN],ae⟩
   (cases hRs with
   | nil ho =>
    have hrun:=run_append_nil (P:=P) w t ty el f v hu g hv ⟨bx,ox,none⟩ ys.length cx' (flat ux ys.length) ab J hpos (by omega) (by omega)
    refine G 0 (Builtin.zeroCells v.cells (grownCap w ys.length 0 el-ys.length)).toList _ ?_ ?_ hrun
    ·simp
    ·simp only [Array.length_toList,size_zeroCells,aa,r]
   | @emp ad _ ho =>
    have hrun:=run_append_grow (P:=P) w t ty el f v hu g hv ad 0 0 [] (by simp) (fun j u hu=>by simp at hu) ⟨bx,ox,none⟩ ys.length cx' (flat ux ys.length) ab J (by omega) (by rw [Nat.zero_add];omega) (growslice_fits (by omega) (by rw [Nat.zero_add];exact ak))
    simp only [Nat.zero_add] at hrun
    refine G 0 (Builtin.zeroCells v.cells (grownCap w ys.length 0 el-ys.length)).toList _ ?_ ?_ hrun
    ·simp
    ·simp only [Array.length_toList,size_zeroCells,aa,r]
   | @list b off cap _ _ sz' us hc' hm' hcell hu' ho =>
    have hcap:(0:Nat)=cap:=ho
    subst hcap
    have hrun:=run_append_grow (P:=P) w t ty el f v hu g hv ⟨b,off,none⟩ 0 0 [] (by simp) (fun j u hu=>by simp at hu) ⟨bx,ox,none⟩ ys.length cx' (flat ux ys.length) ab J (by omega) (by rw [Nat.zero_add];omega) (growslice_fits (by omega) (by rw [Nat.zero_add];exact ak))
    simp only [Nat.zero_add] at hrun
    refine G 0 (Builtin.zeroCells v.cells (grownCap w ys.length 0 el-ys.length)).toList _ ?_ ?_ hrun
    ·simp
    ·simp only [Array.length_toList,size_zeroCells,aa,r])
   | row id =>
   simp only at hob ⊢
   obtain ⟨lx,⟨K,hz,F,a1,cx⟩,cs,am⟩:=hob
   obtain ⟨ys,o',rfl⟩:=G2 lx
   simp only [AM] at *
   obtain ⟨z,au⟩:=Option.isSome_iff_exists.1 hz
   obtain ⟨i',v,hi',hv,hc,aa,rfl⟩:=EQ au
   rw [g] at hi';cases hi'
   obtain ⟨us,u1,u2⟩:=hRs.list_open cs
   obtain ⟨ux,x1,x2⟩:=hRx.list_open (fun y hy=>(cx y hy).1)
   have ao:∀ i,i<xs.length→(us i).cells.size=sz:=fun i g=>(u1 i g).1
   have m:∀ i,i<ys.length→(ux i).cells.size=sz:=fun i g=>(x1 i g).1
   have U:id<M.NR:=by rw [h.st.NR];exact (Ak.1 am).1
   obtain ⟨f1,f2,f3,f4,f5,f6,f7,cur,te,f8,f9⟩:=h.st.row id _ am
   rcases u2 with ⟨_,_,q⟩ | ⟨bs,os,cps,sz',rfl,_,_,ho,hcs'⟩
   ·exact absurd rfl (q id)
   obtain ⟨_,_,bj⟩:=ho
   obtain ⟨e1,e2,e3,_⟩:=bj f1.symm
   subst e1;subst e2;subst e3
   have D:(xs++ys.map AV.pub).length=xs.length+ys.length:=by simp
   have a8:(Builtin.lenOf vx).run P w = .ok ys.length w:=by
    rcases x2 with ⟨rfl | ⟨_,rfl⟩,q,_⟩ | ⟨bx,ox,cx',_,rfl,_⟩
    ·subst q;rfl
    ·subst q;rfl
    ·rfl
   have ab:(flat ux ys.length).length=ys.length*f.size:=by rw [AP m,r]
   have ar:(Builtin.firstCells sz ys.length vx).run P w = .ok (flat ux ys.length).toArray w:=by
    rcases x2 with ⟨rfl | ⟨_,rfl⟩,q,_⟩ | ⟨bx,ox,cx',_,rfl,_,_,_,hcx⟩
    ·subst q;rfl
    ·subst q;simp [Builtin.firstCells,loadCells,loadCellsFrom,flat]
    ·exact run_firstCells_some w sz ys.length ⟨bx,ox,none⟩ ys.length cx' (flat ux ys.length) (AP m) (E9 (w:=w) m K hcx)
   by_cases hroom:xs.length+ys.length≤M.cap id
   ·-- there is room
    have ay:xs.length*sz+(flat ux ys.length).length≤cur.size:=by rw [AP m,f9,←Nat.add_mul];exact Nat.mul_le_mul_right _ hroom
    have hrun:=W7 (P:=P) (w:=w) t ty el hu bd (M.blk id) xs.length (M.cap id) cur te f8 a8 (flat ux ys.length) ar (W9 x1 (fun y hy=>(cx y hy).2)) hroom ay
    generalize hc':(cur.toList.take (xs.length*sz)++flat ux ys.length++cur.toList.drop (xs.length*sz+(flat ux ys.length).length)).toArray=cur' at hrun
    have av:cur'.size=cur.size:=by rw [←hc'];simp;omega
    have az:∀ j,j<xs.length*sz→cur'[j]? = cur[j]? := by
     intro j hj
     rw [←hc',List.getElem?_toArray,List.append_assoc,List.getElem?_append_left (by simp;omega),List.getElem?_take,Ai hj,Array.getElem?_toList]
    have a9:∀ j,j<ys.length*sz→cur'[xs.length*sz+j]? = (flat ux ys.length)[j]? := by
     intro j hj
     have l2:=AP m
     rw [←hc',List.getElem?_toArray,List.append_assoc,List.getElem?_append_right (by simp;omega)]
     simp only [List.length_take,Array.length_toList]
     have e:min (xs.length*sz) cur.size=xs.length*sz:=by omega
     rw [e,show xs.length*sz+j-xs.length*sz=j from by omega,List.getElem?_append_left (by rw [l2];exact hj)]
    have C:Ext w0 M w (M.growRow id (M.blk id) (M.cap id) (xs.length+ys.length) ((xs.length+ys.length)*sz)) (w.setRow (M.blk id) cur'):=by
     refine L9 (M:=M) (M.growRow id (M.blk id) (M.cap id) (xs.length+ys.length) ((xs.length+ys.length)*sz)) rfl (fun _ _=>rfl) rfl (fun i g=>?_) (fun b=>?_) f8 f3 (fun j hj=>az j (by rw [f4] at hj;exact hj))
     ·by_cases c:i=id
      ·subst c
       simp only [Mem.growRow,if_true,f1]
       exact ⟨by omega,fun _=>⟨trivial,trivial,trivial⟩⟩
      ·simp only [Mem.growRow,Aj c]
       exact ⟨Nat.le_refl _,fun _=>⟨trivial,trivial,trivial⟩⟩
     ·simp only [Mem.growRow]
      split
      ·rename_i c
       rw [c,f4]
       exact Nat.mul_le_mul_right _ (by omega)
      ·exact Nat.le_refl _
    have ax:=h.st.row_lt U
    have af:=h.st.growRow am (w':=w.setRow (M.blk id) cur') (b:=M.blk id) (cap:=M.cap id) (k:=xs.length+ys.length) f3 (Below.setRow (Below.refl _ _) f3 _) (by simp) (by simpa using ax) f6 hroom
     (fun l hl=>⟨f5 l hl,setRow_other w _ _ _ (f5 l hl)⟩) (fun i g a2=>by
      have:M.blk i≠M.blk id:=fun q=>a2 (h.st.rowinj i id g U q)
      exact ⟨this,setRow_other w _ _ _ this⟩) (setRow_heap w _ cur cur' te _ f8) (by rw [av];exact f9) C (KeepsObj.setRow f8 _)
    have ai:=Yk (w0:=w0) C u1 x1
    have Y:=R.list (w0:=w0) (M:=M.growRow id (M.blk id) (M.cap id) (xs.length+ys.length) ((xs.length+ys.length)*sz)) (w:=w.setRow (M.blk id) cur') (b:=M.blk id) (off:=0) (cap:=M.cap id) (xs:=xs++ys.map AV.pub) (o := .row id) sz (Wn us ux xs.length) (by rw [D];exact hroom) f6
     (fun i g=>⟨(ai i g).1,fun j hj=>by
      rw [D] at g
      have q1:(i+1)*sz≤(xs.length+ys.length)*sz:=Nat.mul_le_mul_right _ g
      rw [Nat.succ_mul] at q1
      refine ⟨.inr ?_,?_⟩
      ·simp only [Mem.growRow,if_true]
       omega
      ·rw [Nat.zero_add,cell_of_row _ _ _ cur' te _ (setRow_heap w _ cur cur' te _ f8)]
       unfold Wn
       by_cases c:i<xs.length
       ·have q:(i+1)*sz≤xs.length*sz:=Nat.mul_le_mul_right _ c
        rw [Nat.succ_mul] at q
        have:=hcs' i c j hj
        rw [Nat.zero_add,cell_of_row _ _ _ cur te _ f8] at this
        rw [Ai c,az _ (by omega),this]
       ·have q:(i-xs.length+1)*sz≤ys.length*sz:=Nat.mul_le_mul_right _ (by omega)
        rw [Nat.succ_mul] at q
        have e:i*sz=xs.length*sz+(i-xs.length)*sz:=by rw [←Nat.add_mul];congr 1;omega
        rw [Aj c,show i*sz+j=xs.length*sz+((i-xs.length)*sz+j) from by omega,a9 _ (by omega)]
        exact HM m _ (by omega) j hj⟩) (fun i g=>(ai i g).2)
     (by
      rw [D]
      refine ⟨U,by simp [Mem.growRow],fun _=>⟨by simp [Mem.growRow],rfl,by simp [Mem.growRow],?_⟩⟩
      simp [Mem.growRow,f2])
    rw [D] at Y
    exact .value ⟨_,_,_,hrun,C,af,Y⟩
   ·-- a new row
    have hypos:0<ys.length:=by omega
    rcases x2 with ⟨_,q,_⟩ | ⟨bx,ox,cx',_,rfl,_,_,_,hcx⟩
    ·subst q;simp at hypos
    have J:=E9 (w:=w) m K hcx
    have ap:=E9 (w:=w) ao K hcs'
    have aw:(flat us xs.length).length=xs.length*f.size:=by rw [AP ao,r]
    have ak:(xs.length+ys.length)*f.bytes≤140737488355328:=by rw [a4];exact F
    have hrun:=run_append_grow (P:=P) w t ty el f v hu g hv ⟨M.blk id,0,none⟩ xs.length (M.cap id) (flat us xs.length) aw ap ⟨bx,ox,none⟩ ys.length cx' (flat ux ys.length) ab J (by omega) (by omega) (growslice_fits (by omega) ak)
    have Q:xs.length+ys.length≤maxLen:=by simp [maxLen];omega
    have ae:=grownCap_ge w (xs.length+ys.length) (M.cap id) el
    have Z:=grownCap_le_maxLen w (xs.length+ys.length) (M.cap id) el Q
    generalize hcl:((flat us xs.length).toArray++(flat ux ys.length).toArray++Builtin.zeroCells v.cells (grownCap w (xs.length+ys.length) (M.cap id) el-(xs.length+ys.length)))=cells at hrun
    have V:cells.toList=flat us xs.length++flat ux ys.length++(Builtin.zeroCells v.cells (grownCap w (xs.length+ys.length) (M.cap id) el-(xs.length+ys.length))).toList:=by rw [←hcl];simp
    generalize grownCap w (xs.length+ys.length) (M.cap id) el=gc at *
    have H:cells.size=gc*sz:=by
     have:cells.size=cells.toList.length:=by simp
     rw [this,V]
     simp only [List.length_append,AP ao,AP m,Array.length_toList,size_zeroCells,aa,r]
     rw [←Nat.add_mul,←Nat.add_mul]
     congr 1
     omega
    obtain ⟨d1,d2⟩:=h.st.drew
    have C:Ext w0 M w.drew (M.growRow id w.drew.heap.size gc (xs.length+ys.length) ((xs.length+ys.length)*sz)) (w.drew.alloc (.cells cells el)):=by
     refine O3 _ _ (.inl rfl) (fun _ _=>rfl) (Nat.le_refl _) (fun i g=>?_) (fun b hb=>?_)
     ·by_cases c:i=id
      ·subst c
       simp only [Mem.growRow,if_true,f1]
       exact ⟨by omega,fun q=>absurd q (by omega)⟩
      ·simp only [Mem.growRow,Aj c]
       exact ⟨Nat.le_refl _,fun _=>⟨trivial,trivial,trivial⟩⟩
     ·simp only [Mem.growRow]
      rw [Aa]
      exact Nat.le_refl _
    have af:=d1.growRow am (w':=w.drew.alloc (.cells cells el)) (b:=w.drew.heap.size) (cap:=gc) (k:=xs.length+ys.length) h.st.base_le ((Below.refl _ w.drew).alloc h.st.base_le _) (by simp) (by simp) Z ae
     (fun l hl=>by have:=h.st.box_lt hl;exact ⟨fun q=>by simp at q;omega,Br _ _ this⟩) (fun i g a2=>by have:=h.st.row_lt g;exact ⟨fun q=>by simp at q;omega,Br _ _ this⟩) (heap_alloc_new w.drew _) H C (KeepsObj.alloc _ _)
    have ai:=Yk (w0:=w0) d2 u1 x1
    have Y:=R.row (w0:=w0) (M:=M) (w:=w.drew) (us:=Wn us ux xs.length) (xs:=xs++ys.map AV.pub) (cs:=cells) (ty:=el) (sz:=sz) (k:=(xs.length+ys.length)*sz) (cap:=gc) (o := .row id) ai
     (fun i g j hj=>by
      rw [D] at g
      rw [←Array.getElem?_toList,V]
      exact WV ao m _ i g j hj) (by rw [D];exact ae) Z (by rw [D];exact Nat.le_refl _) (M.growRow id w.drew.heap.size gc (xs.length+ys.length) ((xs.length+ys.length)*sz)) (by simp [Mem.growRow]) C
     (by
      refine ⟨U,by rw [D];simp [Mem.growRow],fun _=>⟨by simp [Mem.growRow],rfl,by simp [Mem.growRow],?_⟩⟩
      simp [Mem.growRow,f2])
    rw [D] at Y
    exact .value ⟨_,_,_,hrun,d2.trans C,af,Y⟩
  | vec id ver o n' =>
   simp only at hob ⊢
   cases hvr:Ey st.rows id ver with
   | none=>simp [hvr] at hob
   | some q =>
   obtain ⟨sz',cs⟩:=q
   simp only [hvr] at hob ⊢
   obtain ⟨lx,⟨K,hz,F,a1,cx⟩,rfl,rfl,bm⟩:=hob
   obtain ⟨ys,o',rfl⟩:=G2 lx
   simp only [AM] at *
   obtain ⟨z,au⟩:=Option.isSome_iff_exists.1 hz
   obtain ⟨i',v,hi',hv,hc,aa,rfl⟩:=EQ au
   rw [g] at hi';cases hi'
   have am:=EB hvr
   have U:id<M.NR:=by rw [h.st.NR];exact (Ak.1 am).1
   obtain ⟨f1,f2,f3,f4,f5,f6,f7,cur,te,f8,f9,bo,bg,bi⟩:=h.st.row id _ am
   cases hRs with
   | @vec _ _ _ _ p cap hid' hver hh =>
   obtain ⟨rfl,hcap,bn⟩:=hh f1.symm
   simp only [Nat.add_zero,Nat.zero_mul] at hcap ⊢
   subst hcap
   obtain ⟨ux,x1,x2⟩:=hRx.list_open (fun y hy=>(cx y hy).1)
   have m:∀ i,i<ys.length→(ux i).cells.size=sz':=fun i g=>(x1 i g).1
   have a8:(Builtin.lenOf vx).run P w = .ok ys.length w:=by
    rcases x2 with ⟨rfl | ⟨_,rfl⟩,q,_⟩ | ⟨bx,ox,cx',_,rfl,_⟩
    ·subst q;rfl
    ·subst q;rfl
    ·rfl
   have ab:(flat ux ys.length).length=ys.length*f.size:=by rw [AP m,r]
   have ar:(Builtin.firstCells sz' ys.length vx).run P w = .ok (flat ux ys.length).toArray w:=by
    rcases x2 with ⟨rfl | ⟨_,rfl⟩,q,_⟩ | ⟨bx,ox,cx',_,rfl,_,_,_,hcx⟩
    ·subst q;rfl
    ·subst q;simp [Builtin.firstCells,loadCells,loadCellsFrom,flat]
    ·exact run_firstCells_some w sz' ys.length ⟨bx,ox,none⟩ ys.length cx' (flat ux ys.length) (AP m) (E9 (w:=w) m K hcx)
   have a3:=NK (fun y hy=>(cx y hy).1)
   have bb:=Y4 (fun i g=>(x1 i g).2) (fun y hy=>(cx y hy).2)
   have hcl:(cs.take (n'*sz')++ys.flatMap fun y=>y.pub.cells).length=(n'+ys.length)*sz':=by
    rw [List.length_append,a3,List.length_take,Nat.add_mul];omega
   have a5:∀ x∈cs.take (n'*sz')++ys.flatMap (fun y=>y.pub.cells),x.one=true:=by
    intro x hx
    rcases List.mem_append.1 hx with hx | hx
    ·exact bg x (List.mem_of_mem_take hx)
    ·exact bb x hx
   -- what the new cells stand for,in whatever block they lie
   have E:∀ (cells:Array Value) (zs:List Value),cells.toList=cur.toList.take (n'*sz')++flat ux ys.length++zs→∀ (i:Nat) (v:Value) (x:AV),cells[i]? = some v→(cs.take (n'*sz')++ys.flatMap fun y=>y.pub.cells)[i]? = some x→R w0 M w v x:=by
    intro cells zs hcl' i v x aq aj
    have a7:i<(n'+ys.length)*sz':=by rw [←hcl];exact (Ak.1 aj).1
    rw [Nat.add_mul] at a7
    have bh:(cur.toList.take (n'*sz')).length=n'*sz':=by simp;omega
    rw [←Array.getElem?_toList,hcl',List.append_assoc] at aq
    by_cases q:i<n'*sz'
    ·rw [List.getElem?_append_left (by omega),List.getElem?_take,Ai q,Array.getElem?_toList] at aq
     rw [List.getElem?_append_left (by simp;omega),List.getElem?_take,Ai q] at aj
     obtain ⟨q1,rfl⟩:=Array.getElem?_eq_some_iff.1 aq
     obtain ⟨q2,rfl⟩:=Ak.1 aj
     exact bi i q1 q2
    ·rw [List.getElem?_append_right (by omega),bh,List.getElem?_append_left (by rw [AP m];omega)] at aq
     rw [List.getElem?_append_right (by simp;omega)] at aj
     have e:(cs.take (n'*sz')).length=n'*sz':=by simp;omega
     rw [e] at aj
     exact ZgO K x1 (fun y hy=>(cx y hy).1) aq aj
   by_cases hroom:n'+ys.length≤M.cap id
   ·-- there is room
    have ay:n'*sz'+(flat ux ys.length).length≤cur.size:=by rw [AP m,f9,←Nat.add_mul];exact Nat.mul_le_mul_right _ hroom
    have hrun:=W7 (P:=P) (w:=w) t ty el hu bd (M.blk id) n' (M.cap id) cur te f8 a8 (flat ux ys.length) ar (W9 x1 (fun y hy=>(cx y hy).2)) hroom ay
    generalize hc':(cur.toList.take (n'*sz')++flat ux ys.length++cur.toList.drop (n'*sz'+(flat ux ys.length).length)).toArray=cur' at hrun
    have av:cur'.size=cur.size:=by rw [←hc'];simp;omega
    have C:Ext w0 M w (M.growRow id (M.blk id) (M.cap id) (ver+1) 0) (w.setRow (M.blk id) cur'):=by
     refine L9 (M:=M) (M.growRow id (M.blk id) (M.cap id) (ver+1) 0) rfl (fun _ _=>rfl) rfl (fun i g=>?_) (fun b=>?_) f8 f3 (fun j hj=>by rw [f4] at hj;omega)
     ·by_cases c:i=id
      ·subst c
       simp only [Mem.growRow,if_true,f1]
       exact ⟨by omega,fun q=>absurd q (by omega)⟩
      ·simp only [Mem.growRow,Aj c]
       exact ⟨Nat.le_refl _,fun _=>⟨trivial,trivial,trivial⟩⟩
     ·simp only [Mem.growRow]
      split
      ·rename_i c
       rw [c,f4]
       exact Nat.le_refl _
      ·exact Nat.le_refl _
    have ax:=h.st.row_lt U
    have q:(M.growRow id (M.blk id) (M.cap id) (ver+1) 0).fr id=ver+1∧(M.growRow id (M.blk id) (M.cap id) (ver+1) 0).blk id=M.blk id∧(M.growRow id (M.blk id) (M.cap id) (ver+1) 0).cap id=M.cap id∧(M.growRow id (M.blk id) (M.cap id) (ver+1) 0).rsz id=M.rsz id∧(M.growRow id (M.blk id) (M.cap id) (ver+1) 0).top (M.blk id)=0:=by simp [Mem.growRow]
    obtain ⟨q1,q2,q3,q4,q5⟩:=q
    have af:=h.st.growRow' am (x := .vec (ver+1) sz' (cs.take (n'*sz')++ys.flatMap fun y=>y.pub.cells)) (w':=w.setRow (M.blk id) cur') (b:=M.blk id) (cap:=M.cap id) (k:=ver+1) (tp:=0) (Below.setRow (Below.refl _ _) f3 _) (by simp) (by simpa using ax)
     (fun l hl=>⟨f5 l hl,setRow_other w _ _ _ (f5 l hl)⟩) (fun i g a2=>by
      have:M.blk i≠M.blk id:=fun q=>a2 (h.st.rowinj i id g U q)
      exact ⟨this,setRow_other w _ _ _ this⟩) (by
      simp only [RowOk,q1,q2,q3,q4,q5]
      exact ⟨trivial,f2,f3,trivial,f5,f6,K,cur',te,setRow_heap w _ cur cur' te _ f8,av.trans f9,by rw [hcl,av,f9];exact Nat.mul_le_mul_right _ hroom,a5,
       fun i a b=>(E cur' _ (by rw [←hc']) i _ _ (Array.getElem?_eq_getElem a) (List.getElem?_eq_getElem b)).mono C⟩) C (KeepsObj.setRow f8 _)
    exact .value ⟨_,_,_,hrun,C,af,.vec U (by rw [q1];exact Nat.le_refl _) fun _=>⟨by rw [q2];simp,by rw [q3];rfl,hroom⟩⟩
   ·-- a new block
    have hypos:0<ys.length:=by omega
    rcases x2 with ⟨_,q,_⟩ | ⟨bx,ox,cx',_,rfl,_,_,_,hcx⟩
    ·subst q;simp at hypos
    have J:=E9 (w:=w) m K hcx
    have ak:(n'+ys.length)*f.bytes≤140737488355328:=by rw [a4];exact F
    have ap:∀ (j:Nat) (u:Value),(cur.toList.take (n'*sz'))[j]? = some u→w.cell? ((⟨M.blk id,0,none⟩:Addr).add j)=some u:=by
     intro j u hj
     rw [List.getElem?_take] at hj
     split at hj
     ·rw [Eb,Nat.zero_add,cell_of_row w _ j cur te _ f8,←Array.getElem?_toList];exact hj
     ·cases hj
    have aw:(cur.toList.take (n'*sz')).length=n'*f.size:=by simp;rw [r];omega
    have hrun:=run_append_grow (P:=P) w t ty el f v hu g hv ⟨M.blk id,0,none⟩ n' (M.cap id) (cur.toList.take (n'*sz')) aw ap ⟨bx,ox,none⟩ ys.length cx' (flat ux ys.length) ab J (by omega) (by omega) (growslice_fits (by omega) ak)
    have Q:n'+ys.length≤maxLen:=by simp [maxLen];omega
    have ae:=grownCap_ge w (n'+ys.length) (M.cap id) el
    have Z:=grownCap_le_maxLen w (n'+ys.length) (M.cap id) el Q
    generalize hcl':((cur.toList.take (n'*sz')).toArray++(flat ux ys.length).toArray++Builtin.zeroCells v.cells (grownCap w (n'+ys.length) (M.cap id) el-(n'+ys.length)))=cells at hrun
    have V:cells.toList=cur.toList.take (n'*sz')++flat ux ys.length++(Builtin.zeroCells v.cells (grownCap w (n'+ys.length) (M.cap id) el-(n'+ys.length))).toList:=by rw [←hcl'];simp
    generalize grownCap w (n'+ys.length) (M.cap id) el=gc at *
    have H:cells.size=gc*sz':=by
     have:cells.size=cells.toList.length:=by simp
     rw [this,V]
     simp only [List.length_append,aw,AP m,Array.length_toList,size_zeroCells,aa,r]
     rw [←Nat.add_mul,←Nat.add_mul]
     congr 1
     omega
    obtain ⟨d1,d2⟩:=h.st.drew
    have C:Ext w0 M w.drew (M.growRow id w.drew.heap.size gc (ver+1) 0) (w.drew.alloc (.cells cells el)):=by
     refine O3 _ _ (.inl rfl) (fun _ _=>rfl) (Nat.le_refl _) (fun i g=>?_) (fun b hb=>?_)
     ·by_cases c:i=id
      ·subst c
       simp only [Mem.growRow,if_true,f1]
       exact ⟨by omega,fun q=>absurd q (by omega)⟩
      ·simp only [Mem.growRow,Aj c]
       exact ⟨Nat.le_refl _,fun _=>⟨trivial,trivial,trivial⟩⟩
     ·simp only [Mem.growRow]
      rw [Aa]
      exact Nat.le_refl _
    have q:(M.growRow id w.drew.heap.size gc (ver+1) 0).fr id=ver+1∧(M.growRow id w.drew.heap.size gc (ver+1) 0).blk id=w.drew.heap.size∧(M.growRow id w.drew.heap.size gc (ver+1) 0).cap id=gc∧(M.growRow id w.drew.heap.size gc (ver+1) 0).rsz id=M.rsz id∧(M.growRow id w.drew.heap.size gc (ver+1) 0).top w.drew.heap.size=0:=by simp [Mem.growRow]
    obtain ⟨q1,q2,q3,q4,q5⟩:=q
    have a6:∀ l,l<M.N→M.bx l≠w.drew.heap.size:=fun l hl=>by have:=h.st.box_lt hl;intro q;simp at q;omega
    have af:=d1.growRow' am (x := .vec (ver+1) sz' (cs.take (n'*sz')++ys.flatMap fun y=>y.pub.cells)) (w':=w.drew.alloc (.cells cells el)) (b:=w.drew.heap.size) (cap:=gc) (k:=ver+1) (tp:=0) ((Below.refl _ w.drew).alloc h.st.base_le _) (by simp) (by simp)
     (fun l hl=>by have:=h.st.box_lt hl;exact ⟨a6 l hl,Br _ _ this⟩) (fun i g a2=>by have:=h.st.row_lt g;exact ⟨fun q=>by simp at q;omega,Br _ _ this⟩) (by
      simp only [RowOk,q1,q2,q3,q4,q5]
      exact ⟨trivial,f2,h.st.base_le,trivial,a6,Z,K,cells,el,heap_alloc_new w.drew _,H,by rw [hcl,H];exact Nat.mul_le_mul_right _ ae,a5,
       fun i a b=>((E cells _ V i _ _ (Array.getElem?_eq_getElem a) (List.getElem?_eq_getElem b)).mono d2).mono C⟩) C (KeepsObj.alloc _ _)
    exact .value ⟨_,_,_,hrun,d2.trans C,af,.vec U (by rw [q1];exact Nat.le_refl _) fun _=>⟨by rw [q2];simp,by rw [q3];rfl,ae⟩⟩
  | _=>exact hob.elim
theorem Yields'.congr {s s':Sem Next} {st':St} {r:AV} (h:Yields' P w0 M st' r w s) (e:s'.run P w=s.run P w):Yields' P w0 M st' r w s':=by
 obtain ⟨v,b,M',a,c⟩:=h
 exact ⟨v,b,M',by rw [e];exact a,c⟩
theorem KN (b:Builtin) (args:Array Operand) (ts:Array TypeId) (dst:Option Tmp) (type:TypeId) (pos:String) (after:Array Edge) (guard:Option (Nat × Bool)) (s:Sem Value)
  (hb:∀ cs,builtin b ts type cs (args.map a.eval)=(do pure (.value (← s)):Sem Next)) :
  (execOp a.eval ⟨dst,.call ⟨.builtin b,args,ts⟩,type,pos,after,guard⟩).run P w=((do pure (.value (← s)):Sem Next)).run P w:=by
 simp only [execOp,resolve,invoke,Sem.run_bind,Sem.run_pure,Result.andThen_ok]
 rw [hb]
 simp
theorem QJ {t:TypeId} (h:Jn P t=true):∃ el,P.underlying t=some (.slice el)∧P.underlying el=some (.int .u8)∧GK P el=some (1,false):=by
 unfold Jn at h
 split at h
 ·rename_i el h1
  simp only [Bool.and_eq_true] at h
  obtain ⟨h2,h3⟩:=h
  refine ⟨el,h1,?_,?_⟩
  ·split at h2
   ·assumption
   ·cases h2
  ·split at h3
   ·assumption
   ·cases h3
 ·cases h
theorem XZ (r:Int):(Utf8.encode r).size≤4:=by
 unfold Utf8.encode
 dsimp only
 (repeat' split)<;>simp [ByteArray.size]
theorem Yv (h:Rel w0 n M e st a w) (s d:TypeId) (x:Operand) (hob:(AZ P e true st (.convert s d x)).1) :
  Yields' P w0 M (AZ P e true st (.convert s d x)).2.2 (AZ P e true st (.convert s d x)).2.1 w (do pure (.value (← convert s d (a.eval x)))):=by
 unfold AZ at hob ⊢
 cases hs:M6 P s with
 | some k1 =>
  cases hd:M6 P d with
  | some k =>
   simp only [hs,hd] at hob ⊢
   obtain ⟨r,hi,U⟩:=hob
   obtain ⟨ex,_⟩:=(A2 h r).int hi
   rw [ex]
   refine .here h.st (v := .int k (AD (Az e x))) ?_ (.flat rfl)
   simp [convert,run_underlying (PY hs),run_underlying (PY hd),Conv.intToInt,LD U]
  | none =>
   simp only [hs,hd] at hob ⊢
   obtain ⟨r,hi,K⟩:=hob
   obtain ⟨ex,_⟩:=(A2 h r).int hi
   rw [ex]
   exact .here h.st (run_convert_int_string w s d _ _ (by rw [PY hs];rfl) (EJ K)) (.flat (Ah (Nat.le_trans (XZ _) (by decide))))
 | none =>
  simp only [hs] at hob ⊢
  by_cases z:(Ej P s&&Ej P d)=true
  ·simp only [z,if_true] at hob ⊢
   simp only [Bool.and_eq_true] at z
   obtain ⟨r,hi⟩:=hob
   have hR:=A2 h r
   refine .here h.st (v:=a.eval x) ?_ hR
   obtain ⟨q,hq⟩:∃ q,Az e x = .val (.string q):=by
    cases hv:Az e x<;>rw [hv] at hi<;>try cases hi
    rename_i v
    cases v<;>first | exact ⟨_,rfl⟩ | cases hi
   rw [hq] at hR
   obtain ⟨ev,_⟩:=hR.val_inv
   rw [ev]
   simp [convert,run_underlying (EJ z.1),run_underlying (EJ z.2)]
  ·simp only [z,if_false,Bool.false_eq_true] at hob ⊢
   by_cases hc2:(Jn P s&&Ej P d)=true
   ·simp only [hc2,if_true] at hob ⊢
    simp only [Bool.and_eq_true] at hc2
    obtain ⟨m,G,H,Z⟩:=QJ hc2.1
    split at hob
    ·rename_i id ver o n' hx0
     cases hvr:Ey st.rows id ver with
     | none=>simp [hvr] at hob
     | some q =>
     obtain ⟨af,cs⟩:=q
     simp only [hvr] at hob ⊢
     obtain ⟨r,rfl,ag,c,g⟩:=hob
     have hR:=A2 h r
     rw [hx0] at hR
     obtain ⟨f1,f2,f3,f4,f5,f6,f7,N,te,f8,f9,ai,aj,aa⟩:=h.st.row id _ (EB hvr)
     obtain ⟨v,hev⟩:∃ v,a.eval x=v:=⟨_,rfl⟩
     rw [hev] at hR ⊢
     cases hR with
     | @vec _ _ _ _ p cap hid hver hh =>
     obtain ⟨rfl,C,ah⟩:=hh f1.symm
     have hl:((cs.drop o).take n').length=n':=by simp;omega
     have f:(F6 ((cs.drop o).take n')).size=n':=by simp [F6,ByteArray.size];omega
     have t:FB (.string (F6 ((cs.drop o).take n')))=true:=by simp [FB,maxLen,f];exact c
     have:=run_convert_bytes_back (P:=P) w s d m ⟨M.blk id,o*M.rsz id,none⟩ cap (((cs.drop o).take n').map fun x=>UInt8.ofNat (AD x).toNat) G H (EJ hc2.2) (fun j E=>by
      have F:j<n':=by rw [List.length_map,hl] at E;exact E
      have Q:((cs.drop o).take n')[j]'(by omega)=cs[o+j]'(by omega):=by simp
      have hq:=g _ (List.getElem_mem (l:=(cs.drop o).take n') (n:=j) (by omega))
      rw [Q] at hq
      have hr:=aa (o+j) (by omega) (by omega)
      rw [Eb,f2,Nat.mul_one,cell_of_row w _ (o+j) N te _ f8,Array.getElem?_eq_getElem (show o+j<N.size by omega)]
      simp only [List.getElem_map,Q]
      generalize cs[o+j]'(by omega)=y at hq hr
      cases y with
      | val u =>
       cases u<;>try exact hq.elim
       rename_i k n
       cases k<;>try exact hq.elim
       obtain ⟨n0,n1⟩:0≤n∧n≤255:=hq
       rw [hr.val_inv.1]
       simp only [AD]
       have:(UInt8.ofNat n.toNat).toNat=n.toNat:=by simp;omega
       rw [this]
       simp
       omega
      | _=>exact hq.elim)
     rw [List.length_map,hl] at this
     exact .here h.st (v := .string (F6 ((cs.drop o).take n'))) this (.flat t)
    rename_i hx0
    obtain ⟨r,hi,c,g⟩:=hob
    have hR:=A2 h r
    obtain ⟨xs,o,Y⟩:=G2 hi
    rw [Y] at hR c g ⊢
    simp only [AM] at c g ⊢
    have ab:∀ y∈xs,y.cells.length=1:=fun y hy=>by
     have:=g y hy
     cases y<;>first | rfl | exact this.elim
    obtain ⟨us,h1,h2⟩:=hR.list_open ab
    have f:(F6 xs).size=xs.length:=by simp [F6,ByteArray.size]
    have t:FB (.string (F6 xs))=true:=by simp [FB,maxLen,f];exact c
    rcases h2 with ⟨ev | ⟨ad,ev⟩,rfl,_⟩ | ⟨b,off,cap,af,ev,_,_,_,hcell⟩
    ·rw [ev]
     have:=run_convert_bytes_nil (P:=P) w s m G H 0 0 d (EJ hc2.2)
     exact .here h.st (v := .string ByteArray.empty) this (.flat rfl)
    ·rw [ev]
     have:=run_convert_bytes_back (P:=P) w s d m ad 0 [] G H (EJ hc2.2) (fun j E=>absurd E (by simp))
     exact .here h.st (v := .string ByteArray.empty) this (.flat rfl)
    ·rw [ev]
     have hb:∀ i (hi:i<xs.length),∃ n:Int,0≤n∧n≤255∧xs[i] = .val (.int .u8 n)∧us i = .int .u8 n:=fun i hi=>by
      have hq:=g _ (List.getElem_mem hi)
      have hr:=(h1 i hi).2
      cases hv:xs[i] with
      | val u =>
       rw [hv] at hq hr
       cases u<;>try exact hq.elim
       rename_i k n
       cases k<;>try exact hq.elim
       exact ⟨n,hq.1,hq.2,rfl,hr.val_inv.1⟩
      | _=>rw [hv] at hq;exact hq.elim
     have:=run_convert_bytes_back (P:=P) w s d m ⟨b,off,none⟩ cap (xs.map fun x=>UInt8.ofNat (AD x).toNat) G H (EJ hc2.2) (fun j E=>by
      have F:j<xs.length:=by simpa using E
      obtain ⟨n,n0,n1,Q,e2⟩:=hb j F
      have z:=hcell j F 0 (by omega)
      rw [e2] at z
      simp only [Nat.mul_one,Nat.add_zero] at z
      rw [Eb,z]
      simp only [List.getElem_map,Q,AD,Value.cells]
      have:(UInt8.ofNat n.toNat).toNat=n.toNat:=by simp;omega
      rw [this]
      simp
      omega)
     simp only [List.length_map] at this
     exact .here h.st (v := .string (F6 xs)) this (.flat t)
   ·simp only [hc2,if_false,Bool.false_eq_true] at hob ⊢
    by_cases hc3:(Ej P s&&Jn P d)=true
    ·simp only [hc3,if_true] at hob ⊢
     simp only [Bool.and_eq_true] at hc3
     obtain ⟨m,G,H,Z⟩:=QJ hc3.2
     obtain ⟨_,r,hi⟩:=hob
     have hR:=A2 h r
     obtain ⟨q,hq⟩:∃ q,Az e x = .val (.string q):=by
      cases hv:Az e x<;>rw [hv] at hi<;>try cases hi
      rename_i v
      cases v<;>first | exact ⟨_,rfl⟩ | cases hi
     rw [hq] at hR ⊢
     obtain ⟨ev,t⟩:=hR.val_inv
     rw [ev]
     simp only [Zbz]
     have ae:q.size≤maxLen:=by simpa [FB] using t
     have O:=Lib.run_convert_string_bytes (P:=P) w s d m q (EJ hc3.1) G H
     have J:Below w.heap.size w (Lib.bytesWorld w m q):=⟨rfl,rfl,rfl,by rw [Lib.bytesWorld_size];omega,fun k U=>Lib.bytesWorld_at_old w m q k U⟩
     obtain ⟨r1,r2⟩:=h.st.later J w.heap.size q.size (Nat.le_refl _) (.inl (by rw [Lib.bytesWorld_size];omega))
     have C:=grownCap_ge w q.size 0 m
     have D:=grownCap_le_maxLen w q.size 0 m ae
     have c:(F4 q.data.toList).length=q.size:=by simp [F4]
     refine .value ⟨_,_,_,O,r2,r1,?_⟩
     have:=R.list (w0:=w0) (M:=M.newTop w.heap.size q.size) (w:=Lib.bytesWorld w m q) (b:=w.heap.size) (off:=0) (cap:=grownCap w q.size 0 m) (xs:=F4 q.data.toList) (o := .none) 1 (fun i => .int .u8 (q.data.toList.getD i 0).toNat)
      (by rw [c];exact C) D (fun i hi=>⟨rfl,fun j E=>⟨.inr (by rw [c] at hi;simp [Mem.newTop];omega),by
       rw [c] at hi
       have hj0:j=0:=by omega
       subst hj0
       simp only [Nat.mul_one,Nat.zero_add,Nat.add_zero]
       rw [Lib.bytesWorld_cell w m q i hi]
       rfl⟩⟩) (fun i hi=>by
       have V:i<q.data.toList.length:=by rw [c] at hi;exact hi
       simp only [F4,List.getElem_map]
       rw [show q.data.toList.getD i 0=q.data.toList[i] from by simp [List.getD,List.getElem?_eq_getElem V]]
       exact .flat rfl) trivial
     rw [c] at this
     exact this
    ·simp only [hc3] at hob
     exact hob.elim
theorem H7 {z:List AV} {sz:Nat} (hz:z.length=sz):∀ (m j:Nat) (x:AV),((List.replicate m z).flatten)[j]? = some x→0<sz∧z[j % sz]? = some x
 | 0,j,x,h=>by simp at h
 | m+1,j,x,h=>by
  rw [List.replicate_succ,List.flatten_cons] at h
  by_cases c:j<z.length
  ·rw [List.getElem?_append_left c] at h
   exact ⟨by omega,by rw [Nat.mod_eq_of_lt (by omega)];exact h⟩
  ·rw [List.getElem?_append_right (by omega)] at h
   obtain ⟨b,a⟩:=H7 hz m _ x h
   refine ⟨b,?_⟩
   rw [hz] at a
   rw [←a]
   congr 1
   rw [←Nat.mod_eq_sub_mod (by omega)]
theorem Vo (h:Rel w0 n M e st a w) (t:TypeId) (len cap:Operand) (hob:(AZ P e true st (.makeSlice t len cap)).1) :
  Yields' P w0 M (AZ P e true st (.makeSlice t len cap)).2.2 (AZ P e true st (.makeSlice t len cap)).2.1 w (do pure (.value (← Instr.makeSlice t (a.eval len) (a.eval cap)))):=by
 unfold AZ at hob ⊢
 cases he:KA P t with
 | none=>simp [he] at hob
 | some p =>
 obtain ⟨el,sz,ag,ao⟩:=p
 cases hz:BA P el with
 | none=>simp [he,hz] at hob
 | some z =>
 simp only [he,hz] at hob ⊢
 obtain ⟨_,hl,hc,il,ic,h0,h1,ab,ak,Y,E,ah⟩:=hob
 obtain ⟨H,hu,r,ad,ai⟩:=FV he
 have Q:H.size=sz:=by
  obtain ⟨i',d,h1,h2,_⟩:=Lp ai
  rw [r] at h1;cases h1;exact h2
 obtain ⟨i',v,hi',hv,s,am,rfl⟩:=EQ hz
 rw [r] at hi';cases hi'
 obtain ⟨aj,_⟩:=(A2 h hl).int il
 obtain ⟨ae,_⟩:=(A2 h hc).int ic
 generalize AD (Az e len)=l at *
 generalize AD (Az e cap)=c at *
 obtain ⟨y,rfl⟩:=Int.eq_ofNat_of_zero_le h0
 obtain ⟨g,rfl⟩:=Int.eq_ofNat_of_zero_le (Int.le_trans h0 h1)
 have b:=run_make (P:=P) w t el H v hu r hv (JF (Az e len)) (JF (Az e cap)) y g h0 h1 (by rw [ad,Int.mul_comm];omega) (by omega)
 rw [←aj,←ae] at b
 simp only [Int.toNat_natCast,Q] at b
 have F:g≤maxLen:=by unfold maxLen;omega
 have O:=size_madeCells v.cells (g*sz)
 have f:RowR w0 M w v.cells (H8 v).cells:=(O5 s).cells
 have G:=(O5 (w0:=w0) (M:=M) (w:=w) s).cellsOne (fun vs e=>by have:=LQ s;rw [e] at this;cases this)
 by_cases hl0:(y:Int)=0
 ·rw [Ai hl0,Ai hl0]
  have:y=0:=by omega
  subst this
  obtain ⟨r1,r2⟩:=h.st.addRow (cs:=madeCells v.cells (g*sz)) (ty:=el) (k:=0) (sz:=sz) F (Nat.zero_le _) O
  refine .value ⟨_,_,_,b,r2,r1,?_⟩
  have N:=h.st.NR
  exact R.list (xs:=[]) sz (fun _=>undef) (Nat.zero_le _) F (fun i r=>absurd r (by simp)) (fun i r=>absurd r (by simp)) ⟨by simp [Mem.addRow,N],by simp [Mem.addRow,N],fun _=>by simp [Mem.addRow,N]⟩
 ·rw [Aj hl0,Aj hl0]
  by_cases hmk0:Iz e t=true
  case neg =>
   rw [Aj hmk0,Aj hmk0]
   obtain rfl:sz=1:=by
    rcases ah with q | q | q
    ·exact absurd q hl0
    ·exact absurd q hmk0
    ·exact q
   have C:v.cells.size=1:=by rw [f.1,E]
   obtain ⟨u,hu0⟩:∃ u,v.cells[0]? = some u:=⟨_,Array.getElem?_eq_getElem (by omega)⟩
   have aa:(H8 v).cells[0]? = some (Ya (H8 v).cells 0):=by
    rw [List.getElem?_eq_getElem (by omega)]
    simp [Ya,List.getD,List.getElem?_eq_getElem (show 0<(H8 v).cells.length by omega)]
   have Z:R w0 M w u (Ya (H8 v).cells 0):=f.get hu0 aa
   have K:(Ya (H8 v).cells 0).one=true:=G _ (List.mem_of_getElem? aa)
   have J:u.cells = #[u]:=(Z.cells_one K).1
   obtain ⟨U,D⟩:=h.st.newTop (madeCells v.cells (g*1)) el (g*1)
   have m:(List.replicate y (Ya (H8 v).cells 0)).length=y:=List.length_replicate
   have hR:=R.row (us:=fun _=>u) (xs:=List.replicate y (Ya (H8 v).cells 0)) (cs:=madeCells v.cells (g*1)) (ty:=el) (sz:=1) (k:=g*1) (cap:=g) (o := .none)
    (fun i r=>⟨by rw [J];rfl,by rw [List.getElem_replicate];exact Z⟩)
    (fun i r j hj=>by
     have hi':i<y:=by rw [m] at r;exact r
     have:i*1+j<g*1:=by omega
     have h3:(madeCells v.cells (g*1))[i*1+j]? = some v.cells[(i*1+j) % v.cells.size]! := by
      simp only [madeCells,Array.getElem?_map,Array.getElem?_range,Ai this,Option.map_some]
     obtain rfl:j=0:=by omega
     rw [h3,C,Nat.mod_one,J,getElem!_pos v.cells 0 (by omega)]
     rw [Array.getElem?_eq_getElem (by omega)] at hu0
     simpa using hu0)
    (by rw [m];omega) F (by rw [m];omega) (M.newTop w.heap.size (g*1)) (by simp [Mem.newTop]) D trivial
   rw [m] at hR
   exact .value ⟨_,_,_,b,D,U,hR⟩
  rw [Ai hmk0,Ai hmk0]
  obtain ⟨r1,r2⟩:=h.st.addVec (cs:=madeCells v.cells (g*sz)) (ty:=el) (cap:=g) (sz:=sz) (xs:=(List.replicate y (H8 v).cells).flatten) F Y O
   (by rw [O];simp only [List.length_flatten,List.map_replicate,List.sum_replicate_nat,E];exact Nat.mul_le_mul_right _ (by omega))
   (fun x D=>by
    obtain ⟨q,hq,D⟩:=List.mem_flatten.1 D
    rw [List.eq_of_mem_replicate hq] at D
    exact G x D)
   (fun i u x af D=>by
    obtain ⟨_,h2⟩:=H7 E y i x D
    have h3:u=v.cells[i % v.cells.size]! := by
     obtain ⟨q1,q2⟩:=Array.getElem?_eq_some_iff.1 af
     rw [←q2];simp [madeCells]
    have C:v.cells.size=sz:=by rw [f.1,E]
    have h4:v.cells[i % sz]? = some u:=by
     have V:i % sz<v.cells.size:=by rw [C];exact Nat.mod_lt _ Y
     rw [h3,C,getElem!_pos v.cells (i % sz) V,Array.getElem?_eq_getElem V]
    exact f.get h4 h2)
  refine .value ⟨_,_,_,b,r2,r1,?_⟩
  have N:=h.st.NR
  exact .vec (by simp [Mem.addRow,N]) (Nat.zero_le _) fun _=>⟨by simp [Mem.addRow,N],by simp [Mem.addRow,N],by omega⟩
theorem X6 (h:Rel w0 n M e st a w) (t:TypeId) (m:Nat) (ps:Array (Nat × Operand)) (hmk:Iz e t=true) (hob:(AZ P e true st (.buildSlice t m ps)).1) :
  Yields' P w0 M (AZ P e true st (.buildSlice t m ps)).2.2 (AZ P e true st (.buildSlice t m ps)).2.1 w (do pure (.value (← Instr.buildSlice t m (ps.map fun (i,x)=>(i,a.eval x))))):=by
 unfold AZ at hob ⊢
 cases he:KA P t with
 | none=>simp [he] at hob
 | some p =>
  obtain ⟨el,sz,ag,ab⟩:=p
  simp only [he,hmk] at hob ⊢
  obtain ⟨_,H,hr,aa,b,hz,s,N⟩:=hob
  obtain ⟨i,K,g,_,F⟩:=FV he
  obtain ⟨z,Z⟩:=Option.isSome_iff_exists.1 hz
  obtain ⟨i',v,o,hv,hc,hs,rfl⟩:=EQ Z
  have hl:ps.toList.length=m:=by simpa using congrArg List.length hr
  have d:∀ p∈ps.toList,(a.eval p.2).cells.size=sz:=fun p J=>by
   rw [(A2 h (H p J)).cells.1]
   exact s _ (List.mem_map.2 ⟨p,J,rfl⟩)
  obtain ⟨zc,hzc⟩:∃ zc:Array Value,if m*sz=0 then zc = #[] else zc=v.cells:=by
   by_cases h0:m*sz=0
   ·exact ⟨#[],by rw [Ai h0]⟩
   ·exact ⟨v.cells,by rw [Aj h0]⟩
  obtain ⟨cs',a1,a2,a3,a4⟩:=Tu sz (ps.toList.map fun p=>a.eval p.2) 0 ((Array.range (m*sz)).map (zc[· % zc.size]!)) (fun u K=>by obtain ⟨p,J,rfl⟩:=List.mem_map.1 K;exact d p J) (by simp [hl])
  have hm:m≤maxLen:=by
   have:m*1≤m*sz:=Nat.mul_le_mul_left _ b
   simp [maxLen];omega
  let us:Nat→Value:=fun i=>(ps.toList.map fun p=>a.eval p.2).getD i undef
  have r:∀ i (g:i<(ps.toList.map fun p=>Az e p.2).length),(us i).cells.size=sz∧R w0 M w (us i) (ps.toList.map fun p=>Az e p.2)[i]:=fun i g=>by
   have o:i<ps.toList.length:=by simpa using g
   have Y:i<ps.size:=by simpa using o
   have e1:us i=a.eval (ps.toList[i]).2:=by simp [us,List.getD,Array.getElem?_eq_getElem Y]
   rw [e1]
   refine ⟨d _ (List.getElem_mem _),?_⟩
   simp only [List.getElem_map]
   exact A2 h (H _ (List.getElem_mem _))
  have q:(ps.toList.map fun p=>Az e p.2).length=m:=by simp [←hl]
  have G:=NK (ys:=ps.toList.map fun p=>Az e p.2) (sz:=sz) s
  rw [q] at G
  have c:cs'.size=m*sz:=by rw [a2];simp
  have l:∀ j,j<m*sz→(flat us m)[j]? = cs'[j]? := fun j hj=>by
   have hk:j / sz<m:=(Nat.div_lt_iff_lt_mul b).2 hj
   have C:=Nat.mod_lt j b
   have ej:j / sz*sz+j % sz=j:=by rw [Nat.mul_comm];exact Nat.div_add_mod j sz
   have f:=HM (us:=us) (m:=m) (sz:=sz) (fun i g=>(r i (by rw [q];exact g)).1) (j / sz) hk (j % sz) C
   rw [ej] at f
   have Q:j / sz<ps.toList.length:=by omega
   have V:j / sz<ps.size:=by simpa using Q
   have f2:=a4 (j / sz) (us (j / sz)) (by simp [us,List.getD,Array.getElem?_eq_getElem V]) (j % sz) C
   rw [Nat.zero_add,ej] at f2
   rw [f,f2]
  obtain ⟨E,hx⟩:=h.st.addVec (cs:=cs') (ty:=el) (cap:=m) (sz:=sz) (xs:=(ps.toList.map fun p=>Az e p.2).flatMap fun y=>y.pub.cells) hm b c (by rw [G,c];exact Nat.le_refl _) (Y4 (fun i g=>(r i g).2) N)
   (fun i v x k O=>by
    have g:i<m*sz:=by rw [←c];exact (Array.getElem?_eq_some_iff.1 k).1
    rw [←l i g] at k
    rw [←q] at k
    exact ZgO b r s k O)
  have U:=h.st.NR
  refine .value ⟨.slice (some ⟨w.heap.size,0,none⟩) m m,_,_,?_,hx,E,.vec (by simp [Mem.addRow,U]) (Nat.zero_le _) fun _=>⟨by simp [Mem.addRow,U],by simp [Mem.addRow,U],Nat.le_refl _⟩⟩
  have e0:¬ (m*sz > 2 ^ 24):=by omega
  have D:(ps.map fun (i,x)=>(i,a.eval x)).toList=((ps.toList.map fun p=>a.eval p.2).zipIdx 0).map fun x=>(x.2,x.1):=by
   rw [Array.toList_map]
   exact Ve hr a.eval
  by_cases h0:m*sz=0
  ·rw [Ai h0] at hzc
   subst hzc
   simp only [Instr.buildSlice,Sem.run_bind,run_underlying K,Result.andThen_ok,Be F,Aj e0,Ai h0,Sem.run_pure,D,a1,newRow,run_newObj]
   rfl
  ·rw [Aj h0] at hzc
   subst hzc
   simp only [Instr.buildSlice,Sem.run_bind,run_underlying K,Result.andThen_ok,Be F,Aj e0,Aj h0,Sem.run_pure,zeroValue,typeInfo,run_program,o,hv,D,a1,newRow,run_newObj]
   rfl
theorem Zcr (h:Rel w0 n M e st a w) (o:Oper) (hob:(AZ P e true st o.op).1) :
  Yields' P w0 M (AZ P e true st o.op).2.2 (AZ P e true st o.op).2.1 w (execOp a.eval o):=by
 obtain ⟨p,op,g,l,k,j⟩:=o
 cases op with
 | move x=>exact KD h.st rfl (A2 h hob)
 | assign x=>exact KD h.st rfl (A2 h hob)
 | pick c x y=>exact Zfg h c x y hob
 | alloc t=>exact Zcc h t hob
 | box t x=>exact ZgS h t x hob
 | build t ps=>exact Zb4 h t ps hob
 | buildSlice t m ps =>
  cases hmk:Iz e t with
  | false=>exact TS h t m ps hmk hob
  | true=>exact X6 h t m ps hmk hob
 | load t x =>
  have:=Zfe h t x hob
  have e:(AZ P e true st (.load t x)).2.2=st:=by simp only [AZ];split<;>rfl
  simp only [e]
  exact this
 | store t x v=>exact ZcA h t x v hob
 | nilCheck x=>exact XC h ⟨p,.nilCheck x,g,l,k,j⟩ x rfl hob
 | binOp op t x y u=>exact Zcw h op t x y u hob
 | unOp op t x=>exact Zeb h op t x hob
 | convert s d x=>exact Yv h s d x hob
 | makeFunc f fi cap =>
  cases f with
  | func f=>exact X1 h f fi cap hob
  | _=>exact hob.elim
 | slice t x lo hi mx=>exact ZbR h t x lo hi mx hob
 | makeSlice t len cap=>exact Vo h t len cap hob
 | fieldAddr t x f=>exact V2 h t x f hob
 | field t x f=>exact ZcJ h t x f hob
 | indexAddr t x i=>exact Wc h t x i hob
 | index t x i=>exact ZcX h t x i hob
 | extract x i=>exact Zn h x i hob
 | call c =>
  obtain ⟨callee,args,z⟩:=c
  cases callee with
  | builtin b =>
   cases b with
   | len =>
    simp only [AZ] at hob ⊢
    split at hob
    ·rename_i x t hx ht
     obtain ⟨r,q⟩:=hob
     have ea:args = #[x]:=Array.toList_inj.1 (by simpa using hx)
     have et:z = #[t]:=Array.toList_inj.1 (by simpa using ht)
     subst ea;subst et
     exact (Zgc h x t g r q).congr (KN .len #[x] #[t] p g l k j _ (fun _=>by simp [builtin]))
    ·exact hob.elim
   | append =>
    simp only [AZ] at hob ⊢
    split at hob
    ·rename_i s x t t' hx ht
     obtain ⟨_,r,q,rfl,C⟩:=hob
     have ea:args = #[s,x]:=Array.toList_inj.1 (by simpa using hx)
     have et:z = #[t,t]:=Array.toList_inj.1 (by simpa using ht)
     subst ea;subst et
     exact (Zap h s x t g r q C).congr (KN .append #[s,x] #[t,t] p g l k j _ (fun _=>by simp [builtin]))
    ·exact hob.elim
   | min =>
    simp only [AZ] at hob ⊢
    split at hob
    ·rename_i x y hx
     obtain ⟨r,q,C,D,_⟩:=hob
     have ea:args = #[x,y]:=Array.toList_inj.1 (by simpa using hx)
     subst ea
     exact (ZgH h x y z g r q C D).congr (KN .min #[x,y] z p g l k j _ (fun _=>by simp [builtin]))
    ·exact hob.elim
   | max =>
    simp only [AZ] at hob ⊢
    split at hob
    ·rename_i x y hx
     obtain ⟨r,q,C,D⟩:=hob
     have ea:args = #[x,y]:=Array.toList_inj.1 (by simpa using hx)
     subst ea
     exact (ZgF h x y z g r q C D).congr (KN .max #[x,y] z p g l k j _ (fun _=>by simp [builtin]))
    ·exact hob.elim
   | _=>exact hob.elim
  | _=>exact hob.elim
 | _=>exact hob.elim
end
end Go.Ev
