/-
  Part 1 of the proof: rules and walks that the claim's last text uses.
-/
import Derived.Below
import Derived.Laws.Rows
import Derived.Laws.Small
import Derived.Laws.StructEq
import Derived.Lib.SliceRun
import Derived.Lib.Strings
import Derived.MapKept
import Derived.Orders
import Derived.RangeFuncNested
import Derived.RangeFuncRecord
import Derived.WalkKit
set_option linter.unusedSimpArgs false
set_option linter.unusedVariables false
set_option maxRecDepth 100000
set_option maxHeartbeats 4000000
namespace Go
theorem Aa.{u} {c:Prop} {h:Decidable c} {α:Sort u} {t e:α} (hc:¬c:=by omega):ite c t e=e:=if_neg hc
theorem Ab.{u} {c:Prop} {h:Decidable c} {α:Sort u} {t e:α} (hc:c:=by omega):ite c t e=t:=if_pos hc
theorem Ac {p:Prop} [Decidable p] (h:¬p:=by omega):decide p=false:=decide_eq_false h
theorem Ad {p:Prop} [Decidable p] (h:p:=by omega):decide p=true:=decide_eq_true h
theorem Ae {a b:Prop} (h:a) (k:b):a∧b:=⟨h,k⟩
theorem Af.{u,v} {α:Type u} {β:Type v} (a:α) (f:α→Option β):(some a).bind f=f a:=rfl
theorem Ag {p:Prop} [Decidable p] (h:¬p):decide p=false:=decide_eq_false h
theorem Ah {p:Prop} [Decidable p] (h:p):decide p=true:=decide_eq_true h
theorem Ai.{u} {c:Prop} {h:Decidable c} (hc:c) {α:Sort u} {t e:α}:ite c t e=t:=if_pos hc
theorem Aj.{u} {c:Prop} {h:Decidable c} (hc:¬c) {α:Sort u} {t e:α}:ite c t e=e:=if_neg hc
theorem Ak.{u} {α:Type u} {a:α} {l:List α} {i:Nat}:l[i]?=some a↔∃ h:i<l.length,l[i]=a:=List.getElem?_eq_some_iff
end Go
namespace Go.Ev
open Go Go.RowKit
inductive Own where
 | none | full | seed | row (id:Nat)
 deriving DecidableEq
inductive AV where
 | val (v:Value)
 | list (xs:List AV) (o:Own)
 | elem (x:AV) (off:Nat)
 | box (l off:Nat)
 | clo (f:FuncId) (caps:List AV)
 | agg (cs:List AV)
 | tup (vs:List AV)
 | yld (k:Nat)
 | vec (id ver o n:Nat)
 | vel (id ver off:Nat)
 | mp (k:Nat)
abbrev Am (x:Int):AV := .val (.int .i64 x)
abbrev AV.junk:AV := .tup []
instance:Inhabited AV:=⟨.junk⟩
def AV.cells:AV→List AV
 | .agg cs=>cs
 | x=>[x]
def AV.one:AV→Bool
 | .agg _ | .tup _=>false
 | _=>true
def GN:Value→Bool
 | .bool _ | .int _ _ | .float _ _ | .pointer none | .nilFunc | .nilIface | .iface _ _ | .map none=>true
 | .string s=>decide (s.size≤maxLen)
 | _=>false
structure LoopA where
 e:List (Nat × Bool × AV)
 n:Nat
 ps:Array Tmp
 asg:Code
 body:Code
 st:LoopState
 pend:Option Code
 keys:Option (List ByteArray)
inductive RowA where
 | grow (n sz:Nat)
 | vec (ver sz:Nat) (cells:List AV)
 | dead (ver:Nat)
structure St where
 boxes:List (List AV)
 rows:List RowA
 loops:List LoopA
abbrev Aq:=List (List AV)
abbrev Aw:=List RowA
abbrev Av:=List LoopA
structure Mem where
 N:Nat
 NR:Nat
 bx:Nat→Nat
 top:Nat→Nat
 fr:Nat→Nat
 blk:Nat→Nat
 cap:Nat→Nat
 rsz:Nat→Nat
 NL:Nat
 lb:Nat→Nat
def Mem.imm (M:Mem) (w0:World) (b off:Nat):Prop:=b<w0.heap.size∨off<M.top b
def ZfM (M:Mem) (b off cap n sz:Nat):Own→Prop
 | .none=>True
 | .full | .seed=>n=cap
 | .row id=>id<M.NR∧n≤M.fr id∧(n=M.fr id→b=M.blk id∧off=0∧cap=M.cap id∧sz=M.rsz id)
inductive R (w0:World) (M:Mem) (w:World):Value→AV→Prop
 | flat {v:Value} (h:GN v=true):R w0 M w v (.val v)
 | agg {cs:Array Value} {xs:List AV} (hl:cs.size=xs.length) (h1:∀ x∈xs,x.one=true) (h:∀ i (h1:i<cs.size) (h2:i<xs.length),R w0 M w cs[i] xs[i]):R w0 M w (.agg cs) (.agg xs)
 | tup {cs:Array Value} {xs:List AV} (hl:cs.size=xs.length) (h:∀ i (h1:i<cs.size) (h2:i<xs.length),R w0 M w cs[i] xs[i]):R w0 M w (.tuple cs) (.tup xs)
 | nil {o:Own} (ho:∀ id,o ≠ .row id):R w0 M w (.slice none 0 0) (.list [] o)
 | emp {a:Addr} {o:Own} (ho:∀ id,o ≠ .row id):R w0 M w (.slice (some a) 0 0) (.list [] o)
 | list {b off cap:Nat} {xs:List AV} {o:Own} (sz:Nat) (us:Nat→Value) (hc:xs.length≤cap) (hm:cap≤maxLen)
   (hcell:∀ i,i<xs.length→(us i).cells.size=sz∧∀ j,j<sz→M.imm w0 b (off+i*sz+j)∧w.cell? ⟨b,off+i*sz+j,none⟩=(us i).cells[j]?)
   (hu:∀ i (hi:i<xs.length),R w0 M w (us i) xs[i]) (ho:ZfM M b off cap xs.length sz o):R w0 M w (.slice (some ⟨b,off,none⟩) xs.length cap) (.list xs o)
 | elem {b off:Nat} {x:AV} (u:Value) (k:Nat) (hcell:∀ j,j<u.cells.size→M.imm w0 b (off+j)∧w.cell? ⟨b,off+j,none⟩=u.cells[j]?) (hu:R w0 M w u x) :
   R w0 M w (.pointer (some ⟨b,off+k,none⟩)) (.elem x k)
 | box {l off:Nat} (hl:l<M.N):R w0 M w (.pointer (some ⟨M.bx l,off,none⟩)) (.box l off)
 | clo {f:FuncId} {cs:Array Value} {xs:List AV} (hl:cs.size=xs.length) (h:∀ i (h1:i<cs.size) (h2:i<xs.length),R w0 M w cs[i] xs[i]):R w0 M w (.func (.func f) #[] cs) (.clo f xs)
 | yld {k:Nat} (hk:k<M.NL):R w0 M w (.func (.yield (M.lb k)) #[] #[]) (.yld k)
 | vec {id ver o n:Nat} {p:Option Addr} {cap:Nat} (hi:id<M.NR) (hv:ver≤M.fr id) (h:ver=M.fr id→p=some ⟨M.blk id,o*M.rsz id,none⟩∧cap+o=M.cap id∧n≤cap):R w0 M w (.slice p n cap) (.vec id ver o n)
 | vel {id ver off:Nat} {a:Addr} (hi:id<M.NR) (hv:ver≤M.fr id) (h:ver=M.fr id→a=⟨M.blk id,off,none⟩):R w0 M w (.pointer (some a)) (.vel id ver off)
 | mp {k:Nat} (hk:k<M.NL):R w0 M w (.map (some (M.lb k))) (.mp k)
structure Ext (w0:World) (M:Mem) (w:World) (M':Mem) (w':World):Prop where
 N:M.N≤M'.N
 bx:∀ l,l<M.N→M'.bx l=M.bx l
 NR:M.NR≤M'.NR
 rows:∀ id,id<M.NR→M.fr id≤M'.fr id∧(M'.fr id=M.fr id→M'.blk id=M.blk id∧M'.cap id=M.cap id∧M'.rsz id=M.rsz id)
 cell:∀ b off v,M.imm w0 b off→w.cell? ⟨b,off,none⟩=some v→w'.cell? ⟨b,off,none⟩=some v∧M'.imm w0 b off
 size:w.heap.size≤w'.heap.size
 NL:M.NL≤M'.NL
 lb:∀ k,k<M.NL→M'.lb k=M.lb k
 lnew:∀ k,M.NL≤k→k<M'.NL→w.heap.size≤M'.lb k
 objs:∀ b o,w.heap[b]? = some o→o.isCells=false→(∀ k,k<M.NL→M.lb k≠b)→w'.heap[b]? = some o
def KeepsObj (w w':World):Prop:=∀ (b:Nat) (o:Obj),w.heap[b]? = some o→o.isCells=false→w'.heap[b]? = some o
theorem KeepsObj.refl (w:World):KeepsObj w w:=fun _ _ h _=>h
theorem KeepsObj.trans {a b c:World} (h:KeepsObj a b) (k:KeepsObj b c):KeepsObj a c:=fun i o e d=>k i o (h i o e d) d
theorem KeepsObj.alloc (w:World) (o:Obj):KeepsObj w (w.alloc o):=fun b _ h _=>(Below.heap_alloc w o b (Array.getElem?_eq_some_iff.1 h).1).trans h
theorem Ext.refl (w0:World) (M:Mem) (w:World):Ext w0 M w M w :=
 ⟨Nat.le_refl _,fun _ _=>rfl,Nat.le_refl _,fun _ _=>⟨Nat.le_refl _,fun _=>⟨rfl,rfl,rfl⟩⟩,fun _ _ _ h k=>⟨k,h⟩,Nat.le_refl _,Nat.le_refl _,fun _ _=>rfl,fun _ _ _=>by omega,fun _ _ h _ _=>h⟩
theorem Ext.trans {w0:World} {M1 M2 M3:Mem} {w1 w2 w3:World} (h:Ext w0 M1 w1 M2 w2) (k:Ext w0 M2 w2 M3 w3):Ext w0 M1 w1 M3 w3 where
 N:=Nat.le_trans h.N k.N
 bx:=fun l m=>(k.bx l (Nat.lt_of_lt_of_le m h.N)).trans (h.bx l m)
 NR:=Nat.le_trans h.NR k.NR
 rows:=fun id d=>by
  obtain ⟨a1,a2⟩:=h.rows id d
  obtain ⟨D,r⟩:=k.rows id (Nat.lt_of_lt_of_le d h.NR)
  refine ⟨Nat.le_trans a1 D,fun e=>?_⟩
  have z:M2.fr id=M1.fr id:=by omega
  have x:M3.fr id=M2.fr id:=by omega
  obtain ⟨u,q,w⟩:=a2 z
  obtain ⟨C,y,t⟩:=r x
  exact ⟨C.trans u,y.trans q,t.trans w⟩
 cell:=fun b f v a p=>by
  obtain ⟨s,E⟩:=h.cell b f v a p
  exact k.cell b f v E s
 size:=Nat.le_trans h.size k.size
 NL:=Nat.le_trans h.NL k.NL
 lb:=fun i a=>(k.lb i (Nat.lt_of_lt_of_le a h.NL)).trans (h.lb i a)
 lnew:=fun i j g=>by
  by_cases c:i<M2.NL
  ·rw [k.lb i c];exact h.lnew i j c
  ·exact Nat.le_trans h.size (k.lnew i (by omega) g)
 objs:=fun b o j g n=>k.objs b o (h.objs b o j g n) g fun i a=>by
  by_cases c:i<M1.NL
  ·rw [h.lb i c];exact n i c
  ·have:=h.lnew i (by omega) a
   have:=(Array.getElem?_eq_some_iff.1 j).1
   omega
theorem PC {u:Value} {j:Nat} (h:j<u.cells.size):∃ v,u.cells[j]? = some v:=⟨_,Array.getElem?_eq_getElem h⟩
theorem R.mono {w0:World} {M M':Mem} {w w':World} (hx:Ext w0 M w M' w') {v:Value} {x:AV} (h:R w0 M w v x):R w0 M' w' v x:=by
 induction h with
 | flat h=>exact .flat h
 | agg hl r _ ih=>exact .agg hl r ih
 | tup hl _ ih=>exact .tup hl ih
 | nil ho=>exact .nil ho
 | emp ho=>exact .emp ho
 | @list b off cap xs o sz us hc hm hcell _ ho ih =>
  refine .list sz us hc hm (fun i d=>⟨(hcell i d).1,fun j l=>?_⟩) ih ?_
  ·obtain ⟨f,g⟩:=(hcell i d).2 j l
   obtain ⟨v,hv⟩:=PC (u:=us i) (j:=j) (by rw [(hcell i d).1];exact l)
   obtain ⟨s,t⟩:=hx.cell _ _ v f (g.trans hv)
   exact ⟨t,s.trans hv.symm⟩
  ·cases o with
   | none=>trivial
   | full=>exact ho
   | seed=>exact ho
   | row id =>
    obtain ⟨r,C,z⟩:=ho
    obtain ⟨q,m⟩:=hx.rows id r
    refine ⟨Nat.lt_of_lt_of_le r hx.NR,Nat.le_trans C q,fun e=>?_⟩
    have y:M'.fr id=M.fr id:=by omega
    obtain ⟨a,b,c⟩:=m y
    rw [a,b,c]
    exact z (by omega)
 | @elem b off x u k hcell _ ih =>
  refine .elem u k (fun j l=>?_) ih
  obtain ⟨f,g⟩:=hcell j l
  obtain ⟨v,hv⟩:=PC (u:=u) (j:=j) l
  obtain ⟨s,t⟩:=hx.cell _ _ v f (g.trans hv)
  exact ⟨t,s.trans hv.symm⟩
 | box hl=>rw [←hx.bx _ hl];exact .box (Nat.lt_of_lt_of_le hl hx.N)
 | clo hl _ ih=>exact .clo hl ih
 | yld hk=>rw [←hx.lb _ hk];exact .yld (Nat.lt_of_lt_of_le hk hx.NL)
 | mp hk=>rw [←hx.lb _ hk];exact .mp (Nat.lt_of_lt_of_le hk hx.NL)
 | @vec id ver o n p cap d hv h =>
  obtain ⟨q,m⟩:=hx.rows id d
  refine .vec (Nat.lt_of_lt_of_le d hx.NR) (Nat.le_trans hv q) (fun e=>?_)
  obtain ⟨q1,q2,q3⟩:=m (by omega)
  rw [q1,q2,q3]
  exact h (by omega)
 | @vel id ver off a d hv h =>
  obtain ⟨q,m⟩:=hx.rows id d
  refine .vel (Nat.lt_of_lt_of_le d hx.NR) (Nat.le_trans hv q) (fun e=>?_)
  obtain ⟨q1,q2,q3⟩:=m (by omega)
  rw [q1]
  exact h (by omega)
theorem R.cells {w0:World} {M:Mem} {w:World} {v:Value} {x:AV} (h:R w0 M w v x) :
  v.cells.size=x.cells.length∧∀ i (h1:i<v.cells.size) (h2:i<x.cells.length),R w0 M w v.cells[i] x.cells[i]:=by
 have one:∀ (u:Value) (y:AV),u.cells = #[u]→y.cells=[y]→R w0 M w u y →
   u.cells.size=y.cells.length∧∀ i (h1:i<u.cells.size) (h2:i<y.cells.length),R w0 M w u.cells[i] y.cells[i]:=by
  intro u y a c b
  rw [a,c]
  refine ⟨rfl,fun i h1 h2=>?_⟩
  have:i=0:=by simp at h2;exact h2
  subst this
  exact b
 cases h with
 | agg hl _ h=>exact ⟨hl,h⟩
 | flat hf=>exact one _ _ (by cases v<;>first | rfl | simp [GN] at hf) rfl (.flat hf)
 | tup hl h=>exact one _ _ rfl rfl (.tup hl h)
 | nil ho=>exact one _ _ rfl rfl (.nil ho)
 | emp ho=>exact one _ _ rfl rfl (.emp ho)
 | list sz us hc hm hcell a ho=>exact one _ _ rfl rfl (.list sz us hc hm hcell a ho)
 | elem u k hcell a=>exact one _ _ rfl rfl (.elem u k hcell a)
 | box hl=>exact one _ _ rfl rfl (.box hl)
 | clo hl h=>exact one _ _ rfl rfl (.clo hl h)
 | yld hk=>exact one _ _ rfl rfl (.yld hk)
 | mp hk=>exact one _ _ rfl rfl (.mp hk)
 | vec hi hv h=>exact one _ _ rfl rfl (.vec hi hv h)
 | vel hi hv h=>exact one _ _ rfl rfl (.vel hi hv h)
theorem R.oneCell {w0:World} {M:Mem} {w:World} {v:Value} {x:AV} (h:R w0 M w v x) (hx:x.one=true):v.oneCell'=true:=by
 cases h with
 | agg=>cases hx
 | flat hf=>cases v<;>first | rfl | simp [GN] at hf
 | tup=>cases hx
 | _=>rfl
theorem R.cellsOne {w0:World} {M:Mem} {w:World} {v:Value} {x:AV} (h:R w0 M w v x) (ht:∀ vs,x ≠ .tup vs):∀ c∈x.cells,c.one=true:=by
 cases h with
 | agg hl h1 h=>exact h1
 | tup=>exact absurd rfl (ht _)
 | _=>intro c hc;simp only [AV.cells,List.mem_singleton] at hc;subst hc;rfl
theorem R.isAgg {w0:World} {M:Mem} {w:World} {v:Value} {xs:List AV} (h:R w0 M w v (.agg xs)):∃ cs,v = .agg cs:=by
 cases h with
 | agg hl h1 h=>exact ⟨_,rfl⟩
theorem R.cells_one {w0:World} {M:Mem} {w:World} {v:Value} {x:AV} (h:R w0 M w v x) (hx:x.one=true):v.cells = #[v]∧x.cells=[x]:=by
 cases h with
 | agg=>cases hx
 | flat hf=>exact ⟨by cases v<;>first | rfl | simp [GN] at hf,rfl⟩
 | tup=>cases hx
 | _=>exact ⟨rfl,rfl⟩
def AV.pubCell:AV→AV
 | .list xs _ => .list xs .none
 | x=>x
def AV.pub:AV→AV
 | .agg cs => .agg (cs.map AV.pubCell)
 | .list xs _ => .list xs .none
 | x=>x
theorem R.pubCell {w0:World} {M:Mem} {w:World} {v:Value} {x:AV} (h:R w0 M w v x):R w0 M w v x.pubCell:=by
 cases h with
 | nil ho=>exact .nil (fun id=>by simp)
 | emp ho=>exact .emp (fun id=>by simp)
 | list sz us hc hm hcell hu ho=>exact .list sz us hc hm hcell hu trivial
 | flat hf=>exact .flat hf
 | agg hl h1 h=>exact .agg hl h1 h
 | tup hl h=>exact .tup hl h
 | elem u k hcell hu=>exact .elem u k hcell hu
 | box hl=>exact .box hl
 | clo hl h=>exact .clo hl h
 | yld hk=>exact .yld hk
 | mp hk=>exact .mp hk
 | vec hi hv h=>exact .vec hi hv h
 | vel hi hv h=>exact .vel hi hv h
theorem AV.one_pubCell (x:AV):x.pubCell.one=x.one:=by cases x<;>rfl
theorem R.pub {w0:World} {M:Mem} {w:World} {v:Value} {x:AV} (h:R w0 M w v x):R w0 M w v x.pub:=by
 cases h with
 | nil ho=>exact .nil (fun id=>by simp)
 | emp ho=>exact .emp (fun id=>by simp)
 | list sz us hc hm hcell hu ho=>exact .list sz us hc hm hcell hu trivial
 | flat hf=>exact .flat hf
 | agg hl h1 h=>exact .agg (by simpa using hl) (fun x c=>by obtain ⟨y,d,rfl⟩:=List.mem_map.1 c;rw [AV.one_pubCell];exact h1 y d) (fun i a b=>by simp only [List.getElem_map];exact (h i a (by simpa using b)).pubCell)
 | tup hl h=>exact .tup hl h
 | elem u k hcell hu=>exact .elem u k hcell hu
 | box hl=>exact .box hl
 | clo hl h=>exact .clo hl h
 | yld hk=>exact .yld hk
 | mp hk=>exact .mp hk
 | vec hi hv h=>exact .vec hi hv h
 | vel hi hv h=>exact .vel hi hv h
theorem AV.pub_cells_length (x:AV):x.pub.cells.length=x.cells.length:=by cases x<;>simp [AV.pub,AV.cells]
def HY (P:Program) (t:TypeId):Option (Nat × Bool) :=
 match P.info? t,P.underlying t with
 | some i,some d=>some (i.size,match d with | .struct _ | .array _ _=>true | _=>false)
 | _,_=>none
def C0 (P:Program) (t:TypeId) (f:Nat):Option (Nat × Nat × Bool) :=
 match P.underlying t with
 | some (.struct fs)=>match fs[f]? with
  | some x=>(HY P x.type).map fun (s,a)=>(x.offset,s,a)
  | none=>none
 | _=>none
def Mc (P:Program) (t:TypeId):Option (TypeId × Nat × Bool × Nat) :=
 match P.underlying t with
 | some (.slice e)=>match P.info? e,HY P e with
  | some i,some (s,a)=>some (e,s,a,i.bytes)
  | _,_=>none
 | _=>none
def FU (P:Program) (t:TypeId):Option (Nat × Nat × Bool) :=
 match P.underlying t with
 | some (.array n e)=>(HY P e).map fun (s,a)=>(n,s,a)
 | _=>none
def EK (P:Program) (t:TypeId):Bool :=
 match P.underlying t with | some .string=>true | _=>false
def KN (P:Program) (t:TypeId):Bool :=
 match P.underlying t with
 | some (.slice e)=>(match P.underlying e with | some (.int .u8)=>true | _=>false)&&(match HY P e with | some (1,false)=>true | _=>false)
 | _=>false
def OG (P:Program) (t:TypeId):Option IntKind :=
 match P.underlying t with | some (.int k)=>some k | _=>none
def NW:Value→AV
 | .slice none 0 0 => .list [] .full
 | v => .val v
def Jo:Value→AV
 | .agg cs => .agg (cs.toList.map NW)
 | v=>NW v
def Qg:Value→Bool
 | .slice none 0 0=>true
 | v=>GN v
def PI:Value→Bool
 | .agg cs=>cs.toList.all Qg
 | v=>Qg v
def Br (P:Program) (t:TypeId):Option (List AV) :=
 match P.info? t with
 | some i=>match i.zero with
  | some z=>if PI z&&z.cells.size == i.size then some (Jo z).cells else none
  | none=>none
 | none=>none
abbrev Env:=List (Nat × Bool × AV)
def look:Env→Nat→Option (Bool × AV)
 | [],_=>none
 | (k,c,v)::r,s=>if k=s then some (c,v) else look r s
def Ea:List Nat→Env→Env
 | [],_=>[]
 | s::K,e=>match look e s with
  | some (c,v)=>(s,c,v)::Ea K e
  | none=>Ea K e
def AC (e:Env):Operand→AV
 | .tmp t=>match look e t with | some (_,v)=>v | none => .junk
 | .const v=>Jo v
 | .func f => .clo f []
 | .global _ => .junk
def AP (e:Env) (c:Bool):Operand→Prop
 | .tmp t=>match look e t with | some (c',_)=>(c=true→c'=true) | none=>False
 | .const v=>PI v=true
 | .func _=>True
 | .global _=>False
def KB:AV→Bool
 | .val (.bool b)=>b
 | _=>false
def Wj:AV→Bool
 | .val (.bool _)=>true
 | _=>false
def AV.sel (t:Bool):AV→AV→AV
 | .val (.bool x),.val (.bool y) => .val (.bool (if t then x else y))
 | a,b=>if t then a else b
def CN (l:List AV) (off:Nat) (xs:List AV):List AV:=l.take off++xs++l.drop (off+xs.length)
def nth (l:List AV) (i:Nat):AV:=l.getD i .junk
def Ru (P:Program):List Field→Option (List (Nat × Nat))
 | []=>some []
 | f::fs=>match P.info? f.type,Ru P fs with
  | some i,some r=>some ((f.offset,i.size)::r)
  | _,_=>none
def CZ (P:Program) (t:TypeId):Option (List (Nat × Nat)) :=
 match P.underlying t with
 | some (.struct fs)=>Ru P fs.toList
 | _=>none
def LN (P:Program) (t:TypeId) (i:Nat):Option (Nat × Nat) :=
 match CZ P t with
 | some l=>l[i]?
 | none=>match FU P t with
  | some (_,s,_)=>some (i*s,s)
  | none=>none
def Tz (P:Program) (t:TypeId):List AV→List (Nat × AV)→List AV
 | cs,[]=>cs
 | cs,(i,x)::r=>match LN P t i with
  | some (o,_)=>Tz P t (CN cs o x.cells) r
  | none=>cs
def Qe (P:Program) (t:TypeId):Nat→List (Nat × AV)→Prop
 | _,[]=>True
 | n,(i,x)::r=>(match LN P t i with
  | some (o,s)=>x.cells.length=s∧o+s≤n
  | none=>False)∧Qe P t n r
def A3:AV→Bool
 | .tup _=>false
 | _=>true
def Gk:AV→Bool
 | .agg _=>true
 | _=>false
def inK:IntKind→Int→Prop
 | .i8,n => -128≤n∧n≤127
 | .i16,n => -32768≤n∧n≤32767
 | .i32,n => -2147483648≤n∧n≤2147483647
 | .i64,n => -9223372036854775808≤n∧n≤9223372036854775807
 | .u8,n=>0≤n∧n≤255
 | .u16,n=>0≤n∧n≤65535
 | .u32,n=>0≤n∧n≤4294967295
 | .u64,n=>0≤n∧n≤18446744073709551615
def Fv (x y:ByteArray):Bool:=x.data.toList == y.data.toList
def sLt (x y:ByteArray):Bool:=Op.bytesLess x.data.toList y.data.toList
def evBin:BinOp→Value→Value→Prop × Value
 | .add,.int k a,.int k' b=>(k=k'∧inK k (a+b),.int k (a+b))
 | .sub,.int k a,.int k' b=>(k=k'∧inK k (a-b),.int k (a-b))
 | .mul,.int k a,.int k' b=>(k=k'∧inK k (a*b),.int k (a*b))
 | .quo,.int k a,.int k' b=>(k=k'∧b≠0∧inK k (a.tdiv b),.int k (a.tdiv b))
 | .rem,.int k a,.int k' b=>(k=k'∧b≠0,.int k (a.tmod b))
 | .eql,.int k a,.int k' b=>(k=k',.bool (decide (a=b)))
 | .neq,.int k a,.int k' b=>(k=k',.bool (!decide (a=b)))
 | .lss,.int k a,.int k' b=>(k=k',.bool (decide (a<b)))
 | .leq,.int k a,.int k' b=>(k=k',.bool (decide (a≤b)))
 | .gtr,.int k a,.int k' b=>(k=k',.bool (decide (b<a)))
 | .geq,.int k a,.int k' b=>(k=k',.bool (decide (b≤a)))
 | .add,.string x,.string y=>(x.size+y.size≤9223372036854775807,.string (x++y))
 | .eql,.string x,.string y=>(True,.bool (Fv x y))
 | .neq,.string x,.string y=>(True,.bool (!Fv x y))
 | .lss,.string x,.string y=>(True,.bool (sLt x y))
 | .leq,.string x,.string y=>(True,.bool (sLt x y||Fv x y))
 | .gtr,.string x,.string y=>(True,.bool (!(sLt x y||Fv x y)))
 | .geq,.string x,.string y=>(True,.bool (!sLt x y))
 | .shr,.int k a,.int _ b=>(b=1∧0≤a,.int k (a / 2))
 | _,_,_=>(False,undef)
def evBB:BinOp→Bool→Bool→Prop × Bool
 | .eql,a,b=>(True,a == b)
 | .neq,a,b=>(True,a != b)
 | _,_,_=>(False,false)
def Nn (P:Program) (t:TypeId):Bool :=
 match P.underlying t with | some .bool=>true | _=>false
def L6 (P:Program) (t:TypeId):AV→AV→Prop
 | .val (.int k _),.val (.int k' _)=>(OG P t).isSome=true∧k=k'
 | .val (.string _),.val (.string _)=>EK P t=true
 | .val (.bool _),.val (.bool _)=>Nn P t=true
 | _,_=>False
def eqCell:AV→AV→Bool
 | .val (.int _ a),.val (.int _ b)=>decide (a=b)
 | .val (.string a),.val (.string b)=>Fv a b
 | .val (.bool a),.val (.bool b)=>a == b
 | _,_=>false
def Oo:List AV→List AV→Bool
 | [],[]=>true
 | x::xs,y::ys=>eqCell x y&&Oo xs ys
 | _,_=>false
def XY (P:Program):List Field→Nat→List AV→List AV→Prop
 | [],_,[],[]=>True
 | f::fs,i,x::xs,y::ys=>f.name ≠ "_" ∧ f.offset=i∧HY P f.type=some (1,false)∧L6 P f.type x y∧XY P fs (i+1) xs ys
 | _,_,_,_=>False
def eqT (P:Program) (t:TypeId):Option (List Field) :=
 match P.underlying t with
 | some (.struct fs)=>if P.stoodInHeld t=false∧P.eqGuardType P.depth t=false then some fs.toList else none
 | _=>none
def Oq (P:Program) (op:BinOp) (t:TypeId) (xs ys:List AV):Prop × Bool :=
 match eqT P t,op with
 | some fs,.eql=>(XY P fs 0 xs ys,Oo xs ys)
 | some fs,.neq=>(XY P fs 0 xs ys,!Oo xs ys)
 | _,_=>(False,false)
def NC:AV→List AV
 | .agg xs=>xs
 | _=>[]
def evUn:UnOp→Value→Prop × Value
 | .not,.bool b=>(True,.bool (!b))
 | .neg,.int k a=>(inK k (0-a),.int k (0-a))
 | _,_=>(False,undef)
def Hr:AV→Value
 | .val v=>v
 | _=>undef
def FB:AV→Bool
 | .val _=>true
 | _=>false
def AW:AV→Int
 | .val (.int _ n)=>n
 | _=>0
def Lq:AV→IntKind
 | .val (.int k _)=>k
 | _ => .i64
def Ee:AV→Bool
 | .val (.int _ _)=>true
 | _=>false
def A0:AV→List AV
 | .list xs _=>xs
 | _=>[]
def BD:AV→Bool
 | .list _ _=>true
 | _=>false
def ND:AV→Bool
 | .val (.string _)=>true
 | _=>false
def Ze5:AV→ByteArray
 | .val (.string s)=>s
 | _ => .empty
def UQ:AV→Prop
 | .val (.int .u8 n)=>0≤n∧n≤255
 | _=>False
def G2 (xs:List AV):ByteArray:=⟨(xs.map fun x=>UInt8.ofNat (AW x).toNat).toArray⟩
def Hg (l:List UInt8):List AV:=l.map fun b => .val (.int .u8 b.toNat)
def C4 (rows:Aw) (id ver:Nat):Option (Nat × List AV) :=
 match rows[id]? with
 | some (.vec v sz cs)=>if v=ver then some (sz,cs) else none
 | _=>none
def Bi (st:St):AV→List AV
 | .box l _=>st.boxes.getD l []
 | .elem x _=>x.cells
 | .vel id ver _=>match C4 st.rows id ver with | some (_,cs)=>cs | none=>[]
 | _=>[]
def EF:AV→Nat
 | .box _ o=>o
 | .elem _ o=>o
 | .vel _ _ o=>o
 | _=>0
def DW (st:St):AV→Bool
 | .box l _=>decide (l<st.boxes.length)
 | .elem (.tup _) _=>false
 | .elem _ _=>true
 | .vel id ver _=>(C4 st.rows id ver).isSome
 | _=>false
def RJ (x:AV) (n:Nat):AV :=
 match x with
 | .box l o => .box l (o+n)
 | .elem y o => .elem y (o+n)
 | .vel id ver o => .vel id ver (o+n)
 | x=>x
def P1 (agg:Bool) (cs:List AV) (off sz:Nat):AV:=if agg then .agg ((cs.drop off).take sz) else nth cs off
def We (st:St) (a:AV) (xs:List AV):St :=
 match a with
 | .box l o=>{ st with boxes:=st.boxes.set l (CN (st.boxes.getD l []) o xs) }
 | .vel id ver o=>match C4 st.rows id ver with
  | some (sz,cs)=>{ st with rows:=st.rows.set id (.vec ver sz (CN cs o xs)) }
  | none=>st
 | _=>st
def Oe:AV→Bool
 | .box _ _=>true
 | .vel _ _ _=>true
 | _=>false
def W6 (P:Program) (t:TypeId) (x:AV):Prop × AV :=
 match x with
 | .val (.string s)=>(EK P t=true,.val (.int .i64 s.size))
 | .list xs _=>((Mc P t).isSome=true,.val (.int .i64 xs.length))
 | .vec _ _ _ n=>((Mc P t).isSome=true,.val (.int .i64 n))
 | _=>(False,.junk)
def C5 (P:Program) (el sz by8:Nat) (n:Nat) (xs:List AV):Prop :=
 0<sz∧(Br P el).isSome=true∧(n+xs.length)*by8≤140737488355328∧n+xs.length≤4611686018427387904∧(∀ y∈xs,y.cells.length=sz∧A3 y=true)
def BP (P:Program) (st:St) (t:TypeId) (s x:AV):Prop × AV × St :=
 match Mc P t with
 | some (el,sz,_,by8) =>
  match s with
  | .list ys .full=>if (A0 x).length=0 then (BD x=true∧0<sz,.list ys .full,st)
   else (BD x=true∧C5 P el sz by8 ys.length (A0 x)∧(∀ y∈ys,y.cells.length=sz),.list (ys++(A0 x).map AV.pub) (.row st.rows.length),{ st with rows:=st.rows++[.grow (ys.length+(A0 x).length) sz] })
  | .list ys (.row id)=>(BD x=true∧C5 P el sz by8 ys.length (A0 x)∧(∀ y∈ys,y.cells.length=sz)∧st.rows[id]? = some (.grow ys.length sz),.list (ys++(A0 x).map AV.pub) (.row id),{ st with rows:=st.rows.set id (.grow (ys.length+(A0 x).length) sz) })
  | .list ys .seed=>if (A0 x).length=0 then (BD x=true∧0<sz,.list ys .seed,st)
   else (BD x=true∧C5 P el sz by8 0 (A0 x)∧ys.length=0∧0<(A0 x).length,.vec st.rows.length 0 0 (A0 x).length,{ st with rows:=st.rows++[.vec 0 sz ((A0 x).flatMap fun y=>y.pub.cells)] })
  | .vec id ver o n=>match C4 st.rows id ver with
   | some (sz',cs)=>(BD x=true∧C5 P el sz by8 n (A0 x)∧sz'=sz∧o=0∧n*sz≤cs.length,.vec id (ver+1) 0 (n+(A0 x).length),{ st with rows:=st.rows.set id (.vec (ver+1) sz (cs.take (n*sz)++(A0 x).flatMap fun y=>y.pub.cells)) })
   | none=>(False,.junk,st)
  | _=>(False,.junk,st)
 | none=>(False,.junk,st)
def CO (e:Env) (d:Int):Option Operand→Int
 | some y=>AW (AC e y)
 | none=>d
def Ot (e:Env) (c:Bool):Option Operand→Prop
 | some y=>AP e c y∧Ee (AC e y)=true
 | none=>True
def Vu (st:St) (x:Prop × AV × St):Prop × AV × St:=(x.1,x.2.1,st)
def JM (e:Env) (t:TypeId):Bool :=
 match look e (1000000+t) with
 | some _=>true
 | none=>false
def YW (P:Program) (t:TypeId):Bool :=
 match P.underlying t with | some (.interface _)=>true | _=>false
def GX:Value→Bool
 | .nilIface=>true
 | _=>false
def Q8:Value→Bool
 | .nilIface=>true
 | .iface _ _=>true
 | _=>false
def UD:Operand→Bool
 | .const v=>GX v
 | .tmp _=>false
 | .func _=>false
 | .global _=>false
def VV:BinOp→Value→Prop × Bool
 | .eql,v=>(Q8 v=true,GX v)
 | .neq,v=>(Q8 v=true,!GX v)
 | _,_=>(False,false)
def Zht (P:Program) (t:TypeId):Bool :=
 match P.underlying t with
 | some (.map kt et)=>EK P kt&&(match Br P et with | some []=>true | _=>false)
 | _=>false
def RS (ks:List ByteArray):LoopA:=⟨[],0,#[],.skip,.skip,.ready,none,some ks⟩
def NJ (st:St) (i:Nat):Option (List ByteArray):=(st.loops[i]?).bind (·.keys)
def QG (ks:List ByteArray) (s:ByteArray):Bool:=ks.any fun x=>Fv x s
def WB (ks:List ByteArray) (s:ByteArray):List ByteArray:=if QG ks s then ks else ks++[s]
theorem S9 {st:St} {i:Nat} {ks:List ByteArray} (h:NJ st i=some ks):∃ la,st.loops[i]? = some la∧la.keys=some ks:=Option.bind_eq_some_iff.1 h
def A4 (P:Program) (e:Env) (c:Bool) (st:St):Op→Prop × AV × St
 | .move x | .assign x=>(AP e c x,AC e x,st)
 | .pick b x y=>(AP e c b∧Wj (AC e b)=true∧(c=true→KB (AC e b)=true→AP e true x)∧(c=true→KB (AC e b)=false→AP e true y),AV.sel (KB (AC e b)) (AC e x) (AC e y),st)
 | .alloc t=>match Br P t with
  | some z=>(c=true,.box st.boxes.length 0,{ st with boxes:=st.boxes++[z] })
  | none=>(False,.junk,st)
 | .box _ x=>(c=true∧AP e c x∧A3 (AC e x)=true,.box st.boxes.length 0,{ st with boxes:=st.boxes++[(AC e x).cells] })
 | .build t ps=>match Br P t with
  | some z=>(((CZ P t).isSome=true∨(FU P t).isSome=true)∧(∀ p∈ps.toList,AP e c p.2∧A3 (AC e p.2)=true)∧Qe P t z.length (ps.toList.map fun p=>(p.1,AC e p.2)),.agg (Tz P t z (ps.toList.map fun p=>(p.1,AC e p.2))),st)
  | none=>(False,.junk,st)
 | .buildSlice t n ps =>
  let vs:=ps.toList.map fun p=>AC e p.2
  match Mc P t with
  | some (el,sz,_,_)=>match JM e t with
   | false=>((∀ p∈ps.toList,AP e c p.2)∧ps.toList.map (·.1)=List.range n∧n*sz≤16777216∧0<sz∧(Br P el).isSome=true∧(∀ x∈vs,x.cells.length=sz),.list (vs.map AV.pub) .full,st)
   | true=>(c=true∧(∀ p∈ps.toList,AP e c p.2)∧ps.toList.map (·.1)=List.range n∧n*sz≤16777216∧0<sz∧(Br P el).isSome=true∧(∀ x∈vs,x.cells.length=sz)∧(∀ x∈vs,A3 x=true),.vec st.rows.length 0 0 n,{ st with rows:=st.rows++[.vec 0 sz (vs.flatMap fun x=>x.pub.cells)] })
  | none=>(False,.junk,st)
 | .load t a=>match HY P t with
  | some (sz,ag)=>(AP e c a∧DW st (AC e a)=true∧EF (AC e a)+sz≤(Bi st (AC e a)).length∧(ag=true∨sz=1),P1 ag (Bi st (AC e a)) (EF (AC e a)) sz,st)
  | none=>(False,.junk,st)
 | .store t a v=>match HY P t with
  | some (sz,_)=>(c=true∧AP e c a∧AP e c v∧Oe (AC e a)=true∧DW st (AC e a)=true∧A3 (AC e v)=true∧(AC e v).cells.length=sz∧EF (AC e a)+sz≤(Bi st (AC e a)).length,.junk,We st (AC e a) (AC e v).cells)
  | none=>(False,.junk,st)
 | .nilCheck x=>(AP e c x∧DW st (AC e x)=true,AC e x,st)
 | .binOp op t x y _=>if Wj (AC e x)&&Wj (AC e y) then (AP e c x∧AP e c y∧Nn P t=true∧(evBB op (KB (AC e x)) (KB (AC e y))).1,.val (.bool (evBB op (KB (AC e x)) (KB (AC e y))).2),st)
  else if Gk (AC e x)&&Gk (AC e y) then (AP e c x∧AP e c y∧(Oq P op t (NC (AC e x)) (NC (AC e y))).1,.val (.bool (Oq P op t (NC (AC e x)) (NC (AC e y))).2),st)
  else if UD y then (AP e c x∧FB (AC e x)=true∧YW P t=true∧(VV op (Hr (AC e x))).1,.val (.bool (VV op (Hr (AC e x))).2),st)
  else (AP e c x∧AP e c y∧FB (AC e x)=true∧FB (AC e y)=true∧(evBin op (Hr (AC e x)) (Hr (AC e y))).1,.val (evBin op (Hr (AC e x)) (Hr (AC e y))).2,st)
 | .unOp op _ x=>(AP e c x∧FB (AC e x)=true∧(evUn op (Hr (AC e x))).1,.val (evUn op (Hr (AC e x))).2,st)
 | .convert s d x=>match OG P s,OG P d with
  | some _,some k=>(AP e c x∧Ee (AC e x)=true∧inK k (AW (AC e x)),.val (.int k (AW (AC e x))),st)
  | some _,none=>(AP e c x∧Ee (AC e x)=true∧EK P d=true,.val (.string (Utf8.encode (AW (AC e x)))),st)
  | none,_=>if EK P s&&EK P d then (AP e c x∧ND (AC e x)=true,AC e x,st)
   else if KN P s&&EK P d then match AC e x with
    | .vec id ver o n=>match C4 st.rows id ver with
     | some (sz',cs)=>(AP e c x∧sz'=1∧o+n≤cs.length∧n≤9223372036854775807∧(∀ y∈(cs.drop o).take n,UQ y),.val (.string (G2 ((cs.drop o).take n))),st)
     | none=>(False,.junk,st)
    | _=>(AP e c x∧BD (AC e x)=true∧(A0 (AC e x)).length≤9223372036854775807∧(∀ y∈A0 (AC e x),UQ y),.val (.string (G2 (A0 (AC e x)))),st)
   else if EK P s&&KN P d then (c=true∧AP e c x∧ND (AC e x)=true,.list (Hg (Ze5 (AC e x)).data.toList) .none,st)
   else (False,.junk,st)
 | .makeFunc (.func f) fi cap=>(fi.size=0∧(∀ x∈cap.toList,AP e c x),.clo f (cap.toList.map (AC e)),st)
 | .makeSlice t len cap=>match Mc P t with
  | some (el,sz,_,by8)=>match Br P el with
   | some z=>(c=true∧AP e c len∧AP e c cap∧Ee (AC e len)=true∧Ee (AC e cap)=true∧0≤AW (AC e len)∧AW (AC e len)≤AW (AC e cap)∧AW (AC e cap)*by8≤140737488355328∧AW (AC e cap)≤4611686018427387904∧0<sz∧z.length=sz∧(AW (AC e len)=0∨JM e t=true∨sz=1),
     if AW (AC e len)=0 then .list [] (.row st.rows.length) else if JM e t=true then .vec st.rows.length 0 0 (AW (AC e len)).toNat else .list (List.replicate (AW (AC e len)).toNat (nth z 0)) .none,
     if AW (AC e len)=0 then { st with rows:=st.rows++[.grow 0 sz] } else if JM e t=true then { st with rows:=st.rows++[.vec 0 sz ((List.replicate (AW (AC e len)).toNat z).flatten)] } else st)
   | none=>(False,.junk,st)
  | none=>(False,.junk,st)
 | .slice t x lo hi mx=>match AC e x with
  | .vec id ver o n=>match Mc P t,C4 st.rows id ver with
   | some (_,sz,_,_),some (sz',_)=>(AP e c x∧Ot e c lo∧Ot e c hi∧mx.isNone=true∧0≤CO e 0 lo∧CO e 0 lo≤CO e n hi∧CO e n hi≤n∧(CO e 0 lo=0∨CO e 0 lo<n)∧sz'=sz,.vec id ver (o+(CO e 0 lo).toNat) ((CO e n hi).toNat-(CO e 0 lo).toNat),st)
   | _,_=>(False,.junk,st)
  | .val (.string s) =>
   (EK P t=true∧AP e c x∧Ot e c lo∧Ot e c hi∧mx.isNone=true∧0≤CO e 0 lo∧CO e 0 lo≤CO e s.size hi∧CO e s.size hi≤s.size,.val (.string (s.extract (CO e 0 lo).toNat (CO e s.size hi).toNat)),st)
  | .list xs _=>match Mc P t with
   | some (_,sz,_,_)=>match mx with
    | none=>(AP e c x∧Ot e c lo∧Ot e c hi∧0≤CO e 0 lo∧CO e 0 lo≤CO e xs.length hi∧CO e xs.length hi≤xs.length∧(CO e 0 lo=0∨∀ y∈xs,y.cells.length=sz),.list ((xs.take (CO e xs.length hi).toNat).drop (CO e 0 lo).toNat) .none,st)
    | some m=>(AP e c x∧Ot e c lo∧Ot e c hi∧Ot e c (some m)∧CO e 0 lo=0∧CO e 1 hi=0∧CO e 1 (some m)=0,.list [] .full,st)
   | none=>(False,.junk,st)
  | _=>(False,.junk,st)
 | .fieldAddr t x f=>match C0 P t f with
  | some (o,sz,_)=>(AP e c x∧DW st (AC e x)=true∧0<sz,RJ (AC e x) o,st)
  | none=>(False,.junk,st)
 | .field t x f=>match C0 P t f with
  | some (o,sz,ag)=>(AP e c x∧Gk (AC e x)=true∧o+sz≤(AC e x).cells.length∧(ag=true∨sz=1),P1 ag (AC e x).cells o sz,st)
  | none=>(False,.junk,st)
 | .indexAddr t x i=>Vu st <| match Mc P t with
  | some (_,sz,_,_)=>match AC e x with
   | .vec id ver o n=>match C4 st.rows id ver with
    | some (sz',_)=>(AP e c x∧AP e c i∧Ee (AC e i)=true∧0≤AW (AC e i)∧AW (AC e i)<n∧sz'=sz,.vel id ver ((o+(AW (AC e i)).toNat)*sz),st)
    | none=>(False,.junk,st)
   | _=>(AP e c x∧AP e c i∧BD (AC e x)=true∧Ee (AC e i)=true∧0≤AW (AC e i)∧AW (AC e i)<(A0 (AC e x)).length∧(nth (A0 (AC e x)) (AW (AC e i)).toNat).cells.length=sz,.elem (nth (A0 (AC e x)) (AW (AC e i)).toNat) 0,st)
  | none=>match FU P t with
   | some (n,sz,_)=>(AP e c x∧AP e c i∧DW st (AC e x)=true∧Ee (AC e i)=true∧0≤AW (AC e i)∧AW (AC e i)<n,RJ (AC e x) ((AW (AC e i)).toNat*sz),st)
   | none=>(False,.junk,st)
 | .index t x i=>Vu st <| match AC e x with
  | .val (.string s)=>(EK P t=true∧AP e c x∧AP e c i∧Ee (AC e i)=true∧0≤AW (AC e i)∧AW (AC e i)<s.size,.val (.int .u8 (s.get! (AW (AC e i)).toNat).toNat),st)
  | .agg cs=>match FU P t with
   | some (n,sz,ag)=>(AP e c x∧AP e c i∧Ee (AC e i)=true∧0≤AW (AC e i)∧AW (AC e i)<n∧cs.length=n*sz∧(ag=true∨sz=1),P1 ag cs ((AW (AC e i)).toNat*sz) sz,st)
   | none=>(False,.junk,st)
  | _=>(False,.junk,st)
 | .extract x i=>Vu st <| match AC e x with
  | .tup vs=>(AP e c x∧i<vs.length,nth vs i,st)
  | _=>(False,.junk,st)
 | .makeMap _ r=>(c=true∧r.isNone=true,.mp st.loops.length,{ st with loops:=st.loops++[RS []] })
 | .lookup t m k ok=>match AC e m,AC e k with
  | .mp i,.val (.string s)=>match NJ st i with
   | some ks=>(Zht P t=true∧AP e c m∧AP e c k∧ok=true,.tup [.agg [],.val (.bool (QG ks s))],st)
   | none=>(False,.junk,st)
  | _,_=>(False,.junk,st)
 | .mapUpdate t m k v=>match AC e m,AC e k,AC e v with
  | .mp i,.val (.string s),.agg []=>match NJ st i with
   | some ks=>(c=true∧Zht P t=true∧AP e c m∧AP e c k∧AP e c v,.junk,{ st with loops:=st.loops.set i (RS (WB ks s)) })
   | none=>(False,.junk,st)
  | _,_,_=>(False,.junk,st)
 | .call ⟨.builtin .len,args,ts⟩=>match args.toList,ts.toList with
  | [x],[t]=>(AP e c x∧(W6 P t (AC e x)).1,(W6 P t (AC e x)).2,st)
  | _,_=>(False,.junk,st)
 | .call ⟨.builtin .clear,args,ts⟩=>match args.toList,ts.toList with
  | [x],[t]=>match AC e x,Mc P t with
   | .vec id ver o n,some (el,sz,_,_)=>match C4 st.rows id ver with
    | some (sz',cs)=>(c=true∧AP e c x∧sz'=sz∧(Br P el).isSome=true∧0<n,.tup [],{ st with rows:=st.rows.set id (.vec ver sz (cs.take (o*sz))) })
    | none=>(False,.junk,st)
   | _,_=>(False,.junk,st)
  | _,_=>(False,.junk,st)
 | .call ⟨.builtin .append,args,ts⟩=>match args.toList,ts.toList with
  | [s,x],[t,t']=>(c=true∧AP e c s∧AP e c x∧t=t'∧(BP P st t (AC e s) (AC e x)).1,(BP P st t (AC e s) (AC e x)).2)
  | _,_=>(False,.junk,st)
 | .call ⟨.builtin .min,args,_⟩=>match args.toList with
  | [x,y]=>(AP e c x∧AP e c y∧Ee (AC e x)=true∧Ee (AC e y)=true∧True,.val (.int (Lq (AC e x)) (if AW (AC e y)<AW (AC e x) then AW (AC e y) else AW (AC e x))),st)
  | _=>(False,.junk,st)
 | .call ⟨.builtin .max,args,_⟩=>match args.toList with
  | [x,y]=>(AP e c x∧AP e c y∧Ee (AC e x)=true∧Ee (AC e y)=true,.val (.int (Lq (AC e x)) (if AW (AC e x)<AW (AC e y) then AW (AC e y) else AW (AC e x))),st)
  | _=>(False,.junk,st)
 | _=>(False,.junk,st)
def entryOk (w0:World) (M:Mem) (w:World) (v:Value) (x:Bool × AV):Prop:=if x.1=true then R w0 M w v x.2 else v=undef
def LoopOk (w0:World) (M:Mem) (w:World) (la:LoopA) (b:Nat):Prop :=
 match la.keys with
 | none=>∃ r:Loop,w.heap[b]? = some (.loop r)∧r.state=la.st∧r.pending=la.pend∧r.params=la.ps∧r.assign=la.asg∧r.body=la.body∧r.tmps.size=la.n∧∀ s x,look la.e s=some x→entryOk w0 M w (r.tmps.getD s undef) x
 | some ks=>la.e=[]∧∃ es ck,w.heap[b]? = some (.map es ck)∧es.toList.map (·.key)=ks.map Value.string∧(∀ e∈es.toList,e.val = .agg #[])∧ks.Nodup
theorem LoopOk.isLoop {w0:World} {M:Mem} {w:World} {la:LoopA} {b:Nat} {r:Loop} (h:LoopOk w0 M w la b) (hr:w.heap[b]? = some (.loop r)) :
  la.keys=none∧r.state=la.st∧r.pending=la.pend∧r.params=la.ps∧r.assign=la.asg∧r.body=la.body∧r.tmps.size=la.n∧∀ s x,look la.e s=some x→entryOk w0 M w (r.tmps.getD s undef) x:=by
 unfold LoopOk at h
 split at h
 ·rename_i q
  obtain ⟨d,h1,a⟩:=h
  rw [hr] at h1
  cases h1
  exact ⟨q,a⟩
 ·obtain ⟨_,c,f,h1,_⟩:=h
  rw [hr] at h1
  cases h1
theorem LoopOk.loop {w0:World} {M:Mem} {w:World} {la:LoopA} {b:Nat} (h:LoopOk w0 M w la b) (hk:la.keys=none):∃ r:Loop,w.heap[b]? = some (.loop r)∧r.state=la.st∧r.pending=la.pend∧r.params=la.ps∧r.assign=la.asg∧r.body=la.body∧r.tmps.size=la.n∧∀ s x,look la.e s=some x→entryOk w0 M w (r.tmps.getD s undef) x:=by
 unfold LoopOk at h
 rw [hk] at h
 exact h
theorem LoopOk.ofLoop {w0:World} {M:Mem} {w:World} {la:LoopA} {b:Nat} (hk:la.keys=none) (h:∃ r:Loop,w.heap[b]? = some (.loop r)∧r.state=la.st∧r.pending=la.pend∧r.params=la.ps∧r.assign=la.asg∧r.body=la.body∧r.tmps.size=la.n∧∀ s x,look la.e s=some x→entryOk w0 M w (r.tmps.getD s undef) x):LoopOk w0 M w la b:=by
 unfold LoopOk
 rw [hk]
 exact h
theorem LoopOk.obj {w0:World} {M:Mem} {w:World} {la:LoopA} {b:Nat} (h:LoopOk w0 M w la b):∃ o,w.heap[b]? = some o∧o.isCells=false∧∀ d,o ≠ .deferred d:=by
 unfold LoopOk at h
 split at h
 ·obtain ⟨r,a,_⟩:=h;exact ⟨_,a,rfl,fun d q=>by cases q⟩
 ·obtain ⟨_,c,e,a,_⟩:=h;exact ⟨_,a,rfl,fun d q=>by cases q⟩
theorem LoopOk.lt {w0:World} {M:Mem} {w:World} {la:LoopA} {b:Nat} (h:LoopOk w0 M w la b):b<w.heap.size:=by
 obtain ⟨o,q,_⟩:=h.obj
 exact (Array.getElem?_eq_some_iff.1 q).1
theorem LoopOk.nodef {w0:World} {M:Mem} {w:World} {la:LoopA} {b:Nat} {d:Option (List Deferred)} {C:Prop} (h:LoopOk w0 M w la b) (hd:w.heap[b]? = some (.deferred d)):C:=by
 obtain ⟨o,q,_,q2⟩:=h.obj
 rw [hd] at q
 exact absurd (Option.some.inj q).symm (q2 d)
theorem LoopOk.map {w0:World} {M M':Mem} {w w':World} {la:LoopA} {b b':Nat} (h:LoopOk w0 M w la b) (hb:∀ o,w.heap[b]? = some o→o.isCells=false→w'.heap[b']? = some o) (he:∀ s x v,look la.e s=some x→entryOk w0 M w v x→entryOk w0 M' w' v x):LoopOk w0 M' w' la b':=by
 unfold LoopOk at h ⊢
 split at h
 ·obtain ⟨r,a,c,n,m,k,i,l,d⟩:=h
  exact ⟨r,hb _ a rfl,c,n,m,k,i,l,fun s x hs=>he s x _ hs (d s x hs)⟩
 ·obtain ⟨j,g,f,a,c⟩:=h
  exact ⟨j,g,f,hb _ a rfl,c⟩
theorem LoopOk.ent {w0:World} {M:Mem} {w:World} {la:LoopA} {b:Nat} (h:LoopOk w0 M w la b) (s:Nat) (x:Bool × AV) (hs:look la.e s=some x):∃ v,entryOk w0 M w v x:=by
 unfold LoopOk at h
 split at h
 ·obtain ⟨r,_,_,_,_,_,_,_,a⟩:=h;exact ⟨_,a s x hs⟩
 ·obtain ⟨c,_⟩:=h;rw [c] at hs;cases hs
structure LoopSt (w0:World) (M:Mem) (w:World) (ls:Av):Prop where
 NL:M.NL=ls.length
 inj:∀ k k',k<M.NL→k'<M.NL→M.lb k=M.lb k'→k=k'
 record:∀ k la,ls[k]? = some la→w0.heap.size≤M.lb k∧LoopOk w0 M w la (M.lb k)
theorem entryOk.mono {w0:World} {M M':Mem} {w w':World} (hx:Ext w0 M w M' w') {v:Value} {x:Bool × AV} (h:entryOk w0 M w v x):entryOk w0 M' w' v x:=by
 unfold entryOk at *
 split
 ·rename_i c;rw [Ai c] at h;exact h.mono hx
 ·rename_i c;rw [Aj c] at h;exact h
theorem LoopSt.mono {w0:World} {M M':Mem} {w w':World} {ls:List LoopA} (h:LoopSt w0 M w ls) (hx:Ext w0 M w M' w') (hN:M'.NL=M.NL) (hk:KeepsObj w w'):LoopSt w0 M' w' ls where
 NL:=hN.trans h.NL
 inj:=fun k f c d e=>h.inj k f (hN▸c) (hN▸d) (by rw [hx.lb k (hN▸c),hx.lb f (hN▸d)] at e;exact e)
 record:=fun k i a=>by
  have b:k<M.NL:=by rw [h.NL];exact (Ak.1 a).1
  obtain ⟨a1,a2⟩:=h.record k i a
  rw [hx.lb k b]
  exact ⟨a1,a2.map (fun o q1 q2=>hk _ _ q1 q2) fun s x v _ g=>g.mono hx⟩
def RowOk (w0:World) (M:Mem) (w:World) (id:Nat):RowA→Prop
 | .grow n sz=>M.fr id=n∧M.rsz id=sz∧w0.heap.size≤M.blk id∧M.top (M.blk id)=n*sz∧(∀ l,l<M.N→M.bx l≠M.blk id)∧M.cap id≤maxLen∧n≤M.cap id ∧
  ∃ c ty,w.heap[M.blk id]? = some (.cells c ty (0,0))∧c.size=M.cap id*sz
 | .vec ver sz cs=>M.fr id=ver∧M.rsz id=sz∧w0.heap.size≤M.blk id∧M.top (M.blk id)=0∧(∀ l,l<M.N→M.bx l≠M.blk id)∧M.cap id≤maxLen∧0<sz ∧
  ∃ c ty,w.heap[M.blk id]? = some (.cells c ty (0,0))∧c.size=M.cap id*sz∧cs.length≤c.size∧(∀ x∈cs,x.one=true)∧∀ i (h1:i<c.size) (h2:i<cs.length),R w0 M w c[i] cs[i]
 | .dead ver=>M.fr id=ver∧w0.heap.size≤M.blk id∧(∀ l,l<M.N→M.bx l≠M.blk id)∧M.blk id<w.heap.size
theorem RowOk.base {w0:World} {M:Mem} {w:World} {id:Nat} {x:RowA} (h:RowOk w0 M w id x):w0.heap.size≤M.blk id:=by
 cases x with
 | grow n sz=>exact h.2.2.1
 | vec v sz cs=>exact h.2.2.1
 | dead v=>exact h.2.1
theorem RowOk.ne {w0:World} {M:Mem} {w:World} {id:Nat} {x:RowA} (h:RowOk w0 M w id x):∀ l,l<M.N→M.bx l≠M.blk id:=by
 cases x with
 | grow n sz=>exact h.2.2.2.2.1
 | vec v sz cs=>exact h.2.2.2.2.1
 | dead v=>exact h.2.2.1
theorem RowOk.lt {w0:World} {M:Mem} {w:World} {id:Nat} {x:RowA} (h:RowOk w0 M w id x):M.blk id<w.heap.size:=by
 cases x with
 | grow n sz=>obtain ⟨_,_,_,_,_,_,_,c,b,a,_⟩:=h;exact (Array.getElem?_eq_some_iff.1 a).1
 | vec v sz cs=>obtain ⟨_,_,_,_,_,_,_,c,b,a,_⟩:=h;exact (Array.getElem?_eq_some_iff.1 a).1
 | dead v=>exact h.2.2.2
theorem RowOk.keep {w0:World} {M M':Mem} {w w':World} {id:Nat} {x:RowA} (h:RowOk w0 M w id x) (hx:Ext w0 M w M' w') (e1:M'.fr id=M.fr id) (e2:M'.rsz id=M.rsz id) (e3:M'.blk id=M.blk id) (e4:M'.cap id=M.cap id)
  (e5:M'.top (M.blk id)=M.top (M.blk id)) (e6:∀ l,l<M'.N→M'.bx l≠M.blk id) (e7:w'.heap[M.blk id]? = w.heap[M.blk id]?):RowOk w0 M' w' id x:=by
 cases x with
 | grow n sz =>
  obtain ⟨a1,a2,a3,a4,a5,a6,a7,c,d,b,a⟩:=h
  simp only [RowOk,e1,e2,e3,e4,e5,e7]
  exact ⟨a1,a2,a3,a4,e6,a6,a7,c,d,b,a⟩
 | vec v sz cs =>
  obtain ⟨a1,a2,a3,a4,a5,a6,a7,c,d,b,a,g,k,f⟩:=h
  simp only [RowOk,e1,e2,e3,e4,e5,e7]
  exact ⟨a1,a2,a3,a4,e6,a6,a7,c,d,b,a,g,k,fun i e j=>(f i e j).mono hx⟩
 | dead v =>
  obtain ⟨a1,a2,a3,a4⟩:=h
  simp only [RowOk,e1,e3]
  exact ⟨a1,a2,e6,Nat.lt_of_lt_of_le a4 hx.size⟩
structure RelSt (w0:World) (M:Mem) (st:St) (w:World):Prop where
 below:Below w0.heap.size w0 w
 N:M.N=st.boxes.length
 NR:M.NR=st.rows.length
 top:∀ b,w.heap.size≤b→M.top b=0
 inj:∀ l l',l<M.N→l'<M.N→M.bx l=M.bx l'→l=l'
 box:∀ l cs,st.boxes[l]? = some cs→w0.heap.size≤M.bx l∧M.top (M.bx l)=0∧∃ c ty,w.heap[M.bx l]? = some (.cells c ty (0,0))∧c.size=cs.length∧(∀ x∈cs,x.one=true) ∧
  ∀ i (h1:i<c.size) (h2:i<cs.length),R w0 M w c[i] cs[i]
 row:∀ id x,st.rows[id]? = some x→RowOk w0 M w id x
 rowinj:∀ i j,i<M.NR→j<M.NR→M.blk i=M.blk j→i=j
 loop:LoopSt w0 M w st.loops
structure Rel (w0:World) (n:Nat) (M:Mem) (e:Env) (st:St) (a:Act) (w:World):Prop where
 st:RelSt w0 M st w
 size:a.tmps.size=n
 env:∀ s x,look e s=some x→entryOk w0 M w (a.tmps.getD s undef) x
section
variable {P:Program} {w0:World} {n:Nat} {M:Mem} {e:Env} {st:St} {a:Act} {w:World}
theorem L8 {t:TypeId} {s:Nat} {b:Bool} (h:HY P t=some (s,b)):∃ i d,P.info? t=some i∧i.size=s∧P.underlying t=some d∧(match d with | .struct _ | .array _ _=>true | _=>false)=b:=by
 unfold HY at h
 split at h
 ·rename_i i d h1 h2
  simp only [Option.some.injEq,Prod.mk.injEq] at h
  exact ⟨i,d,h1,h.1,h2,h.2⟩
 ·cases h
theorem Bt {t:TypeId} {s:Nat} {b:Bool} (h:HY P t=some (s,b)) (w:World):(sizeOf t).run P w = .ok s w:=by
 obtain ⟨i,d,a,c,_,_⟩:=L8 h
 simp [sizeOf,typeInfo,a,c]
theorem Wi {t:TypeId} {s:Nat} {b:Bool} (h:HY P t=some (s,b)) (w:World):(isAgg t).run P w = .ok b w:=by
 obtain ⟨i,d,_,_,a,h4⟩:=L8 h
 unfold isAgg
 rw [Sem.run_bind,run_underlying a w]
 subst h4
 cases d<;>rfl
theorem XO {t:TypeId} {f o s:Nat} {b:Bool} (h:C0 P t f=some (o,s,b)):∃ fs x,P.underlying t=some (.struct fs)∧fs[f]? = some x∧x.offset=o∧HY P x.type=some (s,b):=by
 unfold C0 at h
 split at h
 ·rename_i fs h1
  split at h
  ·rename_i x h2
   obtain ⟨⟨d,e⟩,c,a⟩:=Option.map_eq_some_iff.1 h
   simp only [Prod.mk.injEq] at a
   obtain ⟨rfl,rfl,rfl⟩:=a
   exact ⟨fs,x,h1,h2,rfl,c⟩
  ·cases h
 ·cases h
theorem Gm {t el:TypeId} {s by8:Nat} {b:Bool} (h:Mc P t=some (el,s,b,by8)):∃ i,P.underlying t=some (.slice el)∧P.info? el=some i∧i.bytes=by8∧HY P el=some (s,b):=by
 unfold Mc at h
 split at h
 ·rename_i e' h1
  split at h
  ·rename_i i s' b' h2 h3
   simp only [Option.some.injEq,Prod.mk.injEq] at h
   obtain ⟨rfl,rfl,rfl,rfl⟩:=h
   exact ⟨i,h1,h2,rfl,h3⟩
  ·cases h
 ·cases h
theorem R2 {t:TypeId} {m s:Nat} {b:Bool} (h:FU P t=some (m,s,b)):∃ el,P.underlying t=some (.array m el)∧HY P el=some (s,b):=by
 unfold FU at h
 split at h
 ·rename_i m' el h1
  obtain ⟨⟨d,e⟩,c,a⟩:=Option.map_eq_some_iff.1 h
  simp only [Prod.mk.injEq] at a
  obtain ⟨rfl,rfl,rfl⟩:=a
  exact ⟨el,h1,c⟩
 ·cases h
theorem FQ {t:TypeId} (h:EK P t=true):P.underlying t=some .string:=by
 unfold EK at h
 split at h
 ·assumption
 ·cases h
theorem R7 {t:TypeId} {k:IntKind} (h:OG P t=some k):P.underlying t=some (.int k):=by
 unfold OG at h
 split at h
 ·rename_i k' h1;cases h;exact h1
 ·cases h
theorem Ut:R w0 M w undef .junk := .tup rfl (fun i a=>absurd a (by simp))
theorem Z8 {v:Value} (h:Qg v=true):R w0 M w v (NW v):=by
 unfold NW
 split
 ·exact .nil (fun id=>by simp)
 ·rename_i hne
  refine .flat ?_
  unfold Qg at h
  split at h
  ·exact absurd rfl hne
  ·exact h
theorem ZbV {v:Value} (h:Qg v=true):(NW v).one=true:=by
 unfold NW
 split<;>rfl
theorem Oc {v:Value} (h:PI v=true):R w0 M w v (Jo v):=by
 cases v with
 | agg cs =>
  have a:∀ x∈cs.toList,Qg x=true:=List.all_eq_true.1 h
  refine .agg (by simp) (fun x c=>?_) (fun i d e=>?_)
  ·obtain ⟨y,b,rfl⟩:=List.mem_map.1 c
   exact ZbV (a y b)
  ·simp only [List.getElem_map,Array.getElem_toList]
   exact Z8 (a _ (by simp))
 | _=>exact Z8 h
theorem A5 (h:Rel w0 n M e st a w) {x:Operand} (ho:AP e true x):R w0 M w (a.eval x) (AC e x):=by
 cases x with
 | tmp t =>
  simp only [AP,AC] at *
  cases hl:look e t with
  | none=>simp [hl] at ho
  | some x =>
   obtain ⟨c,v⟩:=x
   simp only [hl] at ho ⊢
   have:=h.env t _ hl
   unfold entryOk at this
   rw [Ai (by simpa using ho)] at this
   exact this
 | const v=>exact Oc ho
 | func f=>exact .clo rfl (fun i b=>absurd b (by simp))
 | global g=>exact ho.elim
theorem R.val_inv {v u:Value} (h:R w0 M w v (.val u)):v=u∧GN u=true:=by cases h;exact ⟨rfl,‹_›⟩
theorem R.plain {v:Value} {x:AV} (h:R w0 M w v x) (hp:FB x=true):v=Hr x∧GN (Hr x)=true∧x = .val (Hr x):=by
 cases x with
 | val u=>obtain ⟨rfl,a⟩:=h.val_inv;exact ⟨rfl,a,rfl⟩
 | _=>cases hp
theorem R.int {v:Value} {x:AV} (h:R w0 M w v x) (hp:Ee x=true):v = .int (Lq x) (AW x)∧x = .val (.int (Lq x) (AW x)):=by
 cases x with
 | val u =>
  obtain ⟨rfl,a⟩:=h.val_inv
  cases v<;>first | exact ⟨rfl,rfl⟩ | cases hp
 | _=>cases hp
theorem R.bool {v:Value} {x:AV} (h:R w0 M w v x) (hp:Wj x=true):v = .bool (KB x)∧x = .val (.bool (KB x)):=by
 cases x with
 | val u =>
  obtain ⟨rfl,a⟩:=h.val_inv
  cases v<;>first | exact ⟨rfl,rfl⟩ | cases hp
 | _=>cases hp
def Yields' (P:Program) (w0:World) (M:Mem) (st':St) (r:AV) (w:World) (s:Sem Next):Prop :=
 ∃ v w' M',(s.run P w = .ok (.value v) w'∨(s.run P w = .ok .skip w'∧v=undef))∧Ext w0 M w M' w'∧RelSt w0 M' st' w'∧R w0 M' w' v r
theorem MV (hst:RelSt w0 M st w) {s:Sem Next} {v:Value} {r:AV} (hs:s.run P w = .ok (.value v) w) (hr:R w0 M w v r):Yields' P w0 M st r w s :=
 ⟨v,w,M,.inl hs,Ext.refl _ _ _,hst,hr⟩
theorem Nw {k:IntKind} {m:Int} (h:inK k m):k.wrap m=m:=by
 cases k<;>simp only [inK] at h<;>simp only [IntKind.wrap,IntKind.signed,IntKind.bits]<;>simp<;>omega
theorem Qx (x y:ByteArray):(x.toList == y.toList)=Fv x y:=by
 unfold Fv
 rw [Lib.toList_data,Lib.toList_data]
theorem Zav {op:BinOp} {x y:Value} {t:TypeId} {X Y:Operand} (h:(evBin op x y).1) :
  (do eqGuard op t X Y x y;binOp op t x y:Sem Value).run P w = .ok (evBin op x y).2 w:=by
 unfold evBin at h ⊢
 split at h<;>simp only at h ⊢ <;> try exact h.elim
 case h_1 k a k' b=>obtain ⟨rfl,h⟩:=h;simp [eqGuard,binOp,Op.intArith,Nw h]
 case h_2 k a k' b=>obtain ⟨rfl,h⟩:=h;simp [eqGuard,binOp,Op.intArith,Nw h]
 case h_3 k a k' b=>obtain ⟨rfl,h⟩:=h;simp [eqGuard,binOp,Op.intArith,Nw h]
 case h_4 k a k' b =>
  obtain ⟨rfl,c,h⟩:=h
  simp [eqGuard,binOp,Op.intDiv,c,Nw h]
 case h_5 k a k' b =>
  obtain ⟨rfl,c⟩:=h
  simp [eqGuard,binOp,Op.intDiv,c]
 case h_6 k a k' b=>subst h;simp [eqGuard,binOp,Op.intCmp];rfl
 case h_7 k a k' b=>subst h;simp [eqGuard,binOp,Op.intCmp];rfl
 case h_8 k a k' b=>subst h;simp [eqGuard,binOp,Op.intCmp]
 case h_9 k a k' b=>subst h;simp [eqGuard,binOp,Op.intCmp]
 case h_10 k a k' b=>subst h;simp [eqGuard,binOp,Op.intCmp]
 case h_11 k a k' b=>subst h;simp [eqGuard,binOp,Op.intCmp]
 case h_12 x y =>
  have e:¬ (((x.size+y.size:Nat):Int) > IntKind.i64.max):=by simp [IntKind.max,IntKind.signed,IntKind.bits];omega
  simp only [eqGuard,binOp,Op.stringOp,Aj e]
  simp
 case h_13 x y=>simp [eqGuard,binOp,Op.stringOp,Qx]
 case h_14 x y=>simp [eqGuard,binOp,Op.stringOp,Qx]
 case h_15 x y=>simp [eqGuard,binOp,Op.stringOp,Lib.toList_data,sLt]
 case h_16 x y=>simp [eqGuard,binOp,Op.stringOp,Lib.toList_data,sLt,Fv]
 case h_17 x y=>simp [eqGuard,binOp,Op.stringOp,Lib.toList_data,sLt,Fv]
 case h_18 x y=>simp [eqGuard,binOp,Op.stringOp,Lib.toList_data,sLt]
 case h_19 k a k' b =>
  obtain ⟨rfl,h⟩:=h
  have e:Nat.min (Int.toNat 1) k.bits=1:=by cases k<;>rfl
  have d:min (Int.toNat 1) k.bits=1:=by cases k<;>rfl
  simp only [eqGuard,binOp,Op.shift,e,d]
  simp [Int.fdiv_eq_ediv_of_nonneg]
section
theorem YN {d:Nat} {t:TypeId} {u v:Value} (h:L6 P t (.val u) (.val v)):(Op.equalIn (d+1) t u v).run P w = .ok (eqCell (.val u) (.val v)) w:=by
 unfold L6 at h
 split at h
 ·rename_i k a k' b e1 e2
  cases e1;cases e2
  obtain ⟨h1,rfl⟩:=h
  unfold OG at h1
  split at h1
  ·rename_i k1 hk
   rw [run_equalIn_int w d t _ k1 a b hk];rfl
  ·cases h1
 ·rename_i a b e1 e2
  cases e1;cases e2
  unfold EK at h
  split at h
  ·rename_i hk
   rw [run_equalIn_string w d t a b hk,Qx];rfl
  ·cases h
 ·rename_i a b e1 e2
  cases e1;cases e2
  unfold Nn at h
  split at h
  ·rename_i hk
   rw [run_equalIn_bool' w d t a b hk];rfl
  ·cases h
 ·exact h.elim
theorem Y5 {t:TypeId} {x y:AV} (h:L6 P t x y):∃ u v,x = .val u∧y = .val v:=by
 unfold L6 at h
 split at h
 ·exact ⟨_,_,rfl,rfl⟩
 ·exact ⟨_,_,rfl,rfl⟩
 ·exact ⟨_,_,rfl,rfl⟩
 ·exact h.elim
theorem Zv {t:TypeId} (ht:HY P t=some (1,false)) {cs:Array Value} {i:Nat} {v:Value} (h:cs[i]? = some v):(part t cs i).run P w = .ok v w:=by
 obtain ⟨c,d,e,f,b,h4⟩:=L8 ht
 have a:(isAgg t).run P w = .ok false w:=by
  simp only [isAgg,Sem.run_bind,run_underlying b,Result.andThen_ok]
  cases d<;>first | (cases h4;done) | rfl | (cases h4;rfl)
 simp [part,a,h]
theorem LG (d:Nat) {cs ds:Array Value}:∀ (fs:List Field) (i:Nat) (xs ys:List AV),XY P fs i xs ys→(∀ j v,xs[j]? = some (.val v)→cs[i+j]? = some v)→(∀ j v,ys[j]? = some (.val v)→ds[i+j]? = some v) →
  (Op.eqFields (d+1) cs ds fs).run P w = .ok (Oo xs ys) w
 | [],_,[],[],_,_,_=>by simp [Op.eqFields,Oo]
 | f::fs,i,x::xs,y::ys,h,hx,hy=>by
  obtain ⟨k,rfl,g,e,l⟩:=h
  obtain ⟨u,v,rfl,rfl⟩:=Y5 e
  have c:=Zv (w:=w) g (hx 0 u rfl)
  have b:=Zv (w:=w) g (hy 0 v rfl)
  simp only [Nat.add_zero] at c b
  have ih:=LG d fs _ xs ys l (fun j v a=>by rw [Nat.add_assoc,Nat.add_comm 1 j];exact hx (j+1) v a) (fun j v a=>by rw [Nat.add_assoc,Nat.add_comm 1 j];exact hy (j+1) v a)
  simp only [Op.eqFields,Ai k,Sem.run_bind,c,b,Result.andThen_ok,YN e,Oo]
  cases hc:eqCell (.val u) (.val v)
  ·simp
  ·simp [ih]
 | [],_,[],_::_,h,_,_=>h.elim
 | [],_,_::_,_,h,_,_=>h.elim
 | _::_,_,[],_,h,_,_=>h.elim
 | _::_,_,_::_,[],h,_,_=>h.elim
theorem ZcR {op:BinOp} {t:TypeId} {cs ds:Array Value} {xs ys:List AV} {X Y:Operand} (h:(Oq P op t xs ys).1) (hx:∀ (j:Nat) (v:Value),xs[j]? = some (.val v)→cs[j]? = some v) (hy:∀ (j:Nat) (v:Value),ys[j]? = some (.val v)→ds[j]? = some v) :
  (do eqGuard op t X Y (.agg cs) (.agg ds);binOp op t (.agg cs) (.agg ds):Sem Value).run P w = .ok (.bool (Oq P op t xs ys).2) w:=by
 unfold Oq at h ⊢
 unfold eqT at h ⊢
 cases hu:P.underlying t with
 | none=>rw [hu] at h;exact h.elim
 | some d =>
  cases d<;>(try (rw [hu] at h;exact h.elim))
  rename_i fs
  rw [hu] at h
  simp only at h ⊢
  by_cases hc:P.stoodInHeld t=false∧P.eqGuardType P.depth t=false
  ·rw [Ai hc] at h ⊢
   have c:P.fieldsOf t=fs:=by unfold Program.fieldsOf;rw [hu]
   have b:P.underlying t=some (.struct (P.fieldsOf t)):=by rw [c];exact hu
   cases op<;>simp only at h ⊢ <;> (try exact h.elim)
   ·have:=LG (P:=P) (w:=w) 9998 fs.toList 0 xs ys h (fun j v a=>by rw [Nat.zero_add];exact hx j v a) (fun j v a=>by rw [Nat.zero_add];exact hy j v a)
    simp only [Sem.run_bind,run_eqGuard_agg w _ t X Y cs ds hc.2,Result.andThen_ok,run_eql_struct,run_equalIn_agg w 9999 t cs ds b hc.1,c,this]
   ·have:=LG (P:=P) (w:=w) 9998 fs.toList 0 xs ys h (fun j v a=>by rw [Nat.zero_add];exact hx j v a) (fun j v a=>by rw [Nat.zero_add];exact hy j v a)
    simp only [Sem.run_bind,run_eqGuard_agg w _ t X Y cs ds hc.2,Result.andThen_ok,run_neq_struct,run_equalIn_agg w 9999 t cs ds b hc.1,c,this]
  ·rw [Aj hc] at h;exact h.elim
end
theorem R.aggC {w0:World} {M:Mem} {w:World} {v:Value} {x:AV} (h:R w0 M w v x) (hx:Gk x=true):∃ cs,v = .agg cs∧∀ (j:Nat) (u:Value),(NC x)[j]? = some (.val u)→cs[j]? = some u:=by
 cases h with
 | @agg cs xs hl h1 h =>
  refine ⟨cs,rfl,fun j u e=>?_⟩
  replace e:xs[j]? = some (.val u):=e
  obtain ⟨a,d⟩:=Ak.1 e
  have hr:=h j (by omega) a
  have b:xs[j]'a = .val u:=d
  rw [b] at hr
  have c:j<cs.size:=by omega
  rw [Array.getElem?_eq_getElem c]
  generalize cs[j]=q at hr
  cases hr
  rfl
 | _=>cases hx
theorem ZaU {op:BinOp} {x y:Value} (h:(evBin op x y).1):GN (evBin op x y).2=true:=by
 unfold evBin at h ⊢
 split at h<;>simp only at h ⊢ <;> try first | exact h.elim | rfl
 rename_i x y
 have e:(x++y).size=x.size+y.size:=ByteArray.size_append
 simp only [GN,maxLen,e]
 simp
 omega
theorem ZbC {op:UnOp} {x:Value} (h:(evUn op x).1):(Op.unary op x).run P w = .ok (evUn op x).2 w:=by
 unfold evUn at h ⊢
 split at h<;>simp only at h ⊢ <;> try exact h.elim
 ·simp [Op.unary]
 ·have e:=Nw h
  simp only [Op.unary,Op.intArith,e]
  rfl
theorem ZdB {op:UnOp} {x:Value} (h:(evUn op x).1):GN (evUn op x).2=true:=by
 unfold evUn at h ⊢
 split at h<;>simp only at h ⊢ <;> first | exact h.elim | rfl
theorem E0 (b o j:Nat):(⟨b,o,none⟩:Addr).add j=⟨b,o+j,none⟩:=by
 unfold Addr.add
 split
 ·subst j;rfl
 ·rfl
theorem DO {rows:List RowA} {id ver sz:Nat} {cs:List AV} (h:C4 rows id ver=some (sz,cs)):rows[id]? = some (.vec ver sz cs):=by
 unfold C4 at h
 split at h
 ·rename_i v s c he
  split at h
  ·rename_i hv;cases h;rw [he,hv]
  ·cases h
 ·cases h
theorem RY {rows:List RowA} {id ver:Nat} (h:(C4 rows id ver).isSome=true):∃ sz cs,C4 rows id ver=some (sz,cs):=by
 obtain ⟨⟨a,b⟩,h⟩:=Option.isSome_iff_exists.1 h
 exact ⟨a,b,h⟩
theorem Z5 (hst:RelSt w0 M st w) {v:Value} {x:AV} (h:R w0 M w v x) (hr:DW st x=true) :
  ∃ b o,v = .pointer (some ⟨b,o+EF x,none⟩)∧(∀ c∈Bi st x,c.one=true)∧∀ j (hj:j<(Bi st x).length),∃ u,w.cell? ⟨b,o+j,none⟩=some u∧R w0 M w u (Bi st x)[j]:=by
 cases x with
 | box l off =>
  cases h with
  | box hl =>
   have i:l<st.boxes.length:=by simpa [DW] using hr
   obtain ⟨cs,d⟩:∃ cs,st.boxes[l]? = some cs:=⟨_,List.getElem?_eq_getElem i⟩
   obtain ⟨_,_,c,n,z,q,t,g⟩:=hst.box l cs d
   have e:Bi st (.box l off)=cs:=by simp [Bi,List.getD,d]
   refine ⟨M.bx l,0,by simp [EF],by rw [e];exact t,fun j hj=>?_⟩
   simp only [e] at hj ⊢
   refine ⟨c[j]'(by omega),?_,g j (by omega) hj⟩
   rw [Nat.zero_add,cell_of_row w _ j c n _ z]
   exact Array.getElem?_eq_getElem (by omega)
 | elem y k =>
  cases h with
  | @elem b off x u k hcell hu =>
   obtain ⟨hs,g⟩:=hu.cells
   refine ⟨b,off,rfl,?_,fun j hj=>?_⟩
   ·refine hu.cellsOne (fun vs hv=>?_)
    subst hv
    simp [DW] at hr
   ·have f:j<u.cells.size:=by rw [hs];exact hj
    refine ⟨u.cells[j],?_,g j f hj⟩
    rw [(hcell j f).2]
    exact Array.getElem?_eq_getElem f
 | vel id ver off =>
  cases h with
  | @vel _ _ _ a hi hv hh =>
   obtain ⟨sz,cs,d⟩:=RY (show (C4 st.rows id ver).isSome=true from hr)
   obtain ⟨s,J,E,H,F,D,G,c,n,r,K,C,p,m⟩:=hst.row id _ (DO d)
   have e:Bi st (.vel id ver off)=cs:=by simp [Bi,d]
   refine ⟨M.blk id,0,by rw [hh s.symm];simp [EF],by rw [e];exact p,fun j hj=>?_⟩
   simp only [e] at hj ⊢
   refine ⟨c[j]'(by omega),?_,m j (by omega) hj⟩
   rw [Nat.zero_add,cell_of_row w _ j c n _ r]
   exact Array.getElem?_eq_getElem (by omega)
 | _=>cases hr
theorem Yields'.value {s:Sem Value} {st':St} {r:AV} (h:∃ v w' M',s.run P w = .ok v w'∧Ext w0 M w M' w'∧RelSt w0 M' st' w'∧R w0 M' w' v r) :
  Yields' P w0 M st' r w (do pure (.value (← s))):=by
 obtain ⟨v,w',M',hs,a,b,c⟩:=h
 exact ⟨v,w',M',.inl (by simp [hs]),a,b,c⟩
theorem Yields'.here (hst:RelSt w0 M st w) {s:Sem Value} {v:Value} {r:AV} (hs:s.run P w = .ok v w) (hr:R w0 M w v r) :
  Yields' P w0 M st r w (do pure (.value (← s))) := .value ⟨v,w,M,hs,Ext.refl _ _ _,hst,hr⟩
theorem Zbt {t:TypeId} (h:Nn P t=true):P.underlying t=some .bool:=by
 unfold Nn at h
 split at h
 ·assumption
 ·cases h
theorem Zfw {op:BinOp} {a b:Bool} {t:TypeId} {X Y:Operand} (ht:Nn P t=true) (h:(evBB op a b).1):(do eqGuard op t X Y (.bool a) (.bool b);binOp op t (.bool a) (.bool b):Sem Value).run P w = .ok (.bool (evBB op a b).2) w:=by
 have c:=Zbt ht
 cases op<;>try exact h.elim
 ·simp [eqGuard,binOp,run_equal_bool w t a b c,evBB]
 ·simp [eqGuard,binOp,run_equal_bool w t a b c,evBB];cases a<;>cases b<;>rfl
theorem TZ (d:Nat) (t:TypeId) (v:Value) {ms:Array (String × TypeId)} (hu:P.underlying t=some (.interface ms)) (hv:Q8 v=true):(Op.equalIn (d+1) t v .nilIface).run P w = .ok (GX v) w:=by
 cases v<;>first | cases hv | skip
 all_goals simp [Op.equalIn,run_underlying hu,GX]
theorem Zdx {op:BinOp} {v:Value} {t:TypeId} {X Y:Operand} (ht:YW P t=true) (hy:UD Y=true) (h:(VV op v).1):(do eqGuard op t X Y v .nilIface;binOp op t v .nilIface:Sem Value).run P w = .ok (.bool (VV op v).2) w:=by
 obtain ⟨ms,hu⟩:∃ ms,P.underlying t=some (.interface ms):=by
  unfold YW at ht
  split at ht
  ·exact ⟨_,‹_›⟩
  ·cases ht
 have b:∃ c,Y = .const c:=by
  cases Y<;>first | exact ⟨_,rfl⟩ | cases hy
 obtain ⟨c,rfl⟩:=b
 have a:∀ v,Q8 v=true→(eqGuard op t X (.const c) v .nilIface).run P w = .ok () w∧(Op.equal t v .nilIface).run P w = .ok (GX v) w:=by
  intro v hv
  cases v<;>first | cases hv | skip
  all_goals
   refine ⟨?_,TZ 9999 t _ hu rfl⟩
   cases op<;>cases X<;>simp [eqGuard]
 cases op<;>first | exact h.elim | skip
 all_goals
  obtain ⟨e,d⟩:=a v h
  simp only [Sem.run_bind,e,Result.andThen_ok]
  cases v<;>first | cases h | skip
  all_goals simp [binOp,d,VV]
theorem Zes (h:Rel w0 n M e st a w) (op:BinOp) (t:TypeId) (x y:Operand) (u:TypeId) (hob:(A4 P e true st (.binOp op t x y u)).1) :
  Yields' P w0 M (A4 P e true st (.binOp op t x y u)).2.2 (A4 P e true st (.binOp op t x y u)).2.1 w (do pure (.value (← (do eqGuard op t x y (a.eval x) (a.eval y);binOp op t (a.eval x) (a.eval y))))):=by
 simp only [A4] at hob ⊢
 by_cases hc:(Wj (AC e x)&&Wj (AC e y))=true
 ·rw [Ai hc] at hob ⊢
  simp only [Bool.and_eq_true] at hc
  obtain ⟨d,g,i,b⟩:=hob
  obtain ⟨c,_⟩:=(A5 h d).bool hc.1
  obtain ⟨f,_⟩:=(A5 h g).bool hc.2
  rw [c,f]
  exact .here h.st (Zfw i b) (.flat rfl)
 ·rw [Aj hc] at hob ⊢
  by_cases hg:(Gk (AC e x)&&Gk (AC e y))=true
  ·rw [Ai hg] at hob ⊢
   simp only [Bool.and_eq_true] at hg
   obtain ⟨d,g,b⟩:=hob
   obtain ⟨cs,c,j⟩:=(A5 h d).aggC hg.1
   obtain ⟨m,f,k⟩:=(A5 h g).aggC hg.2
   rw [c,f]
   exact .here h.st (ZcR b j k) (.flat rfl)
  rw [Aj hg] at hob ⊢
  by_cases hn:UD y=true
  ·rw [Ai hn] at hob ⊢
   obtain ⟨d,px,i,b⟩:=hob
   obtain ⟨c,_,_⟩:=(A5 h d).plain px
   have f:a.eval y = .nilIface:=by
    cases y with
    | const v=>cases v<;>first | rfl | cases hn
    | _=>cases hn
   rw [c,f]
   exact .here h.st (Zdx i hn b) (.flat rfl)
  rw [Aj hn] at hob ⊢
  obtain ⟨d,g,px,l,b⟩:=hob
  obtain ⟨c,_,_⟩:=(A5 h d).plain px
  obtain ⟨f,_,_⟩:=(A5 h g).plain l
  rw [c,f]
  exact .here h.st (Zav b) (.flat (ZaU b))
theorem Zhf (h:Rel w0 n M e st a w) (op:UnOp) (t:TypeId) (x:Operand) (hob:(A4 P e true st (.unOp op t x)).1) :
  Yields' P w0 M st (.val (evUn op (Hr (AC e x))).2) w (do pure (.value (← Op.unary op (a.eval x)))):=by
 obtain ⟨c,px,b⟩:=hob
 obtain ⟨d,_,_⟩:=(A5 h c).plain px
 rw [d]
 exact .here h.st (ZbC b) (.flat (ZdB b))
theorem Zlk {t:Bool} {u v:Value} {x y:AV} (hx:t=true→R w0 M w u x) (hy:t=false→R w0 M w v y):R w0 M w (if t then u else v) (AV.sel t x y):=by
 have b:AV.sel false x y=y:=by unfold AV.sel;split<;>rfl
 have a:AV.sel true x y=x:=by unfold AV.sel;split<;>rfl
 cases t
 ·rw [b];exact hy rfl
 ·rw [a];exact hx rfl
theorem Zhl (h:Rel w0 n M e st a w) (b x y:Operand) (hob:(A4 P e true st (.pick b x y)).1) :
  Yields' P w0 M st (AV.sel (KB (AC e b)) (AC e x) (AC e y)) w (do pure (.value (if ← asBool (a.eval b) then a.eval x else a.eval y))):=by
 obtain ⟨f,c,g,d⟩:=hob
 obtain ⟨i,_⟩:=(A5 h f).bool c
 refine MV h.st (v:=if KB (AC e b) then a.eval x else a.eval y) ?_ (Zlk (fun q=>A5 h (g rfl q)) (fun q=>A5 h (d rfl q)))
 rw [i]
 simp [asBool]
theorem N1 {t:TypeId} {sz:Nat} {ag:Bool} (ht:HY P t=some (sz,ag)) {b o:Nat} {f:Nat→Value} (hc:∀ j,j<sz→w.cell? ⟨b,o+j,none⟩=some (f j)) (h1:ag=true∨sz=1) :
  (loadVar t ⟨b,o,none⟩).run P w = .ok (if ag then .agg ((List.range sz).map f).toArray else f 0) w:=by
 unfold loadVar
 rw [Sem.run_bind,Wi ht]
 cases ag with
 | true =>
  simp only [Result.andThen_ok,if_true,Sem.run_bind,Bt ht,run_loadCells w ⟨b,o,none⟩ sz f (fun j a=>by rw [E0];exact hc j a)]
  rfl
 | false =>
  have:sz=1:=by simpa using h1
  subst this
  have:=hc 0 (by omega)
  simp only [Nat.add_zero] at this
  simp [this]
theorem Q9 {cs:List AV} {f:Nat→Value} {o sz:Nat} {ag:Bool} (h1:∀ c∈cs,c.one=true) (ho:o+sz≤cs.length) (hs:ag=true∨sz=1)
  (hR:∀ j (hj:o+j<cs.length),R w0 M w (f j) cs[o+j]):R w0 M w (if ag then .agg ((List.range sz).map f).toArray else f 0) (P1 ag cs o sz):=by
 unfold P1
 cases ag with
 | true =>
  simp only [if_true]
  refine .agg (by simp;omega) (fun x a=>h1 x (List.mem_of_mem_drop (List.mem_of_mem_take a))) (fun i a1 a2=>?_)
  simp only [List.getElem_take,List.getElem_drop,List.getElem_toArray,List.getElem_map,List.getElem_range]
  exact hR i (by simp at a1;omega)
 | false =>
  have:sz=1:=by simpa using hs
  subst this
  have:=hR 0 (by omega)
  simp only [Nat.add_zero] at this
  simpa [nth,List.getD,List.getElem?_eq_getElem (show o<cs.length by omega)] using this
theorem ZhR (h:Rel w0 n M e st a w) (t:TypeId) (x:Operand) (hob:(A4 P e true st (.load t x)).1) :
  Yields' P w0 M st (A4 P e true st (.load t x)).2.1 w (do pure (.value (← Instr.loadAt t (a.eval x)))):=by
 unfold A4 at hob ⊢
 cases ht:HY P t with
 | none=>simp [ht] at hob
 | some p =>
  obtain ⟨sz,y⟩:=p
  simp only [ht] at hob ⊢
  obtain ⟨r,s,l,q⟩:=hob
  obtain ⟨b,o,ev,i,m⟩:=Z5 h.st (A5 h r) s
  rw [ev]
  have d:∀ j,j<sz→∃ u,w.cell? ⟨b,o+EF (AC e x)+j,none⟩=some u∧∀ c,R w0 M w u ((Bi st (AC e x))[EF (AC e x)+j]'c):=by
   intro j c
   obtain ⟨u,z,D⟩:=m (EF (AC e x)+j) (by omega)
   exact ⟨u,by rw [←z,Nat.add_assoc],fun _=>D⟩
  let f:Nat→Value:=fun j=>((w.cell? ⟨b,o+EF (AC e x)+j,none⟩).getD undef)
  have C:∀ j,j<sz→w.cell? ⟨b,o+EF (AC e x)+j,none⟩=some (f j):=fun j c=>by
   obtain ⟨u,g,_⟩:=d j c
   simp [f,g]
  refine .here h.st (v:=if y then .agg ((List.range sz).map f).toArray else f 0) ?_ (Q9 i l q (fun j c=>?_))
  ·simp only [Instr.loadAt,Instr.sureAddr,Sem.run_bind,Sem.run_pure,Result.andThen_ok]
   exact N1 ht C q
  ·by_cases hjs:j<sz
   ·obtain ⟨u,g,k⟩:=d j hjs
    have:f j=u:=by simp [f,g]
    rw [this]
    exact k c
   ·obtain ⟨u,g,k⟩:=m (EF (AC e x)+j) c
    have:f j=u:=by simp [f,Nat.add_assoc,g]
    rw [this]
    exact k
theorem SI (hst:RelSt w0 M st w) {v:Value} {x:AV} (h:R w0 M w v x) (hr:DW st x=true):∃ b o,v = .pointer (some ⟨b,o,none⟩)∧∀ k,R w0 M w (.pointer (some ⟨b,o+k,none⟩)) (RJ x k):=by
 cases x with
 | box l off=>cases h with | box hl=>exact ⟨_,_,rfl,fun k => .box hl⟩
 | elem y k =>
  cases h with
  | @elem b off x u k hcell hu=>exact ⟨_,_,rfl,fun f=>by rw [Nat.add_assoc];exact .elem u (k+f) hcell hu⟩
 | vel id ver off =>
  cases h with
  | @vel _ _ _ a hi hv hh =>
   obtain ⟨sz,cs,c⟩:=RY (show (C4 st.rows id ver).isSome=true from hr)
   have e:=(hst.row id _ (DO c)).1
   have d:=hh e.symm
   exact ⟨M.blk id,off,by rw [d],fun k => .vel hi hv fun _=>rfl⟩
 | _=>cases hr
theorem Zah (h:Rel w0 n M e st a w) (o:Oper) (x:Operand) (ho:o.op = .nilCheck x) (hob:(A4 P e true st (.nilCheck x)).1) :
  Yields' P w0 M st (AC e x) w (execOp a.eval o):=by
 obtain ⟨c,d⟩:=hob
 obtain ⟨b,o',ev,_⟩:=SI h.st (A5 h c) d
 refine MV h.st (v:=a.eval x) ?_ (A5 h c)
 simp only [execOp,ho,ev]
 rfl
theorem ZO (h:Rel w0 n M e st a w) (f:FuncId) (fi cap:Array Operand) (hob:(A4 P e true st (.makeFunc (.func f) fi cap)).1) :
  Yields' P w0 M st (.clo f (cap.toList.map (AC e))) w (do pure (.value (← Instr.makeFunc (.func f) (fi.map a.eval) (cap.map a.eval)))):=by
 obtain ⟨c,b⟩:=hob
 refine .here h.st (v := .func (.func f) (fi.map a.eval) (cap.map a.eval)) rfl ?_
 have:fi.map a.eval = #[]:=by simp [Array.size_eq_zero_iff.1 c]
 rw [this]
 refine .clo (by simp) (fun i d g=>?_)
 simp only [Array.getElem_map,List.getElem_map,Array.getElem_toList]
 exact A5 h (b _ (by simp))
theorem Y6 (h:Rel w0 n M e st a w) (t:TypeId) (x:Operand) (f:Nat) (hob:(A4 P e true st (.fieldAddr t x f)).1) :
  Yields' P w0 M (A4 P e true st (.fieldAddr t x f)).2.2 (A4 P e true st (.fieldAddr t x f)).2.1 w (do pure (.value (← Instr.fieldAt t (a.eval x) f))):=by
 unfold A4 at hob ⊢
 cases hf:C0 P t f with
 | none=>simp [hf] at hob
 | some p =>
  obtain ⟨o,sz,r⟩:=p
  simp only [hf] at hob ⊢
  obtain ⟨g,i,q⟩:=hob
  obtain ⟨s,y,d,k,m,l⟩:=XO hf
  obtain ⟨b,o',ev,j⟩:=SI h.st (A5 h g) i
  refine .here h.st (v := .pointer (some ⟨b,o'+o,none⟩)) ?_ (j o)
  rw [ev]
  have c:¬ sz=0:=by omega
  simp [Instr.fieldAt,run_underlying d,k,Instr.sureAddr,fieldPlace,m,E0,Bt l,c]
theorem Xy {t:TypeId} {sz:Nat} {ag:Bool} (ht:HY P t=some (sz,ag)) {cs:Array Value} {o:Nat} (ho:o+sz≤cs.size) (h1:ag=true∨sz=1) :
  (part t cs o).run P w = .ok (if ag then .agg ((List.range sz).map fun j=>cs.getD (o+j) undef).toArray else cs.getD o undef) w:=by
 unfold part
 rw [Sem.run_bind,Wi ht]
 cases ag with
 | true =>
  simp only [Result.andThen_ok,if_true,Sem.run_bind,Bt ht,Sem.run_pure]
  congr 2
  apply Array.ext
  ·simp;omega
  ·intro i h1 b
   simp at h1 b
   simp [show o+i<cs.size by omega]
 | false =>
  have:sz=1:=by simpa using h1
  subst this
  have a:o<cs.size:=by omega
  simp [a]
theorem R.agg_inv {v:Value} {x:AV} (h:R w0 M w v x) (ha:Gk x=true):∃ cs,v = .agg cs∧cs.size=x.cells.length∧(∀ y∈x.cells,y.one=true)∧∀ j (hj:j<x.cells.length),R w0 M w (cs.getD j undef) x.cells[j]:=by
 cases x with
 | agg xs =>
  cases h with
  | agg hl h1 hR =>
   rename_i cs
   refine ⟨cs,rfl,hl,h1,fun j hj=>?_⟩
   have a:j<cs.size:=by rw [hl];exact hj
   have e:cs.getD j undef=cs[j]:=by simp [a]
   rw [e]
   exact hR j a hj
 | _=>cases ha
theorem ZfP (h:Rel w0 n M e st a w) (t:TypeId) (x:Operand) (f:Nat) (hob:(A4 P e true st (.field t x f)).1) :
  Yields' P w0 M (A4 P e true st (.field t x f)).2.2 (A4 P e true st (.field t x f)).2.1 w (do pure (.value (← Instr.field t (a.eval x) f))):=by
 unfold A4 at hob ⊢
 cases hf:C0 P t f with
 | none=>simp [hf] at hob
 | some p =>
  obtain ⟨o,sz,m⟩:=p
  simp only [hf] at hob ⊢
  obtain ⟨i,k,c,hs⟩:=hob
  obtain ⟨u,y,d,q,h3,r⟩:=XO hf
  obtain ⟨cs,ev,s,b,g⟩:=(A5 h i).agg_inv k
  rw [ev]
  refine .here h.st (v:=if m then .agg ((List.range sz).map fun j=>cs.getD (o+j) undef).toArray else cs.getD o undef) ?_ (Q9 (f:=fun j=>cs.getD (o+j) undef) b c hs (fun j l=>g _ l))
  subst h3
  simp [Instr.field,run_underlying d,q,asAgg,Xy (w:=w) r (cs:=cs) (o:=y.offset) (by omega) hs]
theorem R.list_inv {v:Value} {x:AV} (h:R w0 M w v x) (hl:BD x=true) :
  (∃ a cap,v = .slice a (A0 x).length cap∧(a=none→A0 x=[]∧cap=0)∧(A0 x).length≤cap∧cap≤maxLen):=by
 cases x with
 | list xs o =>
  cases h with
  | nil ho=>exact ⟨none,0,rfl,fun _=>⟨rfl,rfl⟩,Nat.zero_le _,by simp [maxLen]⟩
  | emp ho=>exact ⟨_,0,rfl,fun e=>(by cases e),Nat.zero_le _,by simp [maxLen]⟩
  | list sz us hc hm hcell hu ho=>exact ⟨_,_,rfl,fun e=>(by cases e),hc,hm⟩
 | _=>cases hl
theorem R.list_elem {v:Value} {xs:List AV} {o:Own} (h:R w0 M w v (.list xs o)) {i:Nat} (hi:i<xs.length) {sz:Nat} (hsz:xs[i].cells.length=sz) :
  ∃ b off cap,v = .slice (some ⟨b,off,none⟩) xs.length cap∧R w0 M w (.pointer (some ⟨b,off+i*sz,none⟩)) (.elem xs[i] 0):=by
 cases h with
 | nil ho=>exact absurd hi (by simp)
 | emp ho=>exact absurd hi (by simp)
 | @list b off cap _ _ sz' us hc hm hcell hu ho =>
  obtain ⟨a,c⟩:=hcell i hi
  have e:sz'=sz:=by rw [←a,(hu i hi).cells.1,hsz]
  subst e
  exact ⟨b,off,cap,rfl,.elem (us i) 0 (fun j d=>c j (by omega)) (hu i hi)⟩
theorem IE {x:AV} (h:BD x=true):∃ xs o,x = .list xs o:=by
 cases x with
 | list xs o=>exact ⟨xs,o,rfl⟩
 | _=>cases h
theorem Zeb {l:List AV} {i:Nat} (h:i<l.length):nth l i=l[i]:=by simp [nth,List.getD,List.getElem?_eq_getElem h]
theorem Yi (h:Rel w0 n M e st a w) (t:TypeId) (x i:Operand) (hob:(A4 P e true st (.indexAddr t x i)).1) :
  Yields' P w0 M (A4 P e true st (.indexAddr t x i)).2.2 (A4 P e true st (.indexAddr t x i)).2.1 w (do pure (.value (← Instr.indexAt t (a.eval x) (a.eval i)))):=by
 unfold A4 Vu at hob ⊢
 cases he:Mc P t with
 | some p =>
  obtain ⟨H,sz,J,Q⟩:=p
  simp only [he] at hob ⊢
  split at hob
  ·rename_i id ver o n' hx0
   cases hvr:C4 st.rows id ver with
   | none=>simp [hvr] at hob
   | some p =>
    obtain ⟨D,cs⟩:=p
    simp only [hvr] at hob ⊢
    obtain ⟨l,r,d,y,z,rfl⟩:=hob
    obtain ⟨u,j,_,_,f⟩:=Gm he
    obtain ⟨s,_⟩:=(A5 h r).int d
    have hR:=A5 h l
    rw [hx0] at hR
    generalize AW (AC e i)=m at *
    obtain ⟨k,rfl⟩:=Int.eq_ofNat_of_zero_le y
    have g:k<n':=by omega
    generalize hev:a.eval x=v at hR
    cases hR with
    | @vec _ _ _ _ p C hid hv hh =>
     obtain ⟨N,U,_⟩:=h.st.row id _ (DO hvr)
     obtain ⟨rfl,G,K⟩:=hh N.symm
     refine .here h.st (v := .pointer (some ⟨M.blk id,o*M.rsz id+k*D,none⟩)) ?_ ?_
     ·rw [s]
      simp [Instr.indexAt,asIntOf,run_underlying j,Bt f,E0]
      omega
     ·refine .vel hid hv fun _=>?_
      rw [U,Int.toNat_natCast,Nat.add_mul]
  rename_i hx0
  obtain ⟨l,r,V,d,y,z,c⟩:=hob
  obtain ⟨u,j,_,_,f⟩:=Gm he
  obtain ⟨s,_⟩:=(A5 h r).int d
  have hR:=A5 h l
  obtain ⟨xs,o,E⟩:=IE V
  rw [E] at hR z c ⊢
  simp only [A0] at z c ⊢
  generalize AW (AC e i)=m at *
  obtain ⟨k,rfl⟩:=Int.eq_ofNat_of_zero_le y
  have g:k<xs.length:=by omega
  simp only [Int.toNat_natCast] at c ⊢
  rw [Zeb g] at c ⊢
  obtain ⟨b,F,C,ev,Y⟩:=hR.list_elem g c
  refine .here h.st (v := .pointer (some ⟨b,F+k*sz,none⟩)) ?_ Y
  rw [ev,s]
  simp [Instr.indexAt,asIntOf,run_underlying j,Bt f,E0]
  omega
 | none =>
  simp only [he] at hob ⊢
  cases ha:FU P t with
  | none=>simp [ha] at hob
  | some p =>
   obtain ⟨m,sz,J⟩:=p
   simp only [ha] at hob ⊢
   obtain ⟨l,r,O,d,y,z⟩:=hob
   obtain ⟨H,j,f⟩:=R2 ha
   obtain ⟨s,_⟩:=(A5 h r).int d
   obtain ⟨b,o',ev,g⟩:=SI h.st (A5 h l) O
   generalize AW (AC e i)=q at *
   obtain ⟨k,rfl⟩:=Int.eq_ofNat_of_zero_le y
   have Z:k<m:=by omega
   refine .here h.st (v := .pointer (some ⟨b,o'+k*sz,none⟩)) ?_ (by simpa using g (k*sz))
   rw [ev,s]
   simp [Instr.indexAt,asIntOf,run_underlying j,Bt f,Instr.sureAddr,E0]
   omega
theorem getElem?_get! (s:ByteArray) (k:Nat) (hk:k<s.size):s[k]? = some (s.get! k):=by
 rw [getElem?_pos s k hk]
 congr 1
 simp only [ByteArray.get!]
 have:k<s.data.size:=hk
 rw [getElem!_pos s.data k this]
 rfl
theorem ZeU (h:Rel w0 n M e st a w) (t:TypeId) (x i:Operand) (hob:(A4 P e true st (.index t x i)).1) :
  Yields' P w0 M (A4 P e true st (.index t x i)).2.2 (A4 P e true st (.index t x i)).2.1 w (do pure (.value (← Instr.index t (a.eval x) (a.eval i)))):=by
 unfold A4 Vu at hob ⊢
 simp only at hob ⊢
 split at hob
 ·rename_i s hx0
  obtain ⟨hs,z,C,d,E,H⟩:=hob
  obtain ⟨D,_⟩:=(A5 h C).int d
  have g:=A5 h z
  rw [hx0] at g
  obtain ⟨ev,_⟩:=g.val_inv
  generalize AW (AC e i)=q at *
  obtain ⟨k,rfl⟩:=Int.eq_ofNat_of_zero_le E
  have y:k<s.size:=by omega
  refine .here h.st (v := .int .u8 (s.get! k).toNat) ?_ (.flat rfl)
  rw [ev,D]
  have J:s[k]? = some (s.get! k):=getElem?_get! s k y
  simp [Instr.index,asIntOf,run_underlying (FQ hs),J]
 ·rename_i cs hx0
  cases ha:FU P t with
  | none=>simp [ha] at hob
  | some p =>
   obtain ⟨m,sz,G⟩:=p
   simp only [ha] at hob ⊢
   obtain ⟨z,C,d,E,H,K,hs⟩:=hob
   obtain ⟨O,F,o⟩:=R2 ha
   obtain ⟨D,_⟩:=(A5 h C).int d
   have g:=A5 h z
   rw [hx0] at g
   obtain ⟨c,ev,l,b,r⟩:=g.agg_inv rfl
   simp only [AV.cells] at l b r
   generalize AW (AC e i)=q at *
   obtain ⟨k,rfl⟩:=Int.eq_ofNat_of_zero_le E
   have y:k<m:=by omega
   have u:k*sz+sz≤cs.length:=by rw [K,←Nat.succ_mul];exact Nat.mul_le_mul_right _ y
   refine .here h.st (v:=if G then .agg ((List.range sz).map fun j=>c.getD (k*sz+j) undef).toArray else c.getD (k*sz) undef) ?_ ?_
   ·rw [ev,D]
    simp only [Instr.index,asIntOf,Sem.run_bind,Sem.run_pure,Result.andThen_ok,run_underlying F]
    rw [Ai ⟨by omega,by omega⟩]
    simp only [Sem.run_bind,Bt o,Result.andThen_ok,Int.toNat_natCast]
    exact Xy o (by rw [l];exact u) hs
   ·simp only [Int.toNat_natCast]
    exact Q9 (f:=fun j=>c.getD (k*sz+j) undef) b u hs (fun j N=>r _ N)
 ·exact hob.elim
theorem Zbu (h:Rel w0 n M e st a w) (x:Operand) (i:Nat) (hob:(A4 P e true st (.extract x i)).1) :
  Yields' P w0 M (A4 P e true st (.extract x i)).2.2 (A4 P e true st (.extract x i)).2.1 w (do pure (.value (← Instr.extract (a.eval x) i))):=by
 unfold A4 Vu at hob ⊢
 simp only at hob ⊢
 split at hob
 ·rename_i vs hx0
  obtain ⟨c,b⟩:=hob
  have hR:=A5 h c
  rw [hx0] at hR
  generalize a.eval x=v at hR ⊢
  cases hR with
  | tup hl hR =>
   rename_i cs
   rw [Zeb b]
   refine .here h.st (v:=cs[i]'(by omega)) ?_ (hR i (by omega) b)
   simp [Instr.extract,show i<cs.size by omega]
 ·exact hob.elim
theorem Zj1 (h:Rel w0 n M e st a w) (x:Operand) (t ty:TypeId) (hx:AP e true x) (hob:(W6 P t (AC e x)).1) :
  Yields' P w0 M st (W6 P t (AC e x)).2 w (do pure (.value (← Builtin.len_ #[t] ty #[a.eval x]))):=by
 have hR:=A5 h hx
 unfold W6 at hob ⊢
 split at hob
 ·rename_i s hx0
  rw [hx0] at hR
  obtain ⟨ev,_⟩:=hR.val_inv
  refine .here h.st (v := .int .i64 s.size) ?_ (.flat rfl)
  rw [ev]
  simp [Builtin.len_,run_underlying (FQ hob),goInt]
 ·rename_i xs o hx0
  rw [hx0] at hR
  obtain ⟨b,g,ev,_⟩:=hR.list_inv rfl
  simp only [A0] at ev
  obtain ⟨p,f⟩:=Option.isSome_iff_exists.1 hob
  obtain ⟨j,sz,k,c⟩:=p
  obtain ⟨i,d,_⟩:=Gm f
  refine .here h.st (v := .int .i64 xs.length) ?_ (.flat rfl)
  rw [ev]
  simp [Builtin.len_,run_underlying d,goInt]
 ·rename_i id ver o n' hx0
  rw [hx0] at hR
  obtain ⟨p,f⟩:=Option.isSome_iff_exists.1 hob
  obtain ⟨j,sz,k,c⟩:=p
  obtain ⟨i,d,_⟩:=Gm f
  generalize hev:a.eval x=v at hR
  cases hR with
  | @vec _ _ _ _ p g hid hv hh =>
   refine .here h.st (v := .int .i64 n') ?_ (.flat rfl)
   simp [Builtin.len_,run_underlying d,goInt]
 ·exact hob.elim
theorem ED {v:Value} {k:IntKind} {q:Nat} {y:Nat} {code:BoundsCode} (hv:v = .int k q) (h:q≤y) (w:World):(Instr.sliceBound v y code).run P w = .ok q w:=by
 subst hv
 simp [Instr.sliceBound,asIntOf]
 omega
theorem Qa (h:Rel w0 n M e st a w) (isl:Bool) (len cap:Nat) (hlc:len≤cap) {lo hi:Option Operand} (hlo:Ot e true lo) (hhi:Ot e true hi)
  {l u:Nat} (el:CO e 0 lo=l) (eu:CO e len hi=u) (h1:l≤u) (h2:u≤len) :
  (Instr.sliceBounds isl len cap (lo.map a.eval) (hi.map a.eval) none).run P w = .ok (l,u,cap) w:=by
 have H:∀ (y:Operand),(AP e true y∧Ee (AC e y)=true)→∃ k,a.eval y = .int k (AW (AC e y)):=fun y d=>⟨_,((A5 h d.1).int d.2).1⟩
 cases hi with
 | none =>
  simp only [CO] at eu
  have eu':u=len:=by omega
  subst eu'
  cases lo with
  | none =>
   simp only [CO] at el
   have el':l=0:=by omega
   subst el'
   simp [Instr.sliceBounds]
  | some y =>
   obtain ⟨k,b⟩:=H y hlo
   simp only [CO] at el
   rw [el] at b
   simp [Instr.sliceBounds,ED b h1]
 | some z =>
  obtain ⟨g,c⟩:=H z hhi
  simp only [CO] at eu
  rw [eu] at c
  have f:u≤cap:=by omega
  cases lo with
  | none =>
   simp only [CO] at el
   have el':l=0:=by omega
   subst el'
   simp [Instr.sliceBounds,ED c f]
  | some y =>
   obtain ⟨k,b⟩:=H y hlo
   simp only [CO] at el
   rw [el] at b
   simp [Instr.sliceBounds,ED c f,ED b h1]
theorem R.empty (b off cap:Nat) (hm:cap≤maxLen):R w0 M w (.slice (some ⟨b,off,none⟩) 0 cap) (.list [] .none) :=
 R.list (xs:=[]) 0 (fun _=>undef) (Nat.zero_le _) hm (fun i a=>absurd a (by simp)) (fun i a=>absurd a (by simp)) trivial
theorem R.sub {b off cap : Nat} {xs : List AV} {o : Own} (h : R w0 M w (.slice (some ⟨b, off, none⟩) xs.length cap) (.list xs o)) {l u sz : Nat} (hl : l ≤ u) (hu : u ≤ xs.length) (hsz : l = 0 ∨ ∀ y ∈ xs, y.cells.length = sz) (hne : cap ≠ l) :
    R w0 M w (.slice (some ⟨b, off + l * sz, none⟩) (u - l) (cap - l)) (.list ((xs.take u).drop l) .none) := by
  generalize hv : Value.slice (some ⟨b, off, none⟩) xs.length cap = v at h
  cases h with
  | nil ho => cases hv
  | emp ho => cases hv; simp at hu; subst hu; have : l = 0 := by omega
              subst this; exact absurd rfl hne
  | @list b' off' cap' _ _ sz' us hc hm hcell hus ho =>
    cases hv
    have hlen : ((xs.take u).drop l).length = u - l := by simp; omega
    rw [← hlen]
    have eo : ∀ i, i < u - l → off + l * sz + i * sz' = off + (l + i) * sz' := by
      intro i hi
      rcases hsz with rfl | hsz
      · simp
      · have e : sz' = sz := by
          have h1 : (us i).cells.size = sz' := (hcell i (by omega)).1
          rw [← h1, (hus i (by omega)).cells.1, hsz _ (List.getElem_mem _)]
        rw [e, Nat.add_mul]; omega
    refine .list sz' (fun i => us (l + i)) (by rw [hlen]; omega) (by omega) (fun i hi => ?_) (fun i hi => ?_) trivial
    · rw [hlen] at hi
      obtain ⟨h1, h2⟩ := hcell (l + i) (by omega)
      refine ⟨h1, fun j hj => ?_⟩
      rw [eo i hi]
      exact h2 j hj
    · rw [hlen] at hi
      simp only [List.getElem_drop, List.getElem_take]
      exact hus (l + i) (by omega)
theorem ZeS (h:Rel w0 n M e st a w) (t:TypeId) (x:Operand) (lo hi mx:Option Operand) (hob:(A4 P e true st (.slice t x lo hi mx)).1) :
  Yields' P w0 M (A4 P e true st (.slice t x lo hi mx)).2.2 (A4 P e true st (.slice t x lo hi mx)).2.1 w (do pure (.value (← Instr.sliceAt t (a.eval x) (lo.map a.eval) (hi.map a.eval) (mx.map a.eval)))):=by
 unfold A4 at hob ⊢
 simp only at hob ⊢
 split at hob
 ·rename_i id ver o n' hx0
  cases hp:Mc P t with
  | none=>simp [hp] at hob
  | some p =>
  obtain ⟨el,sz,ag,aa⟩:=p
  cases hvr:C4 st.rows id ver with
  | none=>simp [hp,hvr] at hob
  | some q =>
  obtain ⟨J,cs⟩:=q
  simp only [hp,hvr] at hob ⊢
  obtain ⟨K,l,j,hm,E,C,G,V,rfl⟩:=hob
  have hR:=A5 h K
  rw [hx0] at hR
  obtain ⟨i,O,_,_,D⟩:=Gm hp
  cases mx with
  | some _=>cases hm
  | none =>
   obtain ⟨d,f⟩:=Int.eq_ofNat_of_zero_le E
   obtain ⟨u,g⟩:=Int.eq_ofNat_of_zero_le (Int.le_trans E C)
   rw [f,g] at C
   rw [g] at G
   rw [f] at V
   rw [f,g]
   simp only [Int.toNat_natCast]
   generalize hev:a.eval x=v at hR
   cases hR with
   | @vec _ _ _ _ p c hid hv hh =>
    obtain ⟨f1,f2,_⟩:=h.st.row id _ (DO hvr)
    obtain ⟨rfl,ah,Y⟩:=hh f1.symm
    have N:=Qa (P:=P) h true n' c Y l j f g (by omega) (by omega)
    refine .here h.st (v := .slice (if c=d then some ⟨M.blk id,o*M.rsz id,none⟩ else (some (⟨M.blk id,o*M.rsz id,none⟩:Addr)).map (·.add (d*J))) (u-d) (c-d)) ?_ ?_
    ·simp only [Instr.sliceAt,Instr.slice,Sem.run_bind,run_underlying O,Result.andThen_ok,Option.map_none,N,Bt D,Sem.run_pure]
    ·refine .vec hid hv fun _=>⟨?_,by omega,by omega⟩
     by_cases hcl:c=d
     ·have:d=0:=by omega
      rw [Ai hcl,this];simp
     ·rw [Aj hcl]
      simp only [Option.map_some,E0]
      rw [f2,Nat.add_mul]
 ·rename_i s hx0
  obtain ⟨hs,K,l,j,hm,E,C,G⟩:=hob
  have hR:=A5 h K
  rw [hx0] at hR
  obtain ⟨ev,hf⟩:=hR.val_inv
  cases mx with
  | some _=>cases hm
  | none =>
   have N:=Qa (P:=P) h false s.size s.size (Nat.le_refl _) l j (Int.toNat_of_nonneg E).symm (Int.toNat_of_nonneg (Int.le_trans E C)).symm (by omega) (by omega)
   refine .here h.st (v := .string (s.extract (CO e 0 lo).toNat (CO e s.size hi).toNat)) ?_ (.flat ?_)
   ·rw [ev]
    simp only [Instr.sliceAt,Instr.slice,Sem.run_bind,run_underlying (FQ hs),Result.andThen_ok,Option.map_none,Option.isSome_none,Bool.false_eq_true,if_false,N,Sem.run_pure]
   ·simp only [GN,decide_eq_true_eq] at hf ⊢
    simp only [ByteArray.size_extract]
    omega
 ·rename_i xs o hx0
  cases hp:Mc P t with
  | none=>simp [hp] at hob
  | some p =>
   obtain ⟨el,sz,ag,aa⟩:=p
   simp only [hp] at hob ⊢
   cases mx with
   | some m =>
    simp only at hob ⊢
    obtain ⟨K,l,j,hm,E,C,G⟩:=hob
    have hR:=A5 h K
    rw [hx0] at hR
    obtain ⟨i,O,_,_,D⟩:=Gm hp
    have H:∀ (y:Operand),(AP e true y∧Ee (AC e y)=true)→∃ k,a.eval y = .int k (AW (AC e y)):=fun y hy=>⟨_,((A5 h hy.1).int hy.2).1⟩
    cases hi with
    | none=>simp [CO] at C
    | some z =>
     obtain ⟨k2,kz⟩:=H z j
     obtain ⟨k3,km⟩:=H m hm
     simp only [CO] at C G
     rw [C] at kz
     rw [G] at km
     have N:∀ (ln c:Nat),ln≤c→(Instr.sliceBounds true ln c (lo.map a.eval) ((some z).map a.eval) ((some m).map a.eval)).run P w = .ok (0,0,0) w:=by
      intro ln c U
      have e1:=ED (P:=P) (k:=k3) (q:=0) (y:=c) (code := .slice3Acap) km (Nat.zero_le _) w
      have e2:=ED (P:=P) (k:=k2) (q:=0) (y:=0) (code := .slice3B) kz (Nat.zero_le _) w
      cases lo with
      | none=>simp [Instr.sliceBounds,e1,e2]
      | some y =>
       obtain ⟨k,ky⟩:=H y l
       simp only [CO] at E
       rw [E] at ky
       have e3:=ED (P:=P) (k:=k) (q:=0) (y:=0) (code := .slice3C) ky (Nat.zero_le _) w
       simp [Instr.sliceBounds,e1,e2,e3]
     obtain ⟨v,hv⟩:∃ v,a.eval x=v:=⟨_,rfl⟩
     rw [hv] at hR
     have fin:∀ (r:Option Addr) (ln c:Nat),ln≤c→v = .slice r ln c→R w0 M w (.slice r 0 0) (.list [] .full) →
       Yields' P w0 M st (.list [] .full) w (do pure (.value (← Instr.sliceAt t (a.eval x) (lo.map a.eval) (Option.map a.eval (some z)) (Option.map a.eval (some m))))):=by
      intro r ln c U e1 Z
      refine .here h.st ?_ Z
      rw [hv,e1]
      simp only [Instr.sliceAt,Instr.slice,Sem.run_bind,run_underlying O,Result.andThen_ok,N ln c U,Bt D,Sem.run_pure]
      simp
     cases hR with
     | nil ho=>exact fin none 0 0 (Nat.le_refl _) rfl (by simpa using R.nil (fun id=>by simp))
     | @emp r _ ho=>exact fin (some r) 0 0 (Nat.le_refl _) rfl (.emp (fun id=>by simp))
     | @list b off c _ _ J us hc hm' hcell hu' ho =>
      exact fin _ _ c hc rfl (R.list (xs:=[]) 0 (fun _=>undef) (Nat.zero_le _) (Nat.zero_le _) (fun i hi=>absurd hi (by simp)) (fun i hi=>absurd hi (by simp)) rfl)
   | none =>
   obtain ⟨K,l,j,E,C,G,V⟩:=hob
   have hR:=A5 h K
   rw [hx0] at hR
   obtain ⟨i,O,_,_,D⟩:=Gm hp
   ·obtain ⟨d,f⟩:=Int.eq_ofNat_of_zero_le E
    obtain ⟨u,g⟩:=Int.eq_ofNat_of_zero_le (Int.le_trans E C)
    rw [f,g] at C
    rw [g] at G
    rw [f] at V
    rw [f,g]
    have Q:d≤u:=by omega
    have F:u≤xs.length:=by omega
    simp only [Int.toNat_natCast]
    have ab:d=0∨∀ y∈xs,y.cells.length=sz:=V.imp (fun q=>by omega) id
    have go:∀ (r:Option Addr) (c:Nat),xs.length≤c→a.eval x = .slice r xs.length c →
      R w0 M w (.slice (if c=d then r else r.map (·.add (d*sz))) (u-d) (c-d)) (.list ((xs.take u).drop d) .none) →
      Yields' P w0 M st (.list ((xs.take u).drop d) .none) w (do pure (.value (← Instr.sliceAt t (a.eval x) (lo.map a.eval) (hi.map a.eval) (Option.map a.eval none)))):=by
     intro r c af ev Z
     have N:=Qa (P:=P) h true xs.length c af l j f g Q F
     refine .here h.st ?_ Z
     rw [ev]
     simp only [Instr.sliceAt,Instr.slice,Sem.run_bind,run_underlying O,Result.andThen_ok,Option.map_none,N,Bt D,Sem.run_pure]
    generalize hv:a.eval x=v at hR go
    have ae:=hR
    cases hR with
    | nil ho =>
     have e1:u=0:=by simpa using F
     have e2:d=0:=by omega
     subst e1;subst e2
     refine go none 0 (Nat.le_refl _) rfl ?_
     simpa using (R.nil (w0:=w0) (M:=M) (w:=w) (o := .none) (fun id=>by simp))
    | @emp r _ ho =>
     have e1:u=0:=by simpa using F
     have e2:d=0:=by omega
     subst e1;subst e2
     refine go (some r) 0 (Nat.le_refl _) rfl ?_
     simpa using (R.emp (w0:=w0) (M:=M) (w:=w) (a:=r) (o := .none) (fun id=>by simp))
    | @list b off c _ _ J us hc hm' hcell hu' ho =>
     refine go (some ⟨b,off,none⟩) c hc rfl ?_
     by_cases hcl:c=d
     ·have e1:u=d:=by omega
      have:(xs.take u).drop d=[]:=by rw [e1];simp
      rw [this,Ai hcl,e1,Nat.sub_self]
      exact R.empty _ _ _ (by omega)
     ·rw [Aj hcl]
      simp only [Option.map_some,E0]
      exact ae.sub Q F ab hcl
 ·exact hob.elim
theorem Zi6 (h:Rel w0 n M e st a w) (x y:Operand) (ts:Array TypeId) (t:TypeId) (hx:AP e true x) (hy:AP e true y) (ix:Ee (AC e x)=true) (iy:Ee (AC e y)=true) :
  Yields' P w0 M st (.val (.int (Lq (AC e x)) (if AW (AC e y)<AW (AC e x) then AW (AC e y) else AW (AC e x)))) w (do pure (.value (← Builtin.min_ ts t #[a.eval x,a.eval y]))):=by
 rw [((A5 h hx).int ix).1,((A5 h hy).int iy).1]
 exact .here h.st (by simp [Builtin.min_,Builtin.min2]) (.flat rfl)
theorem Zjp (h:Rel w0 n M e st a w) (x y:Operand) (ts:Array TypeId) (t:TypeId) (hx:AP e true x) (hy:AP e true y) (ix:Ee (AC e x)=true) (iy:Ee (AC e y)=true) :
  Yields' P w0 M st (.val (.int (Lq (AC e x)) (if AW (AC e x)<AW (AC e y) then AW (AC e y) else AW (AC e x)))) w (do pure (.value (← Builtin.max_ ts t #[a.eval x,a.eval y]))):=by
 rw [((A5 h hx).int ix).1,((A5 h hy).int iy).1]
 exact .here h.st (by simp [Builtin.max_,Builtin.max2]) (.flat rfl)
end
section
variable {P:Program} {w0:World} {n:Nat} {M:Mem} {e:Env} {st:St} {a:Act} {w:World}
theorem RelSt.box_lt (h:RelSt w0 M st w) {l:Nat} (hl:l<M.N):M.bx l<w.heap.size:=by
 have a:l<st.boxes.length:=by rw [←h.N];exact hl
 obtain ⟨_,_,c,d,b,_⟩:=h.box l _ (List.getElem?_eq_getElem a)
 exact (Array.getElem?_eq_some_iff.1 b).1
theorem RelSt.row_lt (h:RelSt w0 M st w) {i:Nat} (hi:i<M.NR):M.blk i<w.heap.size:=by
 have a:i<st.rows.length:=by rw [←h.NR];exact hi
 exact (h.row i _ (List.getElem?_eq_getElem a)).lt
theorem RelSt.base_le (h:RelSt w0 M st w):w0.heap.size≤w.heap.size:=h.below.size
theorem RelSt.drew (h:RelSt w0 M st w):RelSt w0 M st w.drew∧Ext w0 M w M w.drew :=
 have b:Ext w0 M w M w.drew:=⟨Nat.le_refl _,fun _ _=>rfl,Nat.le_refl _,fun _ _=>⟨Nat.le_refl _,fun _=>⟨rfl,rfl,rfl⟩⟩,fun _ _ _ g d=>⟨d,g⟩,Nat.le_refl _,Nat.le_refl _,fun _ _=>rfl,fun _ _ _=>by omega,fun _ _ h _ _=>h⟩
 ⟨⟨h.below.drew,h.N,h.NR,h.top,h.inj,fun l cs f=>by
   obtain ⟨a1,a2,c,j,a3,a4,a5,a6⟩:=h.box l cs f
   exact ⟨a1,a2,c,j,a3,a4,a5,fun i e k=>(a6 i e k).mono b⟩,fun id x a=>(h.row id x a).keep b rfl rfl rfl rfl rfl (h.row id x a).ne rfl,h.rowinj,h.loop.mono b rfl fun _ _ h _=>h⟩,b⟩
def Mem.newTop (M:Mem) (b k:Nat):Mem:={ M with top:=fun x=>if x=b then k else M.top x }
theorem RB (M':Mem) (o:Obj) (hN:M'.N=M.N∨M'.N=M.N+1) (hb:∀ l,l<M.N→M'.bx l=M.bx l) (hNR:M.NR≤M'.NR)
  (hr:∀ id,id<M.NR→M.fr id≤M'.fr id∧(M'.fr id=M.fr id→M'.blk id=M.blk id∧M'.cap id=M.cap id∧M'.rsz id=M.rsz id)) (ht:∀ b,b<w.heap.size→M.top b≤M'.top b) (hNL:M'.NL=M.NL:=by rfl) (hlb:M'.lb=M.lb:=by rfl) :
  Ext w0 M w M' (w.alloc o) :=
 ⟨by omega,hb,hNR,hr,fun b e v hi c=>by
  have a:=World.block_lt_of_cell? w _ c
  refine ⟨by rw [World.cell?_alloc_lt _ _ _ a];exact c,?_⟩
  rcases hi with hi | hi
  ·exact .inl hi
  ·exact .inr (Nat.lt_of_lt_of_le hi (ht b a)),by simp,by omega,fun _ _=>by rw [hlb],fun _ _ _=>by omega,fun b o' d f _=>KeepsObj.alloc w o b o' d f⟩
theorem Bq (w:World) (o:Obj) {k:Nat} (h:k<w.heap.size):(w.alloc o).heap[k]? = w.heap[k]? := Below.heap_alloc w o k h
theorem RelSt.newTop (h:RelSt w0 M st w) (cs:Array Value) (ty:TypeId) (k:Nat) :
  RelSt w0 (M.newTop w.heap.size k) st (w.alloc (.cells cs ty))∧Ext w0 M w (M.newTop w.heap.size k) (w.alloc (.cells cs ty)):=by
 have g:∀ b,b<w.heap.size→(M.newTop w.heap.size k).top b=M.top b:=fun b e=>by simp [Mem.newTop];omega
 have f:Ext w0 M w (M.newTop w.heap.size k) (w.alloc (.cells cs ty)) :=
  RB _ _ (.inl rfl) (fun _ _=>rfl) (Nat.le_refl _) (fun _ _=>⟨Nat.le_refl _,fun _=>⟨rfl,rfl,rfl⟩⟩) (fun b e=>by rw [g b e];exact Nat.le_refl _)
 refine ⟨⟨h.below.alloc h.base_le _,h.N,h.NR,fun b e=>?_,h.inj,fun l c o=>?_,fun id x a=>(h.row id x a).keep f rfl rfl rfl rfl (g _ (h.row id x a).lt) (h.row id x a).ne (Bq _ _ (h.row id x a).lt),h.rowinj,h.loop.mono f rfl (KeepsObj.alloc _ _)⟩,f⟩
 ·simp at e
  have:(M.newTop w.heap.size k).top b=M.top b:=by simp [Mem.newTop];omega
  rw [this]
  exact h.top b (by omega)
 ·obtain ⟨a1,a2,n,j,a3,a4,a5,a6⟩:=h.box l c o
  have d:=(Array.getElem?_eq_some_iff.1 a3).1
  exact ⟨a1,by rw [show (M.newTop w.heap.size k).bx l=M.bx l from rfl,g _ d];exact a2,n,j,by rw [show (M.newTop w.heap.size k).bx l=M.bx l from rfl,Bq _ _ d];exact a3,a4,a5,fun i m p=>(a6 i m p).mono f⟩
theorem RelSt.later (h:RelSt w0 M st w) {w':World} (hb:Below w.heap.size w w') (b k:Nat) (hw:w.heap.size≤b) (hk:b<w'.heap.size∨k=0) :
  RelSt w0 (M.newTop b k) st w'∧Ext w0 M w (M.newTop b k) w':=by
 have r:∀ x,x<w.heap.size→(M.newTop b k).top x=M.top x:=fun x g=>by simp [Mem.newTop];omega
 have p:∀ x,x<w.heap.size→w'.heap[x]? = w.heap[x]? := hb.block
 have j:KeepsObj w w':=fun x o f _=>(p x (Array.getElem?_eq_some_iff.1 f).1).trans f
 have g:Ext w0 M w (M.newTop b k) w' :=
  ⟨Nat.le_refl _,fun _ _=>rfl,Nat.le_refl _,fun _ _=>⟨Nat.le_refl _,fun _=>⟨rfl,rfl,rfl⟩⟩,fun x z v C n=>by
   have a:=World.block_lt_of_cell? w _ n
   refine ⟨?_,C.imp id fun q=>by rw [r x a];exact q⟩
   unfold World.cell? at n ⊢
   simp only [p x a] at n ⊢
   exact n,hb.size,Nat.le_refl _,fun _ _=>rfl,fun _ f m=>absurd m (Nat.not_lt.2 f),fun x o f m _=>j x o f m⟩
 refine ⟨⟨h.below.trans (hb.mono h.base_le),h.N,h.NR,fun x y=>?_,h.inj,fun l c u=>?_,fun id x d=>(h.row id x d).keep g rfl rfl rfl rfl (r _ (h.row id x d).lt) (h.row id x d).ne (p _ (h.row id x d).lt),h.rowinj,h.loop.mono g rfl j⟩,g⟩
 ·have:=hb.size
  by_cases c:x=b
  ·have e:(M.newTop b k).top x=k:=by simp [Mem.newTop,c]
   rw [e]
   rcases hk with hk | hk
   ·omega
   ·exact hk
  ·have e:(M.newTop b k).top x=M.top x:=by simp [Mem.newTop,c]
   rw [e]
   exact h.top x (by omega)
 ·obtain ⟨a1,a2,t,s,a3,a4,a5,a6⟩:=h.box l c u
  have a:=(Array.getElem?_eq_some_iff.1 a3).1
  exact ⟨a1,by rw [show (M.newTop b k).bx l=M.bx l from rfl,r _ a];exact a2,t,s,by rw [show (M.newTop b k).bx l=M.bx l from rfl,p _ a];exact a3,a4,a5,fun i f m=>(a6 i f m).mono g⟩
def Mem.newBox (M:Mem) (b:Nat):Mem:={ M with N:=M.N+1,bx:=fun l=>if l=M.N then b else M.bx l }
theorem RelSt.newBox (h:RelSt w0 M st w) (v:Value) (x:AV) (ty:TypeId) (hR:R w0 M w v x) (hn:A3 x=true) :
  RelSt w0 (M.newBox w.heap.size) { st with boxes:=st.boxes++[x.cells] } (w.alloc (.cells v.cells ty))∧Ext w0 M w (M.newBox w.heap.size) (w.alloc (.cells v.cells ty)) ∧
   R w0 (M.newBox w.heap.size) (w.alloc (.cells v.cells ty)) (.pointer (some ⟨w.heap.size,0,none⟩)) (.box st.boxes.length 0):=by
 have d:∀ l,l<M.N→(M.newBox w.heap.size).bx l=M.bx l:=fun l hl=>by simp [Mem.newBox];omega
 have a:(M.newBox w.heap.size).bx M.N=w.heap.size:=by simp [Mem.newBox]
 have m:Ext w0 M w (M.newBox w.heap.size) (w.alloc (.cells v.cells ty)) :=
  RB _ _ (.inr rfl) d (Nat.le_refl _) (fun _ _=>⟨Nat.le_refl _,fun _=>⟨rfl,rfl,rfl⟩⟩) (fun b q=>Nat.le_refl _)
 have p:=hR.mono m
 refine ⟨⟨h.below.alloc h.base_le _,by simp [Mem.newBox,h.N],h.NR,fun b q=>h.top b (by simp at q;omega),fun l k hl f e=>?_,fun l c hl=>?_,fun id x g=>?_,h.rowinj,h.loop.mono m rfl (KeepsObj.alloc _ _)⟩,m,?_⟩
 ·have n:(M.newBox w.heap.size).N=M.N+1:=rfl
  rw [n] at hl f
  by_cases e1:l=M.N
  ·by_cases e2:k=M.N
   ·omega
   ·subst e1
    rw [a,d k (by omega)] at e
    have:=h.box_lt (l:=k) (by omega)
    omega
  ·by_cases e2:k=M.N
   ·subst e2
    rw [a,d l (by omega)] at e
    have:=h.box_lt (l:=l) (by omega)
    omega
   ·rw [d l (by omega),d k (by omega)] at e
    exact h.inj l k (by omega) (by omega) e
 ·by_cases e1:l=M.N
  ·subst e1
   simp only [h.N,List.getElem?_concat_length,Option.some.injEq] at hl
   subst hl
   rw [a]
   obtain ⟨hs,hc⟩:=p.cells
   refine ⟨h.base_le,h.top _ (Nat.le_refl _),v.cells,ty,heap_alloc_new w _,hs,hR.cellsOne (fun vs e=>by subst e;cases hn),hc⟩
  ·have f:l<M.N:=by
    have:l<(st.boxes++[x.cells]).length:=(Ak.1 hl).1
    have n:=h.N
    simp at this
    omega
   rw [List.getElem?_append_left (by rw [←h.N];exact f)] at hl
   obtain ⟨a1,a2,s,o,a3,a4,a5,a6⟩:=h.box l c hl
   have j:=(Array.getElem?_eq_some_iff.1 a3).1
   rw [d l f]
   exact ⟨a1,a2,s,o,by rw [Bq _ _ j];exact a3,a4,a5,fun i r t=>(a6 i r t).mono m⟩
 ·have j:=(h.row id x g).lt
  refine (h.row id x g).keep m rfl rfl rfl rfl rfl (fun l hl=>?_) (Bq _ _ j)
  by_cases e1:l=M.N
  ·subst e1
   rw [a]
   show w.heap.size≠M.blk id
   omega
  ·have n:(M.newBox w.heap.size).N=M.N+1:=rfl
   rw [d l (by omega)]
   exact (h.row id x g).ne l (by omega)
 ·have:=R.box (w0:=w0) (M:=M.newBox w.heap.size) (w:=w.alloc (.cells v.cells ty)) (l:=st.boxes.length) (off:=0) (by rw [←h.N];exact Nat.lt_succ_self _)
  rwa [←h.N,a,h.N] at this
theorem Ey {t:TypeId} {z:List AV} (h:Br P t=some z):∃ i v,P.info? t=some i∧i.zero=some v∧PI v=true∧v.cells.size=i.size∧z=(Jo v).cells:=by
 unfold Br at h
 split at h
 ·rename_i i hi
  split at h
  ·rename_i v hv
   split at h
   ·rename_i hc
    simp only [Bool.and_eq_true,beq_iff_eq] at hc
    exact ⟨i,v,hi,hv,hc.1,hc.2,(Option.some.inj h).symm⟩
   ·cases h
  ·cases h
 ·cases h
theorem Ly {v:Value} (h:PI v=true):A3 (Jo v)=true:=by
 have hc:∀ u,A3 (NW u)=true:=fun u=>by unfold NW;split<;>rfl
 cases v<;>first | rfl | exact hc _
theorem Zfu (h:Rel w0 n M e st a w) (t:TypeId) (hob:(A4 P e true st (.alloc t)).1) :
  Yields' P w0 M (A4 P e true st (.alloc t)).2.2 (A4 P e true st (.alloc t)).2.1 w (do pure (.value (← Instr.alloc t true (.tuple #[])))):=by
 unfold A4 at hob ⊢
 cases hz:Br P t with
 | none=>simp [hz] at hob
 | some z =>
  simp only [hz]
  obtain ⟨i,v,d,hv,b,hs,rfl⟩:=Ey hz
  obtain ⟨c,f,g⟩:=h.st.newBox v (Jo v) t (Oc b) (Ly b)
  refine .value ⟨_,_,_,?_,f,c,g⟩
  simp [Instr.alloc,zeroValue,typeInfo,d,hv,newVar,newRow]
theorem ZjB (h:Rel w0 n M e st a w) (t:TypeId) (x:Operand) (hob:(A4 P e true st (.box t x)).1) :
  Yields' P w0 M (A4 P e true st (.box t x)).2.2 (A4 P e true st (.box t x)).2.1 w (do pure (.value (← Instr.box t (a.eval x)))):=by
 obtain ⟨_,c,d⟩:=hob
 obtain ⟨b,f,g⟩:=h.st.newBox (a.eval x) (AC e x) t (A5 h c) d
 refine .value ⟨_,_,_,?_,f,b,g⟩
 simp [Instr.box,newVar,newRow]
theorem W2 (vs:List Value):∀ (k:Nat) (cs:Array Value) (off:Nat),off+k+vs.length≤cs.size →
  ((vs.zipIdx k).foldl (fun cs (x:Value × Nat)=>cs.setIfInBounds (off+x.2) x.1) cs).size=cs.size ∧
  ∀ j,((vs.zipIdx k).foldl (fun cs (x:Value × Nat)=>cs.setIfInBounds (off+x.2) x.1) cs)[j]? = if off+k≤j∧j<off+k+vs.length then vs[j-(off+k)]? else cs[j]? := by
 induction vs with
 | nil=>intro k cs off h;exact ⟨rfl,fun j=>by simp;omega⟩
 | cons v vs ih =>
  intro k cs off h
  simp only [List.length_cons] at h
  simp only [List.zipIdx_cons,List.foldl_cons,List.length_cons]
  obtain ⟨b,c⟩:=ih (k+1) (cs.setIfInBounds (off+k) v) off (by simp;omega)
  refine ⟨by rw [b];simp,fun j=>?_⟩
  rw [c j]
  by_cases c1:off+(k+1)≤j∧j<off+(k+1)+vs.length
  ·rw [Ai c1,Ab,show j-(off+k)=(j-(off+(k+1)))+1 from by omega]
   simp
  ·rw [Aj c1]
   by_cases c2:j=off+k
   ·subst c2
    have a:off+k<cs.size:=by omega
    rw [Ab]
    simp [a]
   ·rw [Aa,Array.getElem?_setIfInBounds_ne (by omega)]
theorem M6 {l xs:List AV} {off:Nat} (h:off+xs.length≤l.length):(CN l off xs).length=l.length:=by
 simp [CN];omega
theorem ZaX {l xs:List AV} {off:Nat} (h:off+xs.length≤l.length) (j:Nat):(CN l off xs)[j]? = if off≤j∧j<off+xs.length then xs[j-off]? else l[j]? := by
 unfold CN
 rw [List.append_assoc,List.getElem?_append]
 simp only [List.length_take]
 have e:min off l.length=off:=by omega
 rw [e]
 by_cases c1:j<off
 ·rw [Ai c1,Aa,List.getElem?_take,Ai c1]
 ·rw [Aj c1,List.getElem?_append]
  by_cases c2:j-off<xs.length
  ·rw [Ai c2,Ab]
  ·rw [Aj c2,Aa,List.getElem?_drop]
   congr 1
   omega
theorem Qo {l xs:List AV} {off:Nat} (h1:∀ x∈l,x.one=true) (h2:∀ x∈xs,x.one=true):∀ x∈CN l off xs,x.one=true:=by
 intro x hx
 simp only [CN,List.mem_append] at hx
 rcases hx with (hx | hx) | hx
 ·exact h1 x (List.mem_of_mem_take hx)
 ·exact h2 x hx
 ·exact h1 x (List.mem_of_mem_drop hx)
def RowR (w0:World) (M:Mem) (w:World) (cs:Array Value) (l:List AV):Prop:=cs.size=l.length∧∀ i (h1:i<cs.size) (h2:i<l.length),R w0 M w cs[i] l[i]
theorem RowR.get {cs:Array Value} {l:List AV} (h:RowR w0 M w cs l) {i:Nat} {v:Value} {x:AV} (hv:cs[i]? = some v) (hx:l[i]? = some x):R w0 M w v x:=by
 obtain ⟨a1,rfl⟩:=Array.getElem?_eq_some_iff.1 hv
 obtain ⟨a2,rfl⟩:=Ak.1 hx
 exact h.2 i a1 a2
theorem RowR.mk {cs:Array Value} {l:List AV} (hs:cs.size=l.length) (h:∀ (i:Nat) (v:Value) (x:AV),cs[i]? = some v→l[i]? = some x→R w0 M w v x):RowR w0 M w cs l :=
 ⟨hs,fun i a b=>h i _ _ (Array.getElem?_eq_getElem a) (List.getElem?_eq_getElem b)⟩
theorem RowR.put {cs cs':Array Value} {l:List AV} (h:RowR w0 M w cs l) {v:Value} {x:AV} (hR:R w0 M w v x) {off:Nat} (hoff:off+x.cells.length≤l.length) (hs:cs'.size=cs.size)
  (hg:∀ j,cs'[j]? = if off≤j∧j<off+v.cells.toList.length then v.cells.toList[j-off]? else cs[j]?):RowR w0 M w cs' (CN l off x.cells):=by
 obtain ⟨d,e⟩:=hR.cells
 refine .mk (by rw [hs,M6 hoff];exact h.1) (fun i u y a b=>?_)
 rw [hg i] at a
 rw [ZaX hoff] at b
 simp only [Array.length_toList] at a
 rw [←d] at b
 by_cases c:off≤i∧i<off+v.cells.size
 ·rw [Ai c] at a b
  rw [Array.getElem?_toList] at a
  exact RowR.get ⟨d,e⟩ a b
 ·rw [Aj c] at a b
  exact h.get a b
theorem Yo (t:TypeId) (pl:Nat→Option (Nat × Nat)) (hpl:∀ i o s,LN P t i=some (o,s)→pl i=some (o,s)) :
  ∀ (vs:List (Nat × Value)) (xs:List (Nat × AV)) (cs:Array Value) (l:List AV),vs.length=xs.length→(∀ (k:Nat) (p:Nat × Value) (q:Nat × AV),vs[k]? = some p→xs[k]? = some q→p.1=q.1∧R w0 M w p.2 q.2∧A3 q.2=true) →
   RowR w0 M w cs l→(∀ y∈l,y.one=true)→Qe P t l.length xs→∃ cs',Instr.fill pl cs vs=some cs'∧RowR w0 M w cs' (Tz P t l xs)∧(∀ y∈Tz P t l xs,y.one=true)
 | [],[],cs,l,_,_,h,h1,_=>⟨cs,rfl,h,h1⟩
 | [],_::_,_,_,hl,_,_,_,_=>by cases hl
 | _::_,[],_,_,hl,_,_,_,_=>by cases hl
 | (i,v)::vs,(i',x)::xs,cs,l,hl,hp,h,h1,hf=>by
  obtain ⟨rfl,g,hn⟩:=hp 0 _ _ rfl rfl
  simp only at g hn
  simp only [Qe] at hf
  obtain ⟨d,m⟩:=hf
  simp only [Instr.fill,Tz]
  cases hpp:LN P t i with
  | none=>simp [hpp] at d
  | some p =>
   obtain ⟨o,s⟩:=p
   simp only [hpp] at d ⊢
   obtain ⟨a1,a2⟩:=d
   obtain ⟨C,z⟩:=g.cells
   rw [hpl i o s hpp]
   have n:(decide (v.cells.size≠s)||decide (o+v.cells.size > cs.size))=false:=by have:=h.1;simp;omega
   simp only [n,Bool.false_eq_true,if_false]
   have a:=W2 v.cells.toList 0 cs o (by simp;have:=h.1;omega)
   have b:(v.cells.zipIdx.foldl (fun cs (c,j)=>cs.setIfInBounds (o+j) c) cs)=(v.cells.toList.zipIdx 0).foldl (fun cs (x:Value × Nat)=>cs.setIfInBounds (o+x.2) x.1) cs:=by
    rw [←Array.foldl_toList]
    simp
   rw [b]
   simp only [Nat.add_zero] at a
   have f:=h.put g (off:=o) (by omega) a.1 a.2
   refine Yo t pl hpl vs xs _ _ (by simpa using hl) (fun k p q r u=>hp (k+1) p q (by simpa using r) (by simpa using u)) f (Qo h1 (g.cellsOne (fun vs e=>by subst e;cases hn))) ?_
   rw [M6 (by omega)]
   exact m
theorem ZaD {α β:Type} (f:α→Sem β) (g:α→β):∀ (l:List α),(∀ x∈l,∀ w,(f x).run P w = .ok (g x) w)→∀ w,(l.mapM f).run P w = .ok (l.map g) w
 | [],_,w=>by simp
 | x::l,h,w=>by simp [h x (by simp),ZaD f g l (fun y a=>h y (by simp [a])) w]
theorem ZdJ {α β:Type} (f:α→Sem β) (g:α→β) (xs:Array α) (h:∀ x∈xs.toList,∀ w,(f x).run P w = .ok (g x) w) (w:World):(xs.mapM f).run P w = .ok (xs.map g) w:=by
 rw [Array.mapM_eq_mapM_toList]
 simp only [Sem.run_map,ZaD f g xs.toList h w,Result.andThen_ok]
 congr 1
 apply Array.ext'
 simp
theorem P8:∀ (fs:List Field) (l:List (Nat × Nat)),Ru P fs=some l →
  l=fs.map (fun f=>(f.offset,P.cellsOf f.type))∧∀ f∈fs,∀ w,(sizeOf f.type).run P w = .ok (P.cellsOf f.type) w
 | [],l,h=>by cases h;exact ⟨rfl,fun f hf=>by cases hf⟩
 | f::fs,l,h=>by
  simp only [Ru] at h
  split at h
  ·rename_i i r hi hr
   cases h
   obtain ⟨b,c⟩:=P8 fs r hr
   have a:P.cellsOf f.type=i.size:=by simp [Program.cellsOf,hi]
   refine ⟨by simp [a,←b],fun g hg w=>?_⟩
   rcases List.mem_cons.1 hg with rfl | hg
   ·simp [sizeOf,typeInfo,hi,a]
   ·exact c g hg w
  ·cases h
theorem ZeO (h:Rel w0 n M e st a w) (t:TypeId) (ps:Array (Nat × Operand)) (hob:(A4 P e true st (.build t ps)).1) :
  Yields' P w0 M (A4 P e true st (.build t ps)).2.2 (A4 P e true st (.build t ps)).2.1 w (do pure (.value (← Instr.build t (ps.map fun (i,x)=>(i,a.eval x))))):=by
 unfold A4 at hob ⊢
 cases hz:Br P t with
 | none=>simp [hz] at hob
 | some z =>
  simp only [hz] at hob ⊢
  obtain ⟨H,C,E⟩:=hob
  obtain ⟨i,v,Q,hv,O,hs,rfl⟩:=Ey hz
  have y:R w0 M w v (Jo v):=Oc O
  have j:RowR w0 M w v.cells (Jo v).cells:=y.cells
  have d:=y.cellsOne (fun vs e=>by have:=Ly O;rw [e] at this;cases this)
  have c:∀ (k:Nat) (p:Nat × Value) (q:Nat × AV),((ps.map fun (i,x)=>(i,a.eval x)).toList)[k]? = some p→(ps.toList.map fun p=>(p.1,AC e p.2))[k]? = some q→p.1=q.1∧R w0 M w p.2 q.2∧A3 q.2=true:=by
   intro k p q r V
   simp only [Array.toList_map,List.getElem?_map,Option.map_eq_some_iff] at r V
   obtain ⟨K,U,rfl⟩:=r
   obtain ⟨q0,h2,rfl⟩:=V
   rw [U] at h2
   cases h2
   have D:K∈ps.toList:=List.mem_of_getElem? U
   exact ⟨rfl,A5 h (C K D).1,(C K D).2⟩
  have g:((ps.map fun (i,x)=>(i,a.eval x)).toList).length=(ps.toList.map fun p=>(p.1,AC e p.2)).length:=by simp
  cases hpp:CZ P t with
  | some l =>
   unfold CZ at hpp
   split at hpp
   ·rename_i fs hu
    obtain ⟨Z,Y⟩:=P8 _ _ hpp
    have b:∀ i o s,LN P t i=some (o,s)→((fs.map fun f=>(f.offset,P.cellsOf f.type))[·]?) i=some (o,s):=by
     intro i o s r
     simp only [LN,CZ,hu,hpp] at r
     rw [Z] at r
     simpa using r
    obtain ⟨cs',G,u,J⟩:=Yo t _ b _ _ v.cells _ g c j d E
    refine .here h.st (v := .agg cs') ?_ (.agg u.1 J u.2)
    have D:=ZdJ (P:=P) (fun (f:Field)=>(do pure (f.offset,←sizeOf f.type):Sem (Nat × Nat))) (fun f=>(f.offset,P.cellsOf f.type)) fs (fun f E w=>by simp [Y f E]) w
    simp only [Instr.build,zeroValue,typeInfo,Sem.run_bind,run_program,Result.andThen_ok,Q,hv,Sem.run_pure,run_underlying hu,D,G]
   ·cases hpp
  | none =>
   cases ha:FU P t with
   | none=>simp [hpp,ha] at H
   | some p =>
    obtain ⟨m,s,ag⟩:=p
    obtain ⟨el,hu,N⟩:=R2 ha
    have b:∀ i o F,LN P t i=some (o,F)→(fun i=>some (i*s,s)) i=some (o,F):=by
     intro i o F r
     simpa [LN,hpp,ha] using r
    obtain ⟨cs',G,u,J⟩:=Yo t _ b _ _ v.cells _ g c j d E
    refine .here h.st (v := .agg cs') ?_ (.agg u.1 J u.2)
    simp only [Instr.build,zeroValue,typeInfo,Sem.run_bind,run_program,Result.andThen_ok,Q,hv,Sem.run_pure,run_underlying hu,Bt N,G]
theorem UG (sz:Nat):∀ (vals:List Value) (k:Nat) (cs:Array Value),(∀ v∈vals,v.cells.size=sz)→(k+vals.length)*sz≤cs.size →
  ∃ cs',Instr.fill (fun i=>some (i*sz,sz)) cs ((vals.zipIdx k).map fun x=>(x.2,x.1))=some cs'∧cs'.size=cs.size∧(∀ j,j<k*sz→cs'[j]? = cs[j]?) ∧
   ∀ i v,vals[i]? = some v→∀ j,j<sz→cs'[(k+i)*sz+j]? = v.cells[j]?
 | [],k,cs,_,_=>⟨cs,rfl,rfl,fun _ _=>rfl,fun i v h=>by simp at h⟩
 | v::vals,k,cs,hv,hl=>by
  have g:=hv v (by simp)
  simp only [List.length_cons] at hl
  have d:(k+1)*sz≤cs.size:=Nat.le_trans (Nat.mul_le_mul_right _ (by omega)) hl
  rw [Nat.succ_mul] at d
  simp only [List.zipIdx_cons,List.map_cons,Instr.fill]
  have f:(decide (v.cells.size≠sz)||decide (k*sz+v.cells.size > cs.size))=false:=by simp;omega
  simp only [f,Bool.false_eq_true,if_false]
  have b:(v.cells.zipIdx.foldl (fun cs (c,j)=>cs.setIfInBounds (k*sz+j) c) cs)=(v.cells.toList.zipIdx 0).foldl (fun cs (x:Value × Nat)=>cs.setIfInBounds (k*sz+x.2) x.1) cs:=by
   rw [←Array.foldl_toList]
   simp
  have a:=W2 v.cells.toList 0 cs (k*sz) (by simp;omega)
  rw [b]
  simp only [Nat.add_zero,Array.length_toList,g] at a
  obtain ⟨cs',a1,a2,a3,a4⟩:=UG sz vals (k+1) ((v.cells.toList.zipIdx 0).foldl (fun cs (x:Value × Nat)=>cs.setIfInBounds (k*sz+x.2) x.1) cs) (fun u hu=>hv u (by simp [hu])) (by rw [a.1];rw [show k+1+vals.length=k+(vals.length+1) from by omega];exact hl)
  refine ⟨cs',a1,by rw [a2,a.1],fun j e=>?_,fun i u hu j e=>?_⟩
  ·rw [a3 j (by rw [Nat.succ_mul];omega),a.2 j,Aa]
  ·cases i with
   | zero =>
    simp only [List.getElem?_cons_zero,Option.some.injEq] at hu
    subst hu
    simp only [Nat.add_zero]
    rw [a3 _ (by rw [Nat.succ_mul];omega),a.2,Ab,Array.getElem?_toList]
    congr 1
    omega
   | succ i =>
    have:=a4 i u (by simpa using hu) j e
    rw [←this,show k+(i+1)=k+1+i from by omega]
theorem Xs {ps:List (Nat × Operand)} {m:Nat} (h:ps.map (·.1)=List.range m) (f:Operand→Value) :
  (ps.map fun p=>(p.1,f p.2))=((ps.map fun p=>f p.2).zipIdx 0).map fun x=>(x.2,x.1):=by
 have a:ps.length=m:=by simpa using congrArg List.length h
 apply List.ext_getElem?
 intro i
 simp only [List.getElem?_map,List.getElem?_zipIdx]
 cases hp:ps[i]? with
 | none=>simp
 | some p =>
  have b:i<m:=by rw [←a];exact (Ak.1 hp).1
  have:=congrArg (·[i]?) h
  simp [hp,b] at this
  simp [this]
theorem R.row {cs:Array Value} {ty:TypeId} {xs:List AV} {sz k:Nat} (us:Nat→Value) (hu:∀ i (hi:i<xs.length),(us i).cells.size=sz∧R w0 M w (us i) xs[i])
  (hc:∀ i,i<xs.length→∀ j,j<sz→cs[i*sz+j]? = (us i).cells[j]?) {cap:Nat} (hcap:xs.length≤cap) (hm:cap≤maxLen) {o:Own} (hk:xs.length*sz≤k) (M':Mem) (hM:M'.top w.heap.size=k)
  (hx:Ext w0 M w M' (w.alloc (.cells cs ty))) (ho:ZfM M' w.heap.size 0 cap xs.length sz o) :
  R w0 M' (w.alloc (.cells cs ty)) (.slice (some ⟨w.heap.size,0,none⟩) xs.length cap) (.list xs o):=by
 refine .list sz us hcap hm (fun i hi=>⟨(hu i hi).1,fun j a=>⟨.inr ?_,?_⟩⟩) (fun i hi=>((hu i hi).2).mono hx) ho
 ·rw [hM]
  have:(i+1)*sz≤xs.length*sz:=Nat.mul_le_mul_right _ hi
  rw [Nat.succ_mul] at this
  omega
 ·rw [Nat.zero_add,World.cell?_alloc_new]
  exact hc i hi j a
theorem Wp (h:Rel w0 n M e st a w) (t:TypeId) (m:Nat) (ps:Array (Nat × Operand)) (hmk:JM e t=false) (hob:(A4 P e true st (.buildSlice t m ps)).1) :
  Yields' P w0 M (A4 P e true st (.buildSlice t m ps)).2.2 (A4 P e true st (.buildSlice t m ps)).2.1 w (do pure (.value (← Instr.buildSlice t m (ps.map fun (i,x)=>(i,a.eval x))))):=by
 unfold A4 at hob ⊢
 cases he:Mc P t with
 | none=>simp [he] at hob
 | some p =>
  obtain ⟨G,sz,Z,U⟩:=p
  simp only [he,hmk] at hob ⊢
  obtain ⟨s,J,K,l,Q,F⟩:=hob
  obtain ⟨i,hu,hi,_,q⟩:=Gm he
  obtain ⟨z,E⟩:=Option.isSome_iff_exists.1 Q
  obtain ⟨i',v,D,hv,hc,hs,rfl⟩:=Ey E
  have O:ps.toList.length=m:=by simpa using congrArg List.length J
  have c:∀ p∈ps.toList,(a.eval p.2).cells.size=sz:=fun p y=>by
   rw [(A5 h (s p y)).cells.1]
   exact F _ (List.mem_map.2 ⟨p,y,rfl⟩)
  obtain ⟨zc,hzc⟩:∃ zc:Array Value,if m*sz=0 then zc = #[] else zc=v.cells:=by
   by_cases h0:m*sz=0
   ·exact ⟨#[],by rw [Ai h0]⟩
   ·exact ⟨v.cells,by rw [Aj h0]⟩
  obtain ⟨cs',a1,a2,a3,a4⟩:=UG sz (ps.toList.map fun p=>a.eval p.2) 0 ((Array.range (m*sz)).map (zc[· % zc.size]!)) (fun u hu=>by obtain ⟨p,y,rfl⟩:=List.mem_map.1 hu;exact c p y) (by simp [O])
  obtain ⟨g,H⟩:=h.st.newTop cs' G (m*sz)
  have b:((ps.toList.map fun p=>AC e p.2).map AV.pub).length=m:=by simp [←O]
  have f:=R.row (us:=fun i=>((ps.toList.map fun p=>a.eval p.2).getD i undef)) (xs:=(ps.toList.map fun p=>AC e p.2).map AV.pub) (cs:=cs') (ty:=G) (sz:=sz) (k:=m*sz) (cap:=m) (o := .full) ?hu ?hc (by rw [b];exact Nat.le_refl _) ?hm (by rw [b];exact Nat.le_refl _) (M.newTop w.heap.size (m*sz)) (by simp [Mem.newTop]) H b
  case hu =>
   intro k C
   have d:k<ps.toList.length:=by simpa using C
   have V:(ps.toList.map fun p=>a.eval p.2).getD k undef=a.eval (ps.toList[k]).2:=by simp [List.getD,List.getElem?_eq_getElem d]
   rw [V]
   refine ⟨c _ (List.getElem_mem _),?_⟩
   simp only [List.getElem_map]
   exact (A5 h (s _ (List.getElem_mem _))).pub
  case hc =>
   intro k C j Y
   have d:k<ps.toList.length:=by simpa using C
   have:=a4 k (a.eval (ps.toList[k]).2) (by simp [List.getElem?_eq_getElem d]) j Y
   rw [Nat.zero_add] at this
   rw [this]
   simp [List.getD,List.getElem?_eq_getElem d]
  case hm =>
   have:m*1≤m*sz:=Nat.mul_le_mul_left _ l
   simp [maxLen]
   omega
  rw [b] at f
  refine .value ⟨_,_,_,?_,H,g,f⟩
  have N:¬ (m*sz > 2 ^ 24):=by omega
  have r:(ps.map fun (i,x)=>(i,a.eval x)).toList=((ps.toList.map fun p=>a.eval p.2).zipIdx 0).map fun x=>(x.2,x.1):=by
   rw [Array.toList_map]
   exact Xs J a.eval
  by_cases h0:m*sz=0
  ·rw [Ai h0] at hzc
   subst hzc
   simp only [Instr.buildSlice,Sem.run_bind,run_underlying hu,Result.andThen_ok,Bt q,Aj N,Ai h0,Sem.run_pure,r,a1,newRow,run_newObj]
   rfl
  ·rw [Aj h0] at hzc
   subst hzc
   simp only [Instr.buildSlice,Sem.run_bind,run_underlying hu,Result.andThen_ok,Bt q,Aj N,Aj h0,Sem.run_pure,zeroValue,typeInfo,run_program,D,hv,r,a1,newRow,run_newObj]
   rfl
theorem Below.setRow {B:Nat} {x y:World} (h:Below B x y) {g:Nat} (hg:B≤g) (cs:Array Value):Below B x (y.setRow g cs) :=
 h.trans ⟨rfl,rfl,rfl,by simp,fun k a=>setRow_other y g k cs (by omega)⟩
theorem KeepsObj.setRow {g:Nat} {c:Array Value} {ty:TypeId} (hg:w.heap[g]? = some (.cells c ty (0,0))) (c':Array Value):KeepsObj w (w.setRow g c'):=by
 intro b o h1 h2
 by_cases q:b=g
 ·subst q;rw [hg] at h1;cases h1;cases h2
 ·rw [setRow_other w g b c' q];exact h1
theorem LI (M':Mem) (hN:M'.N=M.N) (hb:∀ l,l<M.N→M'.bx l=M.bx l) (hNR:M'.NR=M.NR)
  (hr:∀ id,id<M.NR→M.fr id≤M'.fr id∧(M'.fr id=M.fr id→M'.blk id=M.blk id∧M'.cap id=M.cap id∧M'.rsz id=M.rsz id)) (ht:∀ b,M.top b≤M'.top b)
  {g:Nat} {c c':Array Value} {ty:TypeId} (hg:w.heap[g]? = some (.cells c ty (0,0))) (hg0:w0.heap.size≤g) (hkeep:∀ j,j<M.top g→c'[j]? = c[j]?) (hNL:M'.NL=M.NL:=by rfl) (hlb:M'.lb=M.lb:=by rfl) :
  Ext w0 M w M' (w.setRow g c') :=
 ⟨by omega,hb,by omega,hr,fun b a v e d=>by
  refine ⟨?_,e.imp id (fun q=>Nat.lt_of_lt_of_le q (ht b))⟩
  by_cases hbg:b=g
  ·subst hbg
   have h:a<M.top b:=e.resolve_left (by omega)
   rw [cell_of_row w b a c ty _ hg] at d
   rw [cell_of_row _ b a c' ty _ (setRow_heap w b c c' ty _ hg),hkeep a h]
   exact d
  ·rw [cell_setRow_other w g c' ⟨b,a,none⟩ hbg]
   exact d,by simp,by omega,fun _ _=>by rw [hlb],fun _ _ _=>by omega,fun b o f i _=>KeepsObj.setRow hg c' b o f i⟩
theorem ZfE (h:Rel w0 n M e st a w) (t:TypeId) (x v:Operand) (hob:(A4 P e true st (.store t x v)).1) :
  Yields' P w0 M (A4 P e true st (.store t x v)).2.2 (A4 P e true st (.store t x v)).2.1 w (do Instr.storeAt t (a.eval x) (a.eval v);pure .skip):=by
 unfold A4 at hob ⊢
 cases ht:HY P t with
 | none=>simp [ht] at hob
 | some p =>
  obtain ⟨sz,ag⟩:=p
  simp only [ht] at hob ⊢
  obtain ⟨_,g,hv,hbx,hr,hn,hl,hle⟩:=hob
  have hRx:=A5 h g
  have m:=A5 h hv
  generalize AC e x=X at hRx hbx hr hle ⊢
  generalize a.eval x=vx at hRx ⊢
  cases X with
  | box l off =>
   cases hRx with
   | box hlN =>
    have ab:l<st.boxes.length:=by simpa [DW] using hr
    obtain ⟨cs,hcs⟩:∃ cs,st.boxes[l]? = some cs:=⟨_,List.getElem?_eq_getElem ab⟩
    have Y:st.boxes.getD l []=cs:=by simp [List.getD,hcs]
    obtain ⟨U,b2,c,J,F,b4,b5,b6⟩:=h.st.box l cs hcs
    simp only [Bi,EF,Y] at hle
    simp only [We,Y]
    obtain ⟨v1,v2⟩:=m.cells
    have v3:=m.cellsOne (fun vs e=>by rw [e] at hn;cases hn)
    have s:∀ u∈(a.eval v).cells.toList,u.oneCell'=true:=by
     intro u hu
     obtain ⟨k,G,rfl⟩:=List.getElem_of_mem hu
     simp only [Array.length_toList] at G
     rw [Array.getElem_toList]
     exact (v2 k G (by omega)).oneCell (v3 _ (List.getElem_mem _))
    have hst:=run_storeCells_at P (M.bx l) off J (a.eval v).cells.toList 0 c w F (by simp;omega) s
    simp only [Nat.add_zero] at hst
    generalize hc':(c.toList.take off++(a.eval v).cells.toList++c.toList.drop (off+(a.eval v).cells.toList.length)).toArray=c' at hst
    have o:c'.size=c.size:=by rw [←hc'];simp;omega
    have r:∀ j,c'[j]? = if off≤j∧j<off+(a.eval v).cells.toList.length then (a.eval v).cells.toList[j-off]? else c[j]? := by
     intro j
     rw [←hc',List.getElem?_toArray,List.append_assoc,List.getElem?_append]
     simp only [List.length_take,Array.length_toList]
     have e:min off c.size=off:=by omega
     rw [e]
     by_cases c1:j<off
     ·rw [Ai c1,Aa,List.getElem?_take,Ai c1,Array.getElem?_toList]
     ·rw [Aj c1,List.getElem?_append]
      simp only [Array.length_toList]
      by_cases c2:j-off<(a.eval v).cells.size
      ·rw [Ai c2,Ab]
      ·rw [Aj c2,Aa,List.getElem?_drop,Array.getElem?_toList]
       congr 1
       omega
    have g:Ext w0 M w M (w.setRow (M.bx l) c'):=LI M rfl (fun _ _=>rfl) rfl (fun _ _=>⟨Nat.le_refl _,fun _=>⟨rfl,rfl,rfl⟩⟩) (fun _=>Nat.le_refl _) F U (fun j hj=>by rw [b2] at hj;omega)
    have f:RowR w0 M w c' (CN cs off (AC e v).cells):=RowR.put ⟨b4,b6⟩ m (by omega) o r
    refine ⟨undef,_,M,.inr ⟨?_,rfl⟩,g,⟨Below.setRow h.st.below U _,by simp [h.st.N],h.st.NR,fun b hb=>h.st.top b (by simpa using hb),h.st.inj,fun D cs' hl'=>?_,fun id x z=>(h.st.row id x z).keep g rfl rfl rfl rfl rfl (h.st.row id x z).ne (setRow_other w _ _ _ (Ne.symm ((h.st.row id x z).ne l hlN))),h.st.rowinj,h.st.loop.mono g rfl (KeepsObj.setRow F _)⟩,Ut⟩
    ·have e0:¬ ((a.eval v).cells.size≠sz):=by omega
     simp only [Instr.storeAt,Instr.sureAddr,Sem.run_bind,Sem.run_pure,Result.andThen_ok,storeVar,Bt ht,Aj e0,hst]
    ·by_cases ell:D=l
     ·subst ell
      rw [List.getElem?_set_self ab] at hl'
      cases hl'
      exact ⟨U,b2,c',J,setRow_heap w _ c c' J _ F,f.1,Qo b5 v3,fun i O E=>(f.2 i O E).mono g⟩
     ·rw [List.getElem?_set_ne (Ne.symm ell)] at hl'
      obtain ⟨d1,d2,d,K,d3,d4,d5,d6⟩:=h.st.box D cs' hl'
      have C:D<M.N:=by rw [h.st.N];exact (Ak.1 hl').1
      have V:M.bx D≠M.bx l:=fun q=>ell (h.st.inj D l C hlN q)
      exact ⟨d1,d2,d,K,by rw [setRow_other w _ _ _ V];exact d3,d4,d5,fun i O E=>(d6 i O E).mono g⟩
  | vel id ver off =>
   cases hRx with
   | @vel _ _ _ ad z hver hh =>
    obtain ⟨af,cs,H⟩:=RY (show (C4 st.rows id ver).isSome=true from hr)
    have f:=DO H
    obtain ⟨f1,f2,U,b2,f5,f6,f7,c,J,F,b4,ai,b5,b6⟩:=h.st.row id _ f
    have had:=hh f1.symm
    subst had
    simp only [Bi,EF,H] at hle
    simp only [We,H]
    obtain ⟨v1,v2⟩:=m.cells
    have v3:=m.cellsOne (fun vs e=>by rw [e] at hn;cases hn)
    have s:∀ u∈(a.eval v).cells.toList,u.oneCell'=true:=by
     intro u hu
     obtain ⟨k,G,rfl⟩:=List.getElem_of_mem hu
     simp only [Array.length_toList] at G
     rw [Array.getElem_toList]
     exact (v2 k G (by omega)).oneCell (v3 _ (List.getElem_mem _))
    have hst:=run_storeCells_at P (M.blk id) off J (a.eval v).cells.toList 0 c w F (by simp;omega) s
    simp only [Nat.add_zero] at hst
    generalize hc':(c.toList.take off++(a.eval v).cells.toList++c.toList.drop (off+(a.eval v).cells.toList.length)).toArray=c' at hst
    have o:c'.size=c.size:=by rw [←hc'];simp;omega
    have r:∀ j,c'[j]? = if off≤j∧j<off+(a.eval v).cells.toList.length then (a.eval v).cells.toList[j-off]? else c[j]? := by
     intro j
     rw [←hc',List.getElem?_toArray,List.append_assoc,List.getElem?_append]
     simp only [List.length_take,Array.length_toList]
     have e:min off c.size=off:=by omega
     rw [e]
     by_cases c1:j<off
     ·rw [Ai c1,Aa,List.getElem?_take,Ai c1,Array.getElem?_toList]
     ·rw [Aj c1,List.getElem?_append]
      simp only [Array.length_toList]
      by_cases c2:j-off<(a.eval v).cells.size
      ·rw [Ai c2,Ab]
      ·rw [Aj c2,Aa,List.getElem?_drop,Array.getElem?_toList]
       congr 1
       omega
    have g:Ext w0 M w M (w.setRow (M.blk id) c'):=LI M rfl (fun _ _=>rfl) rfl (fun _ _=>⟨Nat.le_refl _,fun _=>⟨rfl,rfl,rfl⟩⟩) (fun _=>Nat.le_refl _) F U (fun j hj=>by rw [b2] at hj;omega)
    have aa:id<st.rows.length:=(Ak.1 f).1
    have ah:=M6 (l:=cs) (xs:=(AC e v).cells) (off:=off) (by omega)
    refine ⟨undef,_,M,.inr ⟨?_,rfl⟩,g,⟨Below.setRow h.st.below U _,h.st.N,by simp [h.st.NR],fun b hb=>h.st.top b (by simpa using hb),h.st.inj,fun D cs' hl'=>?_,fun y x hid'=>?_,h.st.rowinj,h.st.loop.mono g rfl (KeepsObj.setRow F _)⟩,Ut⟩
    ·have e0:¬ ((a.eval v).cells.size≠sz):=by omega
     simp only [Instr.storeAt,Instr.sureAddr,Sem.run_bind,Sem.run_pure,Result.andThen_ok,storeVar,Bt ht,Aj e0,hst]
    ·obtain ⟨d1,d2,d,K,d3,d4,d5,d6⟩:=h.st.box D cs' hl'
     have C:D<M.N:=by rw [h.st.N];exact (Ak.1 hl').1
     exact ⟨d1,d2,d,K,by rw [setRow_other w _ _ _ (f5 D C)];exact d3,d4,d5,fun i O E=>(d6 i O E).mono g⟩
    ·by_cases ell:y=id
     ·subst ell
      rw [List.getElem?_set_self aa] at hid'
      cases hid'
      refine ⟨f1,f2,U,b2,f5,f6,f7,c',J,setRow_heap w _ c c' J _ F,o.trans b4,by omega,Qo b5 v3,fun i O E=>?_⟩
      have Z:RowR w0 M w (c'.extract 0 cs.length) (CN cs off (AC e v).cells):=by
       have ae:RowR w0 M w (c.extract 0 cs.length) cs:=⟨by simp;omega,fun i O E=>by rw [Array.getElem_extract];simp only [Nat.zero_add];exact b6 i (by omega) E⟩
       refine RowR.put ae m (by omega) (by simp;omega) (fun j=>?_)
       simp only [Array.getElem?_extract,Nat.zero_add,r]
       by_cases q1:j<min cs.length c'.size
       ·rw [Ab]
        by_cases q2:off≤j∧j<off+(a.eval v).cells.toList.length
        ·rw [Ai q2,Ai q2]
        ·rw [Aj q2,Aj q2,Ab]
       ·rw [Aa,Aj (by simp;omega),Aa]
      have h3:i<(c'.extract 0 cs.length).size:=by simp;omega
      have:=(Z.2 i h3 E).mono g
      rw [Array.getElem_extract] at this
      simpa using this
     ·rw [List.getElem?_set_ne (Ne.symm ell)] at hid'
      have G:=h.st.row y x hid'
      have Q:y<M.NR:=by rw [h.st.NR];exact (Ak.1 hid').1
      have V:M.blk y≠M.blk id:=fun q=>ell (h.st.rowinj y id Q z q)
      exact G.keep g rfl rfl rfl rfl rfl G.ne (setRow_other w _ _ _ V)
  | _=>cases hbx
end
section
variable {P:Program} {w0:World} {n:Nat} {M:Mem} {e:Env} {st:St} {a:Act} {w:World}
theorem R.same {M:Mem} {w w':World} (hs:∀ (b off:Nat) (v:Value),w.cell? ⟨b,off,none⟩=some v→w'.cell? ⟨b,off,none⟩=some v) {v:Value} {x:AV} (h:R w0 M w v x):R w0 M w' v x:=by
 induction h with
 | flat h=>exact .flat h
 | agg hl h1 _ ih=>exact .agg hl h1 ih
 | tup hl _ ih=>exact .tup hl ih
 | nil ho=>exact .nil ho
 | emp ho=>exact .emp ho
 | @list b off cap xs o sz us hc hm hcell _ ho ih =>
  refine .list sz us hc hm (fun i a=>⟨(hcell i a).1,fun j c=>⟨((hcell i a).2 j c).1,?_⟩⟩) ih ho
  obtain ⟨v,hv⟩:=PC (u:=us i) (j:=j) (by rw [(hcell i a).1];exact c)
  exact (hs _ _ _ ((((hcell i a).2 j c).2).trans hv)).trans hv.symm
 | @elem b off x u k hcell _ ih =>
  refine .elem u k (fun j c=>⟨(hcell j c).1,?_⟩) ih
  obtain ⟨v,hv⟩:=PC (u:=u) (j:=j) c
  exact (hs _ _ _ ((hcell j c).2.trans hv)).trans hv.symm
 | box hl=>exact .box hl
 | clo hl _ ih=>exact .clo hl ih
 | yld hk=>exact .yld hk
 | mp hk=>exact .mp hk
 | vec a hv h=>exact .vec a hv h
 | vel a hv h=>exact .vel a hv h
theorem MK {w:World} {D:Nat} {o o':Obj} (hD:w.heap[D]? = some o) (ho:o.isCells=false) {b off:Nat} {v:Value} (h:w.cell? ⟨b,off,none⟩=some v):(w.putObj D o').cell? ⟨b,off,none⟩=some v:=by
 by_cases c:b=D
 ·subst c
  unfold World.cell? at h
  simp only [hD] at h
  cases o with
  | cells c ty fz=>simp [Obj.isCells] at ho
  | _=>simp at h
 ·unfold World.cell? at h ⊢
  simp only [World.putObj_heap_other c] at h ⊢
  exact h
theorem entryOk.same {M:Mem} {w w':World} (hs:∀ (b off:Nat) (v:Value),w.cell? ⟨b,off,none⟩=some v→w'.cell? ⟨b,off,none⟩=some v) {v:Value} {x:Bool × AV} (h:entryOk w0 M w v x):entryOk w0 M w' v x:=by
 unfold entryOk at *
 split
 ·rename_i c;rw [Ai c] at h;exact h.same hs
 ·rename_i c;rw [Aj c] at h;exact h
theorem RowOk.same {M:Mem} {w w':World} {id:Nat} {x:RowA} (h:RowOk w0 M w id x) (hs:∀ (b off:Nat) (v:Value),w.cell? ⟨b,off,none⟩=some v→w'.cell? ⟨b,off,none⟩=some v)
  (hc:∀ {b:Nat} {c:Array Value} {ty:TypeId},w.heap[b]? = some (.cells c ty (0,0))→w'.heap[b]? = some (.cells c ty (0,0))) (hz:w.heap.size≤w'.heap.size):RowOk w0 M w' id x:=by
 cases x with
 | grow n sz =>
  obtain ⟨a1,a2,a3,a4,a5,a6,a7,c,ty,d,a⟩:=h
  exact ⟨a1,a2,a3,a4,a5,a6,a7,c,ty,hc d,a⟩
 | vec v sz cs =>
  obtain ⟨a1,a2,a3,a4,a5,a6,a7,c,ty,d,a,g,k,f⟩:=h
  exact ⟨a1,a2,a3,a4,a5,a6,a7,c,ty,hc d,a,g,k,fun i e j=>(f i e j).same hs⟩
 | dead v =>
  obtain ⟨a1,a2,a3,a4⟩:=h
  exact ⟨a1,a2,a3,Nat.lt_of_lt_of_le a4 hz⟩
theorem Below.putObj {B D:Nat} {x y:World} (h:Below B x y) (hD:B≤D) (o:Obj):Below B x (y.putObj D o) :=
 h.trans ⟨rfl,rfl,rfl,by simp,fun k a=>World.putObj_heap_other (by omega)⟩
theorem RelSt.putObj {M:Mem} {w:World} (h:RelSt w0 M st w) {D:Nat} {o:Obj} (o':Obj) (hD:w.heap[D]? = some o) (ho:o.isCells=false) (h0:w0.heap.size≤D) (hl:∀ k,k<M.NL→M.lb k≠D):RelSt w0 M st (w.putObj D o'):=by
 have hs:∀ (b a:Nat) (v:Value),w.cell? ⟨b,a,none⟩=some v→(w.putObj D o').cell? ⟨b,a,none⟩=some v:=fun b a v=>MK hD ho
 have m:∀ {b:Nat} {c:Array Value} {d:TypeId},w.heap[b]? = some (.cells c d (0,0))→(w.putObj D o').heap[b]? = some (.cells c d (0,0)):=by
  intro b c d hb
  rw [World.putObj_heap_other (fun e=>by subst e;rw [hD] at hb;cases hb;cases ho)]
  exact hb
 refine ⟨Below.putObj h.below h0 _,h.N,h.NR,fun b hb=>h.top b (by simpa using hb),h.inj,fun l cs g=>?_,fun id x f=>(h.row id x f).same hs m (by simp),h.rowinj,⟨h.loop.NL,h.loop.inj,fun k r f=>?_⟩⟩
 ·obtain ⟨a1,a2,c,d,a3,a4,a5,a6⟩:=h.box l cs g
  exact ⟨a1,a2,c,d,m a3,a4,a5,fun i p t=>(a6 i p t).same hs⟩
 ·have j:k<M.NL:=by rw [h.loop.NL];exact (Ak.1 f).1
  obtain ⟨a1,a2⟩:=h.loop.record k r f
  exact ⟨a1,a2.map (fun o q _=>by rw [World.putObj_heap_other (hl k j)];exact q) fun s x v _ n=>n.same hs⟩
def Mem.newMap (M:Mem) (b:Nat):Mem:={ M with NL:=M.NL+1,lb:=fun k=>if k=M.NL then b else M.lb k }
theorem RelSt.newMap (h:RelSt w0 M st w) :
  RelSt w0 (M.newMap w.heap.size) { st with loops:=st.loops++[RS []] } (w.alloc (.map #[] 0))∧Ext w0 M w (M.newMap w.heap.size) (w.alloc (.map #[] 0)):=by
 have e:KeepsObj w (w.alloc (.map #[] 0)):=KeepsObj.alloc _ _
 have m:∀ (b f:Nat) (v:Value),w.cell? ⟨b,f,none⟩=some v→(w.alloc (.map #[] 0)).cell? ⟨b,f,none⟩=some v:=by
  intro b f v hv
  rw [World.cell?_alloc_lt _ _ _ (World.block_lt_of_cell? w _ hv)]
  exact hv
 have d:∀ k,k<M.NL→(M.newMap w.heap.size).lb k=M.lb k:=fun k hk=>by simp [Mem.newMap];omega
 have a:(M.newMap w.heap.size).lb M.NL=w.heap.size:=by simp [Mem.newMap]
 have t:Ext w0 M w (M.newMap w.heap.size) (w.alloc (.map #[] 0)) :=
  ⟨Nat.le_refl _,fun _ _=>rfl,Nat.le_refl _,fun _ _=>⟨Nat.le_refl _,fun _=>⟨rfl,rfl,rfl⟩⟩,fun b f v u p=>⟨m b f v p,u⟩,by simp,Nat.le_succ _,d,fun k u p=>by
   have:k=M.NL:=by simp only [Mem.newMap] at p;omega
   rw [this,a];exact Nat.le_refl _,fun b o u p _=>e b o u p⟩
 have C:∀ {b:Nat},b<w.heap.size→(w.alloc (.map #[] 0)).heap[b]? = w.heap[b]? := fun {b} y=>Bq _ _ y
 have r:∀ j,j<M.NL→M.lb j<w.heap.size:=fun j J=>(h.loop.record j _ (List.getElem?_eq_getElem (by rw [←h.loop.NL];exact J))).2.lt
 refine ⟨⟨h.below.alloc h.base_le _,h.N,h.NR,fun b y=>h.top b (by simp at y;omega),h.inj,fun l cs G=>?_,fun id x z=>(h.row id x z).keep t rfl rfl rfl rfl rfl (h.row id x z).ne (C (h.row id x z).lt),h.rowinj,
  ⟨by simp [Mem.newMap,h.loop.NL],fun k n hk g q=>?_,fun k K hk=>?_⟩⟩,t⟩
 ·obtain ⟨a1,a2,c,E,a3,a4,a5,a6⟩:=h.box l cs G
  exact ⟨a1,a2,c,E,by rw [show (M.newMap w.heap.size).bx l=M.bx l from rfl,C (Array.getElem?_eq_some_iff.1 a3).1];exact a3,a4,a5,fun i H D=>(a6 i H D).mono t⟩
 ·simp only [Mem.newMap] at hk g
  by_cases c:k=M.NL
  ·by_cases c':n=M.NL
   ·omega
   ·subst c
    rw [a,d n (by omega)] at q
    have:=r n (by omega)
    omega
  ·by_cases c':n=M.NL
   ·subst c'
    rw [a,d k (by omega)] at q
    have:=r k (by omega)
    omega
   ·rw [d k (by omega),d n (by omega)] at q
    exact h.loop.inj k n (by omega) (by omega) q
 ·by_cases c:k=st.loops.length
  ·subst c
   simp only [List.getElem?_concat_length,Option.some.injEq] at hk
   subst hk
   rw [←h.loop.NL,a]
   exact ⟨h.base_le,rfl,#[],0,World.alloc_heap_new w _,rfl,by simp,.nil⟩
  ·have g:k<st.loops.length:=by
    have:=(Ak.1 hk).1
    simp at this;omega
   simp only at hk
   rw [List.getElem?_append_left g] at hk
   obtain ⟨a1,a2⟩:=h.loop.record k K hk
   rw [d k (by rw [h.loop.NL];exact g)]
   exact ⟨a1,a2.map (fun o q1 q2=>e _ _ q1 q2) fun s x v _ F=>F.mono t⟩
theorem RelSt.setMap (h:RelSt w0 M st w) {k:Nat} {la:LoopA} (hk:st.loops[k]? = some la) {ks':List ByteArray} {es es':Array MapEntry} {ck ck':Nat} (hr:w.heap[M.lb k]? = some (.map es ck))
  (h1:es'.toList.map (·.key)=ks'.map Value.string) (h2:∀ e∈es'.toList,e.val = .agg #[]) (h3:ks'.Nodup) :
  RelSt w0 M { st with loops:=st.loops.set k (RS ks') } (w.putObj (M.lb k) (.map es' ck'))∧Ext w0 M w M (w.putObj (M.lb k) (.map es' ck')):=by
 have d:k<st.loops.length:=(Ak.1 hk).1
 have f:k<M.NL:=by rw [h.loop.NL];exact d
 have n:M.lb k<w.heap.size:=(Array.getElem?_eq_some_iff.1 hr).1
 obtain ⟨g0,_⟩:=h.loop.record k la hk
 have hs:∀ (b a:Nat) (v:Value),w.cell? ⟨b,a,none⟩=some v→(w.putObj (M.lb k) (.map es' ck')).cell? ⟨b,a,none⟩=some v:=fun b a v=>MK hr rfl
 have r:∀ {b:Nat} {c:Array Value} {g:TypeId},w.heap[b]? = some (.cells c g (0,0))→(w.putObj (M.lb k) (.map es' ck')).heap[b]? = some (.cells c g (0,0)):=by
  intro b c g hb
  rw [World.putObj_heap_other (fun e=>by subst e;rw [hr] at hb;cases hb)]
  exact hb
 refine ⟨⟨Below.putObj h.below g0 _,h.N,h.NR,fun b hb=>h.top b (by simpa using hb),h.inj,fun l cs p=>?_,fun id x C=>(h.row id x C).same hs r (by simp),h.rowinj,⟨by simp [h.loop.NL],h.loop.inj,fun j u hj=>?_⟩⟩,
  ⟨Nat.le_refl _,fun _ _=>rfl,Nat.le_refl _,fun _ _=>⟨Nat.le_refl _,fun _=>⟨rfl,rfl,rfl⟩⟩,fun b a v h1 h2=>⟨hs b a v h2,h1⟩,by simp,Nat.le_refl _,fun _ _=>rfl,fun _ _ _=>by omega,fun b o h1 _ h3=>?_⟩⟩
 ·obtain ⟨a1,a2,c,g,a3,a4,a5,a6⟩:=h.box l cs p
  exact ⟨a1,a2,c,g,r a3,a4,a5,fun i y D=>(a6 i y D).same hs⟩
 ·by_cases q:j=k
  ·subst q
   simp only at hj
   rw [List.getElem?_set_self d] at hj
   cases hj
   exact ⟨g0,rfl,es',ck',World.putObj_heap_same n,h1,h2,h3⟩
  ·simp only at hj
   rw [List.getElem?_set_ne (Ne.symm q)] at hj
   have m:j<M.NL:=by rw [h.loop.NL];exact (Ak.1 hj).1
   obtain ⟨a1,a2⟩:=h.loop.record j u hj
   exact ⟨a1,a2.map (fun o z _=>by rw [World.putObj_heap_other (fun e=>q (h.loop.inj j k m f e))];exact z) fun s x v _ t=>t.same hs⟩
 ·rw [World.putObj_heap_other (fun e=>h3 k f e.symm)]
  exact h1
theorem ZeE {v:Value} {k:Nat} (h:R w0 M w v (.mp k)):v = .map (some (M.lb k))∧k<M.NL:=by cases h;exact ⟨rfl,‹_›⟩
theorem Zd0 {v:Value} (h:R w0 M w v (.agg [])):v = .agg #[]:=by
 cases h with
 | agg hl _ _=>rw [Array.eq_empty_of_size_eq_zero hl]
theorem XD {t:TypeId} (h:Zht P t=true):∃ kt et,P.underlying t=some (.map kt et)∧P.underlying kt=some .string∧Br P et=some []:=by
 unfold Zht at h
 split at h
 ·rename_i kt et hu
  simp only [Bool.and_eq_true] at h
  obtain ⟨h1,h2⟩:=h
  refine ⟨kt,et,hu,?_,?_⟩
  ·unfold EK at h1
   split at h1
   ·assumption
   ·cases h1
  ·split at h2
   ·assumption
   ·cases h2
 ·cases h
theorem ZV {ks:List ByteArray} {es:Array MapEntry} (he:es.toList.map (·.key)=ks.map Value.string) (hv:∀ e∈es.toList,e.val = .agg #[]) (s:ByteArray) :
  (Instr.findNow .string (.string s) es.toList 0=some none∧(∀ x∈es.toList,x.key ≠ .string s)∧s ∉ ks)∨∃ j e,Instr.findNow .string (.string s) es.toList 0=some (some (j,.agg #[]))∧es[j]? = some e∧e.key = .string s∧s∈ks:=by
 have f:∀ x∈es.toList,MapKept.IsKey .string x.key:=fun x c=>by
  have:x.key∈ks.map Value.string:=by rw [←he];exact List.mem_map_of_mem c
  obtain ⟨y,_,b⟩:=List.mem_map.1 this
  rw [←b];trivial
 rcases MapKept.findNow_spec (d := .string) (k := .string s) trivial es.toList 0 f with ⟨h1,h2⟩ | ⟨j,e,h1,h2,h3⟩
 ·refine .inl ⟨h1,h2,fun g=>?_⟩
  have:Value.string s∈es.toList.map (·.key):=by rw [he];exact List.mem_map_of_mem g
  obtain ⟨x,c,q⟩:=List.mem_map.1 this
  exact h2 x c q
 ·have a:e∈es.toList:=List.mem_of_getElem? h2
  refine .inr ⟨j,e,by rw [h1,hv e a,Nat.zero_add],by simpa using h2,h3,?_⟩
  have:Value.string s∈ks.map Value.string:=by rw [←he,←h3];exact List.mem_map_of_mem a
  obtain ⟨y,b,q⟩:=List.mem_map.1 this
  cases q
  exact b
theorem Q2 {ks:List ByteArray} {s:ByteArray}:QG ks s=true↔s∈ks:=by
 unfold QG
 rw [List.any_eq_true]
 constructor
 ·rintro ⟨x,a,q⟩
  have:x=s:=by
   obtain ⟨⟨x⟩⟩:=x
   obtain ⟨⟨s⟩⟩:=s
   simp only [Fv,beq_iff_eq] at q
   rw [show x=s from q]
  exact this▸a
 ·exact fun h=>⟨s,h,by simp [Fv]⟩
theorem Za1 (h:Rel w0 n M e st a w) (t:TypeId) (r:Option Operand) (hob:(A4 P e true st (.makeMap t r)).1) :
  Yields' P w0 M (A4 P e true st (.makeMap t r)).2.2 (A4 P e true st (.makeMap t r)).2.1 w (do pure (.value (← Instr.makeMap t (r.map a.eval)))):=by
 obtain ⟨_,d⟩:=hob
 obtain rfl:r=none:=Option.isNone_iff_eq_none.1 d
 obtain ⟨c,g⟩:=h.st.newMap
 refine ⟨.map (some w.heap.size),w.alloc (.map #[] 0),_,.inl rfl,g,c,?_⟩
 have b:=h.st.loop.NL
 have f:(M.newMap w.heap.size).lb st.loops.length=w.heap.size:=by simp [Mem.newMap,b]
 have:=R.mp (w0:=w0) (M:=M.newMap w.heap.size) (w:=w.alloc (.map #[] 0)) (k:=st.loops.length) (by simp [Mem.newMap,b])
 rw [f] at this
 exact this
theorem ZdF (h:Rel w0 n M e st a w) (t:TypeId) (m k:Operand) (ok:Bool) (hob:(A4 P e true st (.lookup t m k ok)).1) :
  Yields' P w0 M (A4 P e true st (.lookup t m k ok)).2.2 (A4 P e true st (.lookup t m k ok)).2.1 w (do pure (.value (← Instr.lookup t (a.eval m) (a.eval k) ok))):=by
 simp only [A4] at hob ⊢
 split at hob
 rotate_left
 ·exact hob.elim
 rename_i i s em ek
 cases hks:NJ st i with
 | none=>simp only [hks] at hob
 | some ks =>
  simp only [hks] at hob ⊢
  obtain ⟨f,E,z,rfl⟩:=hob
  obtain ⟨F,_⟩:=ZeE (em▸A5 h E)
  obtain ⟨H,_⟩:=(ek▸A5 h z:R w0 M w (a.eval k) (.val (.string s))).val_inv
  obtain ⟨K,g,l⟩:=S9 hks
  obtain ⟨g0,r⟩:=h.st.loop.record i K g
  unfold LoopOk at r
  rw [l] at r
  obtain ⟨_,O,Y,g1,g2,g3,g4⟩:=r
  obtain ⟨Z,U,x,c,D⟩:=XD f
  rw [F,H]
  have d:∀ u:World,R w0 M u (.agg #[]) (.agg []):=fun u => .agg rfl (by simp) (fun i o=>absurd o (by simp))
  have fin:∀ (b:Bool),R w0 M w (.tuple #[.agg #[],.bool b]) (.tup [.agg [],.val (.bool b)]):=fun b => .tup rfl fun i o C=>by
   match i,o,C with
   | 0,_,_=>exact d w
   | 1,_,_=>exact .flat rfl
  rcases ZV g2 g3 s with ⟨f1,_,f3⟩ | ⟨j,e',f1,_,_,f4⟩
  ·obtain ⟨V,v,J,y,G,Q,N⟩:=Ey D
   have hv:v = .agg #[]:=by
    have z6:v.cells.size=0:=by
     have:=(Oc (w0:=w0) (M:=M) (w:=w) G).cells.1
     rw [←N] at this;exact this
    cases v with
    | agg cs=>rw [Array.eq_empty_of_size_eq_zero (show cs.size=0 from z6)]
    | _=>cases z6
   have p:QG ks s=false:=Bool.eq_false_iff.2 fun q=>f3 (Q2.1 q)
   rw [p]
   refine ⟨_,w,M,.inl ?_,Ext.refl _ _ _,h.st,fin false⟩
   simp [Instr.lookup,run_underlying x,MapKept.run_getObj_map g1,MapKept.run_checkKey c (show MapKept.IsKey .string (.string s) from trivial),MapKept.run_findKey c f1,zeroValue,typeInfo,J,y,hv,Result.andThen]
  ·have p:QG ks s=true:=Q2.2 f4
   rw [p]
   refine ⟨_,w,M,.inl ?_,Ext.refl _ _ _,h.st,fin true⟩
   simp [Instr.lookup,run_underlying x,MapKept.run_getObj_map g1,MapKept.run_checkKey c (show MapKept.IsKey .string (.string s) from trivial),MapKept.run_findKey c f1,Result.andThen]
theorem Yv (h:Rel w0 n M e st a w) (t:TypeId) (m k v:Operand) (hob:(A4 P e true st (.mapUpdate t m k v)).1) :
  Yields' P w0 M (A4 P e true st (.mapUpdate t m k v)).2.2 (A4 P e true st (.mapUpdate t m k v)).2.1 w (do Instr.mapUpdate t (a.eval m) (a.eval k) (a.eval v);pure .skip):=by
 simp only [A4] at hob ⊢
 split at hob
 rotate_left
 ·exact hob.elim
 rename_i i s em ek ev
 cases hks:NJ st i with
 | none=>simp only [hks] at hob
 | some ks =>
  simp only [hks] at hob ⊢
  obtain ⟨_,o,N,H,hv⟩:=hob
  obtain ⟨O,_⟩:=ZeE (em▸A5 h N)
  obtain ⟨Q,_⟩:=(ek▸A5 h H:R w0 M w (a.eval k) (.val (.string s))).val_inv
  have K:=Zd0 (ev▸A5 h hv)
  obtain ⟨U,c,p⟩:=S9 hks
  obtain ⟨g0,F⟩:=h.st.loop.record i U c
  unfold LoopOk at F
  rw [p] at F
  obtain ⟨_,l,E,g1,g2,g3,g4⟩:=F
  obtain ⟨kt,Y,G,g,Z⟩:=XD o
  rw [O,Q,K]
  have r:MapKept.IsKey .string (.string s):=trivial
  rcases ZV g2 g3 s with ⟨f1,f2,f3⟩ | ⟨j,e',f1,f2,f3,f4⟩
  ·have C:QG ks s=false:=Bool.eq_false_iff.2 fun q=>f3 (Q2.1 q)
   have u:WB ks s=ks++[s]:=by unfold WB;rw [C];rfl
   rw [u]
   obtain ⟨z,D⟩:=h.st.setMap c g1 (es':=l.push { key := .string s,val := .agg #[],born:=E }) (ck':=E+1) (ks':=ks++[s]) (by simp [g2]) (fun e d=>by
    simp only [Array.toList_push,List.mem_append,List.mem_singleton] at d
    rcases d with d | rfl
    ·exact g3 e d
    ·rfl) (List.nodup_append.2 ⟨g4,by simp,fun x hx y hy q=>by rw [List.mem_singleton] at hy;subst hy;subst q;exact f3 hx⟩)
   refine ⟨undef,_,M,.inr ⟨?_,rfl⟩,D,z,Ut⟩
   simp [Instr.mapUpdate,run_underlying G,MapKept.run_getObj_map g1,MapKept.run_checkKey g r,MapKept.run_findKey g f1,MapKept.run_setObj_map _ g1,Result.andThen,World.putObj]
  ·have C:QG ks s=true:=Q2.2 f4
   have u:WB ks s=ks:=by unfold WB;rw [C];rfl
   rw [u]
   have f:∀ b,l[j]? = some b→({ b with key := .string s,val := .agg #[] }:MapEntry).key=b.key:=fun b he'=>by rw [f2] at he';cases he';exact f3.symm
   obtain ⟨z,D⟩:=h.st.setMap c g1 (es':=l.modify j fun e=>{ e with key := .string s,val := .agg #[] }) (ck':=E) (ks':=ks) (by rw [MapKept.modify_keys j _ f];exact g2) (fun e d=>by
    obtain ⟨V,J,rfl⟩:=List.mem_iff_getElem.1 d
    simp only [Array.getElem_toList,Array.getElem_modify]
    split
    ·rfl
    ·exact g3 _ (by simp)) g4
   refine ⟨undef,_,M,.inr ⟨?_,rfl⟩,D,z,Ut⟩
   simp [Instr.mapUpdate,run_underlying G,MapKept.run_getObj_map g1,MapKept.run_checkKey g r,MapKept.run_findKey g f1,f2,f3,MapKept.run_keyThatStays r,MapKept.run_setObj_map _ g1,Result.andThen,World.putObj]
theorem Zeu (h:Rel w0 n M e st a w) (x:Operand) (t ty:TypeId) {el sz by8:Nat} {ag:Bool} (he:Mc P t=some (el,sz,ag,by8)) {id ver o n' sz':Nat} {cs:List AV} (ex:AC e x = .vec id ver o n') (hvr:C4 st.rows id ver=some (sz',cs))
  (hx:AP e true x) (hs:sz'=sz) (hz:(Br P el).isSome=true) (hn:0<n') :
  Yields' P w0 M { st with rows:=st.rows.set id (.vec ver sz (cs.take (o*sz))) } (.tup []) w (do pure (.value (← Builtin.clear_ #[t] ty #[a.eval x]))):=by
 subst hs
 have hR:=ex▸A5 h hx
 generalize a.eval x=vx at hR ⊢
 obtain ⟨i,hu,hi,_,af⟩:=Gm he
 obtain ⟨zz,ab⟩:=Option.isSome_iff_exists.1 hz
 obtain ⟨i',z,H,ah,V,aa,_⟩:=Ey ab
 have s:=DO hvr
 obtain ⟨f1,f2,b1,b2,f5,f6,f7,c,v,b3,b4,ak,b5,b6⟩:=h.st.row id _ s
 cases hR with
 | @vec _ _ _ _ p cap hid hver hh =>
  obtain ⟨rfl,aj,am⟩:=hh f1.symm
  rw [f2]
  have ad:z.cells.size=sz':=by
   obtain ⟨i2,_,q1,q2,_⟩:=L8 af
   rw [aa]
   rw [H] at q1
   cases q1
   exact q2
  generalize hl:(Builtin.zeroCells z.cells n').toList=l
  have O:l.length=n'*sz':=by rw [←hl,←ad];simp [Builtin.zeroCells]
  have f:(o+n')*sz'≤c.size:=by rw [b4];exact Nat.mul_le_mul_right _ (by omega)
  have Q:∀ u∈l,u.oneCell'=true:=by
   intro u g
   rw [←hl] at g
   simp only [Builtin.zeroCells,Array.toList_map,List.mem_map,Array.mem_toList_iff,Array.mem_range] at g
   obtain ⟨j,D,rfl⟩:=g
   have C:j % z.cells.size<z.cells.size:=Nat.mod_lt _ (Nat.pos_of_ne_zero fun q=>by rw [q] at D;simp at D)
   rw [getElem!_pos z.cells _ C]
   have Z:=Oc (w0:=w0) (M:=M) (w:=w) V
   have ai:=Z.cellsOne (fun vs q=>by have:=Ly V;rw [q] at this;cases this)
   have:=Z.cells
   exact (this.2 _ C (by rw [←this.1];exact C)).oneCell (ai _ (List.getElem_mem _))
  have hst:=run_storeCells_at P (M.blk id) (o*sz') v l 0 c w b3 (by rw [O];rw [Nat.add_mul] at f;omega) Q
  simp only [Nat.add_zero] at hst
  generalize hc':(c.toList.take (o*sz')++l++c.toList.drop (o*sz'+l.length)).toArray=c' at hst
  have E:c'.size=c.size:=by rw [←hc'];rw [Nat.add_mul] at f;simp;omega
  have J:∀ j,j<o*sz'→c'[j]? = c[j]? := by
   intro j D
   rw [←hc',List.getElem?_toArray,List.append_assoc,List.getElem?_append_left (by rw [Nat.add_mul] at f;simp;omega),List.getElem?_take,Ai D,Array.getElem?_toList]
  have r:Ext w0 M w M (w.setRow (M.blk id) c'):=LI M rfl (fun _ _=>rfl) rfl (fun _ _=>⟨Nat.le_refl _,fun _=>⟨rfl,rfl,rfl⟩⟩) (fun _=>Nat.le_refl _) b3 b1 (fun j D=>by rw [b2] at D;omega)
  have F:id<st.rows.length:=(Ak.1 s).1
  refine ⟨.tuple #[],_,M,.inl ?_,r,⟨Below.setRow h.st.below b1 _,h.st.N,by simp [h.st.NR],fun b hb=>h.st.top b (by simpa using hb),h.st.inj,fun l' cs' G=>?_,fun k x hid'=>?_,h.st.rowinj,h.st.loop.mono r rfl (KeepsObj.setRow b3 _)⟩,.tup rfl (fun i U=>absurd U (by simp))⟩
  ·obtain ⟨m,rfl⟩:∃ m,n'=m+1:=⟨n'-1,by omega⟩
   simp [Builtin.clear_,run_underlying hu,zeroValue,typeInfo,H,ah,hl,hst]
  ·obtain ⟨d1,d2,d,K,d3,d4,d5,d6⟩:=h.st.box l' cs' G
   have Y:l'<M.N:=by rw [h.st.N];exact (Ak.1 G).1
   exact ⟨d1,d2,d,K,by rw [setRow_other w _ _ _ (f5 l' Y)];exact d3,d4,d5,fun i U h2=>(d6 i U h2).mono r⟩
  ·by_cases ell:k=id
   ·subst ell
    simp only at hid'
    rw [List.getElem?_set_self F] at hid'
    cases hid'
    refine ⟨f1,f2,b1,b2,f5,f6,f7,c',v,setRow_heap w _ c c' v _ b3,E.trans b4,by rw [List.length_take];omega,fun u g=>b5 u (List.mem_of_mem_take g),fun i U h2=>?_⟩
    have h3:i<o*sz'∧i<cs.length:=by rw [List.length_take] at h2;omega
    have:=J i h3.1
    rw [Array.getElem?_eq_getElem U,Array.getElem?_eq_getElem (by omega)] at this
    rw [Option.some.inj this,List.getElem_take]
    exact (b6 i (by omega) h3.2).mono r
   ·simp only at hid'
    rw [List.getElem?_set_ne (Ne.symm ell)] at hid'
    have hk:=h.st.row k x hid'
    have y:k<M.NR:=by rw [h.st.NR];exact (Ak.1 hid').1
    have ae:M.blk k≠M.blk id:=fun q=>ell (h.st.rowinj k id y hid q)
    exact hk.keep r rfl rfl rfl rfl rfl hk.ne (setRow_other w _ _ _ ae)
end
end Go.Ev
