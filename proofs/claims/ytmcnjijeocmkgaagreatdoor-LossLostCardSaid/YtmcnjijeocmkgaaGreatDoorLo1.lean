/-
  Part 1 of the proof: rules and walks that the claim's last text uses.
-/
import Derived.Below
import Derived.Laws.BytesArg
import Derived.Laws.IdiomStrings
import Derived.Laws.MakeOwn
import Derived.Laws.Rows
import Derived.Laws.Runes
import Derived.Laws.Small
import Derived.Laws.StructEq
import Derived.Lib.ConvBytes
import Derived.Lib.Strings
import Derived.Orders
import Derived.RangeFuncNested
import Derived.RangeFuncRecord
import Derived.WalkKit
set_option linter.unusedSimpArgs false
set_option linter.unusedVariables false
set_option maxRecDepth 100000
set_option maxHeartbeats 4000000
namespace Go
theorem Aa.{u} {c:Prop} {h:Decidable c} {α:Sort u} {t e:α} (hc:¬c:=by omega):ite c t e=e:=if_neg hc
theorem Ab.{u} {c:Prop} {h:Decidable c} {α:Sort u} {t e:α} (hc:c:=by omega):ite c t e=t:=if_pos hc
theorem Ac {p:Prop} [Decidable p] (h:¬p:=by omega):decide p=false:=decide_eq_false h
theorem Ad {p:Prop} [Decidable p] (h:p:=by omega):decide p=true:=decide_eq_true h
theorem Ae {a b:Prop} (h:a) (k:b):a∧b:=⟨h,k⟩
theorem Af.{u,v} {α:Type u} {β:Type v} (a:α) (f:α→Option β):(some a).bind f=f a:=rfl
theorem Ag {p:Prop} [Decidable p] (h:¬p):decide p=false:=decide_eq_false h
theorem Ah {p:Prop} [Decidable p] (h:p):decide p=true:=decide_eq_true h
theorem Ai.{u} {c:Prop} {h:Decidable c} (hc:c) {α:Sort u} {t e:α}:ite c t e=t:=if_pos hc
theorem Aj.{u} {c:Prop} {h:Decidable c} (hc:¬c) {α:Sort u} {t e:α}:ite c t e=e:=if_neg hc
theorem Ak.{u} {α:Type u} {a:α} {l:List α} {i:Nat}:l[i]?=some a↔∃ h:i<l.length,l[i]=a:=List.getElem?_eq_some_iff
end Go
namespace Go.Ev
open Go Go.RowKit
inductive Own where
 | none | full | seed | row (id:Nat)
 deriving DecidableEq
inductive AV where
 | val (v:Value)
 | list (xs:List AV) (o:Own)
 | elem (x:AV) (off:Nat)
 | box (l off:Nat)
 | clo (f:FuncId) (caps:List AV)
 | agg (cs:List AV)
 | tup (vs:List AV)
 | yld (k:Nat)
 | vec (id ver o n:Nat)
 | vel (id ver off:Nat)
abbrev Am (x:Int):AV := .val (.int .i64 x)
abbrev AV.junk:AV := .tup []
instance:Inhabited AV:=⟨.junk⟩
def AV.cells:AV→List AV
 | .agg cs=>cs
 | x=>[x]
def AV.one:AV→Bool
 | .agg _ | .tup _=>false
 | _=>true
def F2:Value→Bool
 | .bool _ | .int _ _ | .float _ _ | .pointer none | .nilFunc | .nilIface | .iface _ _ | .map none=>true
 | .string s=>decide (s.size≤maxLen)
 | _=>false
structure LoopA where
 e:List (Nat × Bool × AV)
 n:Nat
 ps:Array Tmp
 asg:Code
 body:Code
 st:LoopState
 pend:Option Code
inductive RowA where
 | grow (n sz:Nat)
 | vec (ver sz:Nat) (cells:List AV)
 | dead (ver:Nat)
structure St where
 boxes:List (List AV)
 rows:List RowA
 loops:List LoopA
abbrev Ao:=List (List AV)
abbrev Av:=List RowA
abbrev As:=List LoopA
structure Mem where
 N:Nat
 NR:Nat
 bx:Nat→Nat
 top:Nat→Nat
 fr:Nat→Nat
 blk:Nat→Nat
 cap:Nat→Nat
 rsz:Nat→Nat
 NL:Nat
 lb:Nat→Nat
def Mem.imm (M:Mem) (w0:World) (b off:Nat):Prop:=b<w0.heap.size∨off<M.top b
def Zc7 (M:Mem) (b off cap n sz:Nat):Own→Prop
 | .none=>True
 | .full | .seed=>n=cap
 | .row id=>id<M.NR∧n≤M.fr id∧(n=M.fr id→b=M.blk id∧off=0∧cap=M.cap id∧sz=M.rsz id)
inductive R (w0:World) (M:Mem) (w:World):Value→AV→Prop
 | flat {v:Value} (h:F2 v=true):R w0 M w v (.val v)
 | agg {cs:Array Value} {xs:List AV} (hl:cs.size=xs.length) (h1:∀ x∈xs,x.one=true) (h:∀ i (h1:i<cs.size) (h2:i<xs.length),R w0 M w cs[i] xs[i]):R w0 M w (.agg cs) (.agg xs)
 | tup {cs:Array Value} {xs:List AV} (hl:cs.size=xs.length) (h:∀ i (h1:i<cs.size) (h2:i<xs.length),R w0 M w cs[i] xs[i]):R w0 M w (.tuple cs) (.tup xs)
 | nil {o:Own} (ho:∀ id,o ≠ .row id):R w0 M w (.slice none 0 0) (.list [] o)
 | emp {a:Addr} {o:Own} (ho:∀ id,o ≠ .row id):R w0 M w (.slice (some a) 0 0) (.list [] o)
 | list {b off cap:Nat} {xs:List AV} {o:Own} (sz:Nat) (us:Nat→Value) (hc:xs.length≤cap) (hm:cap≤maxLen)
   (hcell:∀ i,i<xs.length→(us i).cells.size=sz∧∀ j,j<sz→M.imm w0 b (off+i*sz+j)∧w.cell? ⟨b,off+i*sz+j,none⟩=(us i).cells[j]?)
   (hu:∀ i (hi:i<xs.length),R w0 M w (us i) xs[i]) (ho:Zc7 M b off cap xs.length sz o):R w0 M w (.slice (some ⟨b,off,none⟩) xs.length cap) (.list xs o)
 | elem {b off:Nat} {x:AV} (u:Value) (k:Nat) (hcell:∀ j,j<u.cells.size→M.imm w0 b (off+j)∧w.cell? ⟨b,off+j,none⟩=u.cells[j]?) (hu:R w0 M w u x) :
   R w0 M w (.pointer (some ⟨b,off+k,none⟩)) (.elem x k)
 | box {l off:Nat} (hl:l<M.N):R w0 M w (.pointer (some ⟨M.bx l,off,none⟩)) (.box l off)
 | clo {f:FuncId} {cs:Array Value} {xs:List AV} (hl:cs.size=xs.length) (h:∀ i (h1:i<cs.size) (h2:i<xs.length),R w0 M w cs[i] xs[i]):R w0 M w (.func (.func f) #[] cs) (.clo f xs)
 | yld {k:Nat} (hk:k<M.NL):R w0 M w (.func (.yield (M.lb k)) #[] #[]) (.yld k)
 | vec {id ver o n:Nat} {p:Option Addr} {cap:Nat} (hi:id<M.NR) (hv:ver≤M.fr id) (h:ver=M.fr id→p=some ⟨M.blk id,o*M.rsz id,none⟩∧cap+o=M.cap id∧n≤cap):R w0 M w (.slice p n cap) (.vec id ver o n)
 | vel {id ver off:Nat} {a:Addr} (hi:id<M.NR) (hv:ver≤M.fr id) (h:ver=M.fr id→a=⟨M.blk id,off,none⟩):R w0 M w (.pointer (some a)) (.vel id ver off)
structure Ext (w0:World) (M:Mem) (w:World) (M':Mem) (w':World):Prop where
 N:M.N≤M'.N
 bx:∀ l,l<M.N→M'.bx l=M.bx l
 NR:M.NR≤M'.NR
 rows:∀ id,id<M.NR→M.fr id≤M'.fr id∧(M'.fr id=M.fr id→M'.blk id=M.blk id∧M'.cap id=M.cap id∧M'.rsz id=M.rsz id)
 cell:∀ b off v,M.imm w0 b off→w.cell? ⟨b,off,none⟩=some v→w'.cell? ⟨b,off,none⟩=some v∧M'.imm w0 b off
 size:w.heap.size≤w'.heap.size
 NL:M.NL≤M'.NL
 lb:∀ k,k<M.NL→M'.lb k=M.lb k
 lnew:∀ k,M.NL≤k→k<M'.NL→w.heap.size≤M'.lb k
 objs:∀ b o,w.heap[b]? = some o→o.isCells=false→(∀ k,k<M.NL→M.lb k≠b)→w'.heap[b]? = some o
def KeepsObj (w w':World):Prop:=∀ (b:Nat) (o:Obj),w.heap[b]? = some o→o.isCells=false→w'.heap[b]? = some o
theorem KeepsObj.refl (w:World):KeepsObj w w:=fun _ _ h _=>h
theorem KeepsObj.trans {a b c:World} (h:KeepsObj a b) (k:KeepsObj b c):KeepsObj a c:=fun i o e d=>k i o (h i o e d) d
theorem KeepsObj.alloc (w:World) (o:Obj):KeepsObj w (w.alloc o):=fun b _ h _=>(Below.heap_alloc w o b (Array.getElem?_eq_some_iff.1 h).1).trans h
theorem Ext.refl (w0:World) (M:Mem) (w:World):Ext w0 M w M w :=
 ⟨Nat.le_refl _,fun _ _=>rfl,Nat.le_refl _,fun _ _=>⟨Nat.le_refl _,fun _=>⟨rfl,rfl,rfl⟩⟩,fun _ _ _ h k=>⟨k,h⟩,Nat.le_refl _,Nat.le_refl _,fun _ _=>rfl,fun _ _ _=>by omega,fun _ _ h _ _=>h⟩
theorem Ext.trans {w0:World} {M1 M2 M3:Mem} {w1 w2 w3:World} (h:Ext w0 M1 w1 M2 w2) (k:Ext w0 M2 w2 M3 w3):Ext w0 M1 w1 M3 w3 where
 N:=Nat.le_trans h.N k.N
 bx:=fun l m=>(k.bx l (Nat.lt_of_lt_of_le m h.N)).trans (h.bx l m)
 NR:=Nat.le_trans h.NR k.NR
 rows:=fun id d=>by
  obtain ⟨a1,a2⟩:=h.rows id d
  obtain ⟨q,w⟩:=k.rows id (Nat.lt_of_lt_of_le d h.NR)
  refine ⟨Nat.le_trans a1 q,fun e=>?_⟩
  have t:M2.fr id=M1.fr id:=by omega
  have E:M3.fr id=M2.fr id:=by omega
  obtain ⟨p,s,z⟩:=a2 t
  obtain ⟨x,D,u⟩:=w E
  exact ⟨x.trans p,D.trans s,u.trans z⟩
 cell:=fun b f v a C=>by
  obtain ⟨y,r⟩:=h.cell b f v a C
  exact k.cell b f v r y
 size:=Nat.le_trans h.size k.size
 NL:=Nat.le_trans h.NL k.NL
 lb:=fun i a=>(k.lb i (Nat.lt_of_lt_of_le a h.NL)).trans (h.lb i a)
 lnew:=fun i g j=>by
  by_cases c:i<M2.NL
  ·rw [k.lb i c];exact h.lnew i g c
  ·exact Nat.le_trans h.size (k.lnew i (by omega) j)
 objs:=fun b o g j n=>k.objs b o (h.objs b o g j n) j fun i a=>by
  by_cases c:i<M1.NL
  ·rw [h.lb i c];exact n i c
  ·have:=h.lnew i (by omega) a
   have:=(Array.getElem?_eq_some_iff.1 g).1
   omega
theorem N5 {u:Value} {j:Nat} (h:j<u.cells.size):∃ v,u.cells[j]? = some v:=⟨_,Array.getElem?_eq_getElem h⟩
theorem R.mono {w0:World} {M M':Mem} {w w':World} (hx:Ext w0 M w M' w') {v:Value} {x:AV} (h:R w0 M w v x):R w0 M' w' v x:=by
 induction h with
 | flat h=>exact .flat h
 | agg hl r _ ih=>exact .agg hl r ih
 | tup hl _ ih=>exact .tup hl ih
 | nil ho=>exact .nil ho
 | emp ho=>exact .emp ho
 | @list b off cap xs o sz us hc hm hcell _ ho ih =>
  refine .list sz us hc hm (fun i d=>⟨(hcell i d).1,fun j q=>?_⟩) ih ?_
  ·obtain ⟨g,f⟩:=(hcell i d).2 j q
   obtain ⟨v,hv⟩:=N5 (u:=us i) (j:=j) (by rw [(hcell i d).1];exact q)
   obtain ⟨t,s⟩:=hx.cell _ _ v g (f.trans hv)
   exact ⟨s,t.trans hv.symm⟩
  ·cases o with
   | none=>trivial
   | full=>exact ho
   | seed=>exact ho
   | row id =>
    obtain ⟨r,y,C⟩:=ho
    obtain ⟨l,m⟩:=hx.rows id r
    refine ⟨Nat.lt_of_lt_of_le r hx.NR,Nat.le_trans y l,fun e=>?_⟩
    have z:M'.fr id=M.fr id:=by omega
    obtain ⟨a,b,c⟩:=m z
    rw [a,b,c]
    exact C (by omega)
 | @elem b off x u k hcell _ ih =>
  refine .elem u k (fun j q=>?_) ih
  obtain ⟨g,f⟩:=hcell j q
  obtain ⟨v,hv⟩:=N5 (u:=u) (j:=j) q
  obtain ⟨t,s⟩:=hx.cell _ _ v g (f.trans hv)
  exact ⟨s,t.trans hv.symm⟩
 | box hl=>rw [←hx.bx _ hl];exact .box (Nat.lt_of_lt_of_le hl hx.N)
 | clo hl _ ih=>exact .clo hl ih
 | yld hk=>rw [←hx.lb _ hk];exact .yld (Nat.lt_of_lt_of_le hk hx.NL)
 | @vec id ver o n p cap d hv h =>
  obtain ⟨l,m⟩:=hx.rows id d
  refine .vec (Nat.lt_of_lt_of_le d hx.NR) (Nat.le_trans hv l) (fun e=>?_)
  obtain ⟨q1,q2,q3⟩:=m (by omega)
  rw [q1,q2,q3]
  exact h (by omega)
 | @vel id ver off a d hv h =>
  obtain ⟨l,m⟩:=hx.rows id d
  refine .vel (Nat.lt_of_lt_of_le d hx.NR) (Nat.le_trans hv l) (fun e=>?_)
  obtain ⟨q1,q2,q3⟩:=m (by omega)
  rw [q1]
  exact h (by omega)
theorem R.cells {w0:World} {M:Mem} {w:World} {v:Value} {x:AV} (h:R w0 M w v x) :
  v.cells.size=x.cells.length∧∀ i (h1:i<v.cells.size) (h2:i<x.cells.length),R w0 M w v.cells[i] x.cells[i]:=by
 have one:∀ (u:Value) (y:AV),u.cells = #[u]→y.cells=[y]→R w0 M w u y →
   u.cells.size=y.cells.length∧∀ i (h1:i<u.cells.size) (h2:i<y.cells.length),R w0 M w u.cells[i] y.cells[i]:=by
  intro u y a c b
  rw [a,c]
  refine ⟨rfl,fun i h1 h2=>?_⟩
  have:i=0:=by simp at h2;exact h2
  subst this
  exact b
 cases h with
 | agg hl _ h=>exact ⟨hl,h⟩
 | flat hf=>exact one _ _ (by cases v<;>first | rfl | simp [F2] at hf) rfl (.flat hf)
 | tup hl h=>exact one _ _ rfl rfl (.tup hl h)
 | nil ho=>exact one _ _ rfl rfl (.nil ho)
 | emp ho=>exact one _ _ rfl rfl (.emp ho)
 | list sz us hc hm hcell a ho=>exact one _ _ rfl rfl (.list sz us hc hm hcell a ho)
 | elem u k hcell a=>exact one _ _ rfl rfl (.elem u k hcell a)
 | box hl=>exact one _ _ rfl rfl (.box hl)
 | clo hl h=>exact one _ _ rfl rfl (.clo hl h)
 | yld hk=>exact one _ _ rfl rfl (.yld hk)
 | vec hi hv h=>exact one _ _ rfl rfl (.vec hi hv h)
 | vel hi hv h=>exact one _ _ rfl rfl (.vel hi hv h)
theorem R.oneCell {w0:World} {M:Mem} {w:World} {v:Value} {x:AV} (h:R w0 M w v x) (hx:x.one=true):v.oneCell'=true:=by
 cases h with
 | agg=>cases hx
 | flat hf=>cases v<;>first | rfl | simp [F2] at hf
 | tup=>cases hx
 | _=>rfl
theorem R.cellsOne {w0:World} {M:Mem} {w:World} {v:Value} {x:AV} (h:R w0 M w v x) (ht:∀ vs,x ≠ .tup vs):∀ c∈x.cells,c.one=true:=by
 cases h with
 | agg hl h1 h=>exact h1
 | tup=>exact absurd rfl (ht _)
 | _=>intro c hc;simp only [AV.cells,List.mem_singleton] at hc;subst hc;rfl
theorem R.isAgg {w0:World} {M:Mem} {w:World} {v:Value} {xs:List AV} (h:R w0 M w v (.agg xs)):∃ cs,v = .agg cs:=by
 cases h with
 | agg hl h1 h=>exact ⟨_,rfl⟩
theorem R.cells_one {w0:World} {M:Mem} {w:World} {v:Value} {x:AV} (h:R w0 M w v x) (hx:x.one=true):v.cells = #[v]∧x.cells=[x]:=by
 cases h with
 | agg=>cases hx
 | flat hf=>exact ⟨by cases v<;>first | rfl | simp [F2] at hf,rfl⟩
 | tup=>cases hx
 | _=>exact ⟨rfl,rfl⟩
def AV.pubCell:AV→AV
 | .list xs _ => .list xs .none
 | x=>x
def AV.pub:AV→AV
 | .agg cs => .agg (cs.map AV.pubCell)
 | .list xs _ => .list xs .none
 | x=>x
theorem R.pubCell {w0:World} {M:Mem} {w:World} {v:Value} {x:AV} (h:R w0 M w v x):R w0 M w v x.pubCell:=by
 cases h with
 | nil ho=>exact .nil (fun id=>by simp)
 | emp ho=>exact .emp (fun id=>by simp)
 | list sz us hc hm hcell hu ho=>exact .list sz us hc hm hcell hu trivial
 | flat hf=>exact .flat hf
 | agg hl h1 h=>exact .agg hl h1 h
 | tup hl h=>exact .tup hl h
 | elem u k hcell hu=>exact .elem u k hcell hu
 | box hl=>exact .box hl
 | clo hl h=>exact .clo hl h
 | yld hk=>exact .yld hk
 | vec hi hv h=>exact .vec hi hv h
 | vel hi hv h=>exact .vel hi hv h
theorem AV.one_pubCell (x:AV):x.pubCell.one=x.one:=by cases x<;>rfl
theorem R.pub {w0:World} {M:Mem} {w:World} {v:Value} {x:AV} (h:R w0 M w v x):R w0 M w v x.pub:=by
 cases h with
 | nil ho=>exact .nil (fun id=>by simp)
 | emp ho=>exact .emp (fun id=>by simp)
 | list sz us hc hm hcell hu ho=>exact .list sz us hc hm hcell hu trivial
 | flat hf=>exact .flat hf
 | agg hl h1 h=>exact .agg (by simpa using hl) (fun x c=>by obtain ⟨y,d,rfl⟩:=List.mem_map.1 c;rw [AV.one_pubCell];exact h1 y d) (fun i a b=>by simp only [List.getElem_map];exact (h i a (by simpa using b)).pubCell)
 | tup hl h=>exact .tup hl h
 | elem u k hcell hu=>exact .elem u k hcell hu
 | box hl=>exact .box hl
 | clo hl h=>exact .clo hl h
 | yld hk=>exact .yld hk
 | vec hi hv h=>exact .vec hi hv h
 | vel hi hv h=>exact .vel hi hv h
theorem AV.pub_cells_length (x:AV):x.pub.cells.length=x.cells.length:=by cases x<;>simp [AV.pub,AV.cells]
def G8 (P:Program) (t:TypeId):Option (Nat × Bool) :=
 match P.info? t,P.underlying t with
 | some i,some d=>some (i.size,match d with | .struct _ | .array _ _=>true | _=>false)
 | _,_=>none
def CN (P:Program) (t:TypeId) (f:Nat):Option (Nat × Nat × Bool) :=
 match P.underlying t with
 | some (.struct fs)=>match fs[f]? with
  | some x=>(G8 P x.type).map fun (s,a)=>(x.offset,s,a)
  | none=>none
 | _=>none
def Lr (P:Program) (t:TypeId):Option (TypeId × Nat × Bool × Nat) :=
 match P.underlying t with
 | some (.slice e)=>match P.info? e,G8 P e with
  | some i,some (s,a)=>some (e,s,a,i.bytes)
  | _,_=>none
 | _=>none
def EX (P:Program) (t:TypeId):Option (Nat × Nat × Bool) :=
 match P.underlying t with
 | some (.array n e)=>(G8 P e).map fun (s,a)=>(n,s,a)
 | _=>none
def EE (P:Program) (t:TypeId):Bool :=
 match P.underlying t with | some .string=>true | _=>false
def JO (P:Program) (t:TypeId):Bool :=
 match P.underlying t with
 | some (.slice e)=>(match P.underlying e with | some (.int .u8)=>true | _=>false)&&(match G8 P e with | some (1,false)=>true | _=>false)
 | _=>false
def Nq (P:Program) (t:TypeId):Option IntKind :=
 match P.underlying t with | some (.int k)=>some k | _=>none
def M5:Value→AV
 | .slice none 0 0 => .list [] .full
 | v => .val v
def Iy:Value→AV
 | .agg cs => .agg (cs.toList.map M5)
 | v=>M5 v
def Pm:Value→Bool
 | .slice none 0 0=>true
 | v=>F2 v
def N3:Value→Bool
 | .agg cs=>cs.toList.all Pm
 | v=>Pm v
def BB (P:Program) (t:TypeId):Option (List AV) :=
 match P.info? t with
 | some i=>match i.zero with
  | some z=>if N3 z&&z.cells.size == i.size then some (Iy z).cells else none
  | none=>none
 | none=>none
abbrev Env:=List (Nat × Bool × AV)
def look:Env→Nat→Option (Bool × AV)
 | [],_=>none
 | (k,c,v)::r,s=>if k=s then some (c,v) else look r s
def ED:List Nat→Env→Env
 | [],_=>[]
 | s::K,e=>match look e s with
  | some (c,v)=>(s,c,v)::ED K e
  | none=>ED K e
def Az (e:Env):Operand→AV
 | .tmp t=>match look e t with | some (_,v)=>v | none => .junk
 | .const v=>Iy v
 | .func f => .clo f []
 | .global _ => .junk
def AM (e:Env) (c:Bool):Operand→Prop
 | .tmp t=>match look e t with | some (c',_)=>(c=true→c'=true) | none=>False
 | .const v=>N3 v=true
 | .func _=>True
 | .global _=>False
def JF:AV→Bool
 | .val (.bool b)=>b
 | _=>false
def UO:AV→Bool
 | .val (.bool _)=>true
 | _=>false
def AV.sel (t:Bool):AV→AV→AV
 | .val (.bool x),.val (.bool y) => .val (.bool (if t then x else y))
 | a,b=>if t then a else b
def CU (l:List AV) (off:Nat) (xs:List AV):List AV:=l.take off++xs++l.drop (off+xs.length)
def Y5 (l:List AV) (i:Nat):AV:=l.getD i .junk
def PM (P:Program):List Field→Option (List (Nat × Nat))
 | []=>some []
 | f::fs=>match P.info? f.type,PM P fs with
  | some i,some r=>some ((f.offset,i.size)::r)
  | _,_=>none
def CG (P:Program) (t:TypeId):Option (List (Nat × Nat)) :=
 match P.underlying t with
 | some (.struct fs)=>PM P fs.toList
 | _=>none
def Ky (P:Program) (t:TypeId) (i:Nat):Option (Nat × Nat) :=
 match CG P t with
 | some l=>l[i]?
 | none=>match EX P t with
  | some (_,s,_)=>some (i*s,s)
  | none=>none
def Rn (P:Program) (t:TypeId):List AV→List (Nat × AV)→List AV
 | cs,[]=>cs
 | cs,(i,x)::r=>match Ky P t i with
  | some (o,_)=>Rn P t (CU cs o x.cells) r
  | none=>cs
def OO (P:Program) (t:TypeId):Nat→List (Nat × AV)→Prop
 | _,[]=>True
 | n,(i,x)::r=>(match Ky P t i with
  | some (o,s)=>x.cells.length=s∧o+s≤n
  | none=>False)∧OO P t n r
def AX:AV→Bool
 | .tup _=>false
 | _=>true
def FT:AV→Bool
 | .agg _=>true
 | _=>false
def inK:IntKind→Int→Prop
 | .i8,n => -128≤n∧n≤127
 | .i16,n => -32768≤n∧n≤32767
 | .i32,n => -2147483648≤n∧n≤2147483647
 | .i64,n => -9223372036854775808≤n∧n≤9223372036854775807
 | .u8,n=>0≤n∧n≤255
 | .u16,n=>0≤n∧n≤65535
 | .u32,n=>0≤n∧n≤4294967295
 | .u64,n=>0≤n∧n≤18446744073709551615
def Gn (x y:ByteArray):Bool:=x.data.toList == y.data.toList
def sLt (x y:ByteArray):Bool:=Op.bytesLess x.data.toList y.data.toList
def evBin:BinOp→Value→Value→Prop × Value
 | .add,.int k a,.int k' b=>(k=k'∧inK k (a+b),.int k (a+b))
 | .sub,.int k a,.int k' b=>(k=k'∧inK k (a-b),.int k (a-b))
 | .mul,.int k a,.int k' b=>(k=k'∧inK k (a*b),.int k (a*b))
 | .quo,.int k a,.int k' b=>(k=k'∧b≠0∧inK k (a.tdiv b),.int k (a.tdiv b))
 | .rem,.int k a,.int k' b=>(k=k'∧b≠0,.int k (a.tmod b))
 | .eql,.int k a,.int k' b=>(k=k',.bool (decide (a=b)))
 | .neq,.int k a,.int k' b=>(k=k',.bool (!decide (a=b)))
 | .lss,.int k a,.int k' b=>(k=k',.bool (decide (a<b)))
 | .leq,.int k a,.int k' b=>(k=k',.bool (decide (a≤b)))
 | .gtr,.int k a,.int k' b=>(k=k',.bool (decide (b<a)))
 | .geq,.int k a,.int k' b=>(k=k',.bool (decide (b≤a)))
 | .add,.string x,.string y=>(x.size+y.size≤9223372036854775807,.string (x++y))
 | .eql,.string x,.string y=>(True,.bool (Gn x y))
 | .neq,.string x,.string y=>(True,.bool (!Gn x y))
 | .lss,.string x,.string y=>(True,.bool (sLt x y))
 | .leq,.string x,.string y=>(True,.bool (sLt x y||Gn x y))
 | .gtr,.string x,.string y=>(True,.bool (!(sLt x y||Gn x y)))
 | .geq,.string x,.string y=>(True,.bool (!sLt x y))
 | .shr,.int k a,.int _ b=>(b=1∧0≤a,.int k (a / 2))
 | _,_,_=>(False,undef)
def evBB:BinOp→Bool→Bool→Prop × Bool
 | .eql,a,b=>(True,a == b)
 | .neq,a,b=>(True,a != b)
 | _,_,_=>(False,false)
def LR (P:Program) (t:TypeId):Bool :=
 match P.underlying t with | some .bool=>true | _=>false
def KE (P:Program) (t:TypeId):AV→AV→Prop
 | .val (.int k _),.val (.int k' _)=>(Nq P t).isSome=true∧k=k'
 | .val (.string _),.val (.string _)=>EE P t=true
 | .val (.bool _),.val (.bool _)=>LR P t=true
 | _,_=>False
def eqCell:AV→AV→Bool
 | .val (.int _ a),.val (.int _ b)=>decide (a=b)
 | .val (.string a),.val (.string b)=>Gn a b
 | .val (.bool a),.val (.bool b)=>a == b
 | _,_=>false
def Ni:List AV→List AV→Bool
 | [],[]=>true
 | x::xs,y::ys=>eqCell x y&&Ni xs ys
 | _,_=>false
def Xa (P:Program):List Field→Nat→List AV→List AV→Prop
 | [],_,[],[]=>True
 | f::fs,i,x::xs,y::ys=>f.name ≠ "_" ∧ f.offset=i∧G8 P f.type=some (1,false)∧KE P f.type x y∧Xa P fs (i+1) xs ys
 | _,_,_,_=>False
def eqT (P:Program) (t:TypeId):Option (List Field) :=
 match P.underlying t with
 | some (.struct fs)=>if P.stoodInHeld t=false∧P.eqGuardType P.depth t=false then some fs.toList else none
 | _=>none
def Nn (P:Program) (op:BinOp) (t:TypeId) (xs ys:List AV):Prop × Bool :=
 match eqT P t,op with
 | some fs,.eql=>(Xa P fs 0 xs ys,Ni xs ys)
 | some fs,.neq=>(Xa P fs 0 xs ys,!Ni xs ys)
 | _,_=>(False,false)
def Mc:AV→List AV
 | .agg xs=>xs
 | _=>[]
def evUn:UnOp→Value→Prop × Value
 | .not,.bool b=>(True,.bool (!b))
 | .neg,.int k a=>(inK k (0-a),.int k (0-a))
 | _,_=>(False,undef)
def GV:AV→Value
 | .val v=>v
 | _=>undef
def E4:AV→Bool
 | .val _=>true
 | _=>false
def AL:AV→Int
 | .val (.int _ n)=>n
 | _=>0
def J8:AV→IntKind
 | .val (.int k _)=>k
 | _ => .i64
def DY:AV→Bool
 | .val (.int _ _)=>true
 | _=>false
def AP:AV→List AV
 | .list xs _=>xs
 | _=>[]
def Bv:AV→Bool
 | .list _ _=>true
 | _=>false
def M7:AV→Bool
 | .val (.string _)=>true
 | _=>false
def Zc8:AV→ByteArray
 | .val (.string s)=>s
 | _ => .empty
def SI:AV→Prop
 | .val (.int .u8 n)=>0≤n∧n≤255
 | _=>False
def Gm (xs:List AV):ByteArray:=⟨(xs.map fun x=>UInt8.ofNat (AL x).toNat).toArray⟩
def Gk (l:List UInt8):List AV:=l.map fun b => .val (.int .u8 b.toNat)
def EJ (rows:Av) (id ver:Nat):Option (Nat × List AV) :=
 match rows[id]? with
 | some (.vec v sz cs)=>if v=ver then some (sz,cs) else none
 | _=>none
def Bc (st:St):AV→List AV
 | .box l _=>st.boxes.getD l []
 | .elem x _=>x.cells
 | .vel id ver _=>match EJ st.rows id ver with | some (_,cs)=>cs | none=>[]
 | _=>[]
def D5:AV→Nat
 | .box _ o=>o
 | .elem _ o=>o
 | .vel _ _ o=>o
 | _=>0
def Du (st:St):AV→Bool
 | .box l _=>decide (l<st.boxes.length)
 | .elem (.tup _) _=>false
 | .elem _ _=>true
 | .vel id ver _=>(EJ st.rows id ver).isSome
 | _=>false
def Q2 (x:AV) (n:Nat):AV :=
 match x with
 | .box l o => .box l (o+n)
 | .elem y o => .elem y (o+n)
 | .vel id ver o => .vel id ver (o+n)
 | x=>x
def OG (agg:Bool) (cs:List AV) (off sz:Nat):AV:=if agg then .agg ((cs.drop off).take sz) else Y5 cs off
def S8 (st:St) (a:AV) (xs:List AV):St :=
 match a with
 | .box l o=>{ st with boxes:=st.boxes.set l (CU (st.boxes.getD l []) o xs) }
 | .vel id ver o=>match EJ st.rows id ver with
  | some (sz,cs)=>{ st with rows:=st.rows.set id (.vec ver sz (CU cs o xs)) }
  | none=>st
 | _=>st
def NB:AV→Bool
 | .box _ _=>true
 | .vel _ _ _=>true
 | _=>false
def Vh (P:Program) (t:TypeId) (x:AV):Prop × AV :=
 match x with
 | .val (.string s)=>(EE P t=true,.val (.int .i64 s.size))
 | .list xs _=>((Lr P t).isSome=true,.val (.int .i64 xs.length))
 | .vec _ _ _ n=>((Lr P t).isSome=true,.val (.int .i64 n))
 | _=>(False,.junk)
def CM (P:Program) (el sz by8:Nat) (n:Nat) (xs:List AV):Prop :=
 0<sz∧(BB P el).isSome=true∧(n+xs.length)*by8≤140737488355328∧n+xs.length≤4611686018427387904∧(∀ y∈xs,y.cells.length=sz∧AX y=true)
def BH (P:Program) (st:St) (t:TypeId) (s x:AV):Prop × AV × St :=
 match Lr P t with
 | some (el,sz,_,by8) =>
  match s with
  | .list ys .full=>if (AP x).length=0 then (Bv x=true∧0<sz,.list ys .full,st)
   else (Bv x=true∧CM P el sz by8 ys.length (AP x)∧(∀ y∈ys,y.cells.length=sz),.list (ys++(AP x).map AV.pub) (.row st.rows.length),{ st with rows:=st.rows++[.grow (ys.length+(AP x).length) sz] })
  | .list ys (.row id)=>(Bv x=true∧CM P el sz by8 ys.length (AP x)∧(∀ y∈ys,y.cells.length=sz)∧st.rows[id]? = some (.grow ys.length sz),.list (ys++(AP x).map AV.pub) (.row id),{ st with rows:=st.rows.set id (.grow (ys.length+(AP x).length) sz) })
  | .list ys .seed=>if (AP x).length=0 then (Bv x=true∧0<sz,.list ys .seed,st)
   else (Bv x=true∧CM P el sz by8 0 (AP x)∧ys.length=0∧0<(AP x).length,.vec st.rows.length 0 0 (AP x).length,{ st with rows:=st.rows++[.vec 0 sz ((AP x).flatMap fun y=>y.pub.cells)] })
  | .vec id ver o n=>match EJ st.rows id ver with
   | some (sz',cs)=>(Bv x=true∧CM P el sz by8 n (AP x)∧sz'=sz∧o=0∧n*sz≤cs.length,.vec id (ver+1) 0 (n+(AP x).length),{ st with rows:=st.rows.set id (.vec (ver+1) sz (cs.take (n*sz)++(AP x).flatMap fun y=>y.pub.cells)) })
   | none=>(False,.junk,st)
  | _=>(False,.junk,st)
 | none=>(False,.junk,st)
def Cj (e:Env) (d:Int):Option Operand→Int
 | some y=>AL (Az e y)
 | none=>d
def M9 (e:Env) (c:Bool):Option Operand→Prop
 | some y=>AM e c y∧DY (Az e y)=true
 | none=>True
def SA (st:St) (x:Prop × AV × St):Prop × AV × St:=(x.1,x.2.1,st)
def I3 (e:Env) (t:TypeId):Bool :=
 match look e (1000000+t) with
 | some _=>true
 | none=>false
def We (P:Program) (t:TypeId):Bool :=
 match P.underlying t with | some (.interface _)=>true | _=>false
def F9:Value→Bool
 | .nilIface=>true
 | _=>false
def PT:Value→Bool
 | .nilIface=>true
 | .iface _ _=>true
 | _=>false
def Tm:Operand→Bool
 | .const v=>F9 v
 | .tmp _=>false
 | .func _=>false
 | .global _=>false
def TQ:BinOp→Value→Prop × Bool
 | .eql,v=>(PT v=true,F9 v)
 | .neq,v=>(PT v=true,!F9 v)
 | _,_=>(False,false)
def A0 (P:Program) (e:Env) (c:Bool) (st:St):Op→Prop × AV × St
 | .move x | .assign x=>(AM e c x,Az e x,st)
 | .pick b x y=>(AM e c b∧UO (Az e b)=true∧(c=true→JF (Az e b)=true→AM e true x)∧(c=true→JF (Az e b)=false→AM e true y),AV.sel (JF (Az e b)) (Az e x) (Az e y),st)
 | .alloc t=>match BB P t with
  | some z=>(c=true,.box st.boxes.length 0,{ st with boxes:=st.boxes++[z] })
  | none=>(False,.junk,st)
 | .box _ x=>(c=true∧AM e c x∧AX (Az e x)=true,.box st.boxes.length 0,{ st with boxes:=st.boxes++[(Az e x).cells] })
 | .build t ps=>match BB P t with
  | some z=>(((CG P t).isSome=true∨(EX P t).isSome=true)∧(∀ p∈ps.toList,AM e c p.2∧AX (Az e p.2)=true)∧OO P t z.length (ps.toList.map fun p=>(p.1,Az e p.2)),.agg (Rn P t z (ps.toList.map fun p=>(p.1,Az e p.2))),st)
  | none=>(False,.junk,st)
 | .buildSlice t n ps =>
  let vs:=ps.toList.map fun p=>Az e p.2
  match Lr P t with
  | some (el,sz,_,_)=>match I3 e t with
   | false=>((∀ p∈ps.toList,AM e c p.2)∧ps.toList.map (·.1)=List.range n∧n*sz≤16777216∧0<sz∧(BB P el).isSome=true∧(∀ x∈vs,x.cells.length=sz),.list (vs.map AV.pub) .full,st)
   | true=>(c=true∧(∀ p∈ps.toList,AM e c p.2)∧ps.toList.map (·.1)=List.range n∧n*sz≤16777216∧0<sz∧(BB P el).isSome=true∧(∀ x∈vs,x.cells.length=sz)∧(∀ x∈vs,AX x=true),.vec st.rows.length 0 0 n,{ st with rows:=st.rows++[.vec 0 sz (vs.flatMap fun x=>x.pub.cells)] })
  | none=>(False,.junk,st)
 | .load t a=>match G8 P t with
  | some (sz,ag)=>(AM e c a∧Du st (Az e a)=true∧D5 (Az e a)+sz≤(Bc st (Az e a)).length∧(ag=true∨sz=1),OG ag (Bc st (Az e a)) (D5 (Az e a)) sz,st)
  | none=>(False,.junk,st)
 | .store t a v=>match G8 P t with
  | some (sz,_)=>(c=true∧AM e c a∧AM e c v∧NB (Az e a)=true∧Du st (Az e a)=true∧AX (Az e v)=true∧(Az e v).cells.length=sz∧D5 (Az e a)+sz≤(Bc st (Az e a)).length,.junk,S8 st (Az e a) (Az e v).cells)
  | none=>(False,.junk,st)
 | .nilCheck x=>(AM e c x∧Du st (Az e x)=true,Az e x,st)
 | .binOp op t x y _=>if UO (Az e x)&&UO (Az e y) then (AM e c x∧AM e c y∧LR P t=true∧(evBB op (JF (Az e x)) (JF (Az e y))).1,.val (.bool (evBB op (JF (Az e x)) (JF (Az e y))).2),st)
  else if FT (Az e x)&&FT (Az e y) then (AM e c x∧AM e c y∧(Nn P op t (Mc (Az e x)) (Mc (Az e y))).1,.val (.bool (Nn P op t (Mc (Az e x)) (Mc (Az e y))).2),st)
  else if Tm y then (AM e c x∧E4 (Az e x)=true∧We P t=true∧(TQ op (GV (Az e x))).1,.val (.bool (TQ op (GV (Az e x))).2),st)
  else (AM e c x∧AM e c y∧E4 (Az e x)=true∧E4 (Az e y)=true∧(evBin op (GV (Az e x)) (GV (Az e y))).1,.val (evBin op (GV (Az e x)) (GV (Az e y))).2,st)
 | .unOp op _ x=>(AM e c x∧E4 (Az e x)=true∧(evUn op (GV (Az e x))).1,.val (evUn op (GV (Az e x))).2,st)
 | .convert s d x=>match Nq P s,Nq P d with
  | some _,some k=>(AM e c x∧DY (Az e x)=true∧inK k (AL (Az e x)),.val (.int k (AL (Az e x))),st)
  | some _,none=>(AM e c x∧DY (Az e x)=true∧EE P d=true,.val (.string (Utf8.encode (AL (Az e x)))),st)
  | none,_=>if EE P s&&EE P d then (AM e c x∧M7 (Az e x)=true,Az e x,st)
   else if JO P s&&EE P d then match Az e x with
    | .vec id ver o n=>match EJ st.rows id ver with
     | some (sz',cs)=>(AM e c x∧sz'=1∧o+n≤cs.length∧n≤9223372036854775807∧(∀ y∈(cs.drop o).take n,SI y),.val (.string (Gm ((cs.drop o).take n))),st)
     | none=>(False,.junk,st)
    | _=>(AM e c x∧Bv (Az e x)=true∧(AP (Az e x)).length≤9223372036854775807∧(∀ y∈AP (Az e x),SI y),.val (.string (Gm (AP (Az e x)))),st)
   else if EE P s&&JO P d then (c=true∧AM e c x∧M7 (Az e x)=true,.list (Gk (Zc8 (Az e x)).data.toList) .none,st)
   else (False,.junk,st)
 | .makeFunc (.func f) fi cap=>(fi.size=0∧(∀ x∈cap.toList,AM e c x),.clo f (cap.toList.map (Az e)),st)
 | .makeSlice t len cap=>match Lr P t with
  | some (el,sz,_,by8)=>match BB P el with
   | some z=>(c=true∧AM e c len∧AM e c cap∧DY (Az e len)=true∧DY (Az e cap)=true∧0≤AL (Az e len)∧AL (Az e len)≤AL (Az e cap)∧AL (Az e cap)*by8≤140737488355328∧AL (Az e cap)≤4611686018427387904∧0<sz∧z.length=sz∧(AL (Az e len)=0∨I3 e t=true∨sz=1),
     if AL (Az e len)=0 then .list [] (.row st.rows.length) else if I3 e t=true then .vec st.rows.length 0 0 (AL (Az e len)).toNat else .list (List.replicate (AL (Az e len)).toNat (Y5 z 0)) .none,
     if AL (Az e len)=0 then { st with rows:=st.rows++[.grow 0 sz] } else if I3 e t=true then { st with rows:=st.rows++[.vec 0 sz ((List.replicate (AL (Az e len)).toNat z).flatten)] } else st)
   | none=>(False,.junk,st)
  | none=>(False,.junk,st)
 | .slice t x lo hi mx=>match Az e x with
  | .vec id ver o n=>match Lr P t,EJ st.rows id ver with
   | some (_,sz,_,_),some (sz',_)=>(AM e c x∧M9 e c lo∧M9 e c hi∧mx.isNone=true∧0≤Cj e 0 lo∧Cj e 0 lo≤Cj e n hi∧Cj e n hi≤n∧(Cj e 0 lo=0∨Cj e 0 lo<n)∧sz'=sz,.vec id ver (o+(Cj e 0 lo).toNat) ((Cj e n hi).toNat-(Cj e 0 lo).toNat),st)
   | _,_=>(False,.junk,st)
  | .val (.string s) =>
   (EE P t=true∧AM e c x∧M9 e c lo∧M9 e c hi∧mx.isNone=true∧0≤Cj e 0 lo∧Cj e 0 lo≤Cj e s.size hi∧Cj e s.size hi≤s.size,.val (.string (s.extract (Cj e 0 lo).toNat (Cj e s.size hi).toNat)),st)
  | .list xs _=>match Lr P t with
   | some (_,sz,_,_)=>match mx with
    | none=>(AM e c x∧M9 e c lo∧M9 e c hi∧0≤Cj e 0 lo∧Cj e 0 lo≤Cj e xs.length hi∧Cj e xs.length hi≤xs.length∧(Cj e 0 lo=0∨∀ y∈xs,y.cells.length=sz),.list ((xs.take (Cj e xs.length hi).toNat).drop (Cj e 0 lo).toNat) .none,st)
    | some m=>(AM e c x∧M9 e c lo∧M9 e c hi∧M9 e c (some m)∧Cj e 0 lo=0∧Cj e 1 hi=0∧Cj e 1 (some m)=0,.list [] .full,st)
   | none=>(False,.junk,st)
  | _=>(False,.junk,st)
 | .fieldAddr t x f=>match CN P t f with
  | some (o,sz,_)=>(AM e c x∧Du st (Az e x)=true∧0<sz,Q2 (Az e x) o,st)
  | none=>(False,.junk,st)
 | .field t x f=>match CN P t f with
  | some (o,sz,ag)=>(AM e c x∧FT (Az e x)=true∧o+sz≤(Az e x).cells.length∧(ag=true∨sz=1),OG ag (Az e x).cells o sz,st)
  | none=>(False,.junk,st)
 | .indexAddr t x i=>SA st <| match Lr P t with
  | some (_,sz,_,_)=>match Az e x with
   | .vec id ver o n=>match EJ st.rows id ver with
    | some (sz',_)=>(AM e c x∧AM e c i∧DY (Az e i)=true∧0≤AL (Az e i)∧AL (Az e i)<n∧sz'=sz,.vel id ver ((o+(AL (Az e i)).toNat)*sz),st)
    | none=>(False,.junk,st)
   | _=>(AM e c x∧AM e c i∧Bv (Az e x)=true∧DY (Az e i)=true∧0≤AL (Az e i)∧AL (Az e i)<(AP (Az e x)).length∧(Y5 (AP (Az e x)) (AL (Az e i)).toNat).cells.length=sz,.elem (Y5 (AP (Az e x)) (AL (Az e i)).toNat) 0,st)
  | none=>match EX P t with
   | some (n,sz,_)=>(AM e c x∧AM e c i∧Du st (Az e x)=true∧DY (Az e i)=true∧0≤AL (Az e i)∧AL (Az e i)<n,Q2 (Az e x) ((AL (Az e i)).toNat*sz),st)
   | none=>(False,.junk,st)
 | .index t x i=>SA st <| match Az e x with
  | .val (.string s)=>(EE P t=true∧AM e c x∧AM e c i∧DY (Az e i)=true∧0≤AL (Az e i)∧AL (Az e i)<s.size,.val (.int .u8 (s.get! (AL (Az e i)).toNat).toNat),st)
  | .agg cs=>match EX P t with
   | some (n,sz,ag)=>(AM e c x∧AM e c i∧DY (Az e i)=true∧0≤AL (Az e i)∧AL (Az e i)<n∧cs.length=n*sz∧(ag=true∨sz=1),OG ag cs ((AL (Az e i)).toNat*sz) sz,st)
   | none=>(False,.junk,st)
  | _=>(False,.junk,st)
 | .extract x i=>SA st <| match Az e x with
  | .tup vs=>(AM e c x∧i<vs.length,Y5 vs i,st)
  | _=>(False,.junk,st)
 | .call ⟨.builtin .len,args,ts⟩=>match args.toList,ts.toList with
  | [x],[t]=>(AM e c x∧(Vh P t (Az e x)).1,(Vh P t (Az e x)).2,st)
  | _,_=>(False,.junk,st)
 | .call ⟨.builtin .append,args,ts⟩=>match args.toList,ts.toList with
  | [s,x],[t,t']=>(c=true∧AM e c s∧AM e c x∧t=t'∧(BH P st t (Az e s) (Az e x)).1,(BH P st t (Az e s) (Az e x)).2)
  | _,_=>(False,.junk,st)
 | .call ⟨.builtin .min,args,_⟩=>match args.toList with
  | [x,y]=>(AM e c x∧AM e c y∧DY (Az e x)=true∧DY (Az e y)=true∧True,.val (.int (J8 (Az e x)) (if AL (Az e y)<AL (Az e x) then AL (Az e y) else AL (Az e x))),st)
  | _=>(False,.junk,st)
 | .call ⟨.builtin .max,args,_⟩=>match args.toList with
  | [x,y]=>(AM e c x∧AM e c y∧DY (Az e x)=true∧DY (Az e y)=true,.val (.int (J8 (Az e x)) (if AL (Az e x)<AL (Az e y) then AL (Az e y) else AL (Az e x))),st)
  | _=>(False,.junk,st)
 | _=>(False,.junk,st)
def entryOk (w0:World) (M:Mem) (w:World) (v:Value) (x:Bool × AV):Prop:=if x.1=true then R w0 M w v x.2 else v=undef
structure LoopSt (w0:World) (M:Mem) (w:World) (ls:As):Prop where
 NL:M.NL=ls.length
 inj:∀ k k',k<M.NL→k'<M.NL→M.lb k=M.lb k'→k=k'
 record:∀ k la,ls[k]? = some la→w0.heap.size≤M.lb k∧∃ r:Loop,w.heap[M.lb k]? = some (.loop r)∧r.state=la.st∧r.pending=la.pend∧r.params=la.ps∧r.assign=la.asg∧r.body=la.body ∧
  r.tmps.size=la.n∧∀ s x,look la.e s=some x→entryOk w0 M w (r.tmps.getD s undef) x
theorem entryOk.mono {w0:World} {M M':Mem} {w w':World} (hx:Ext w0 M w M' w') {v:Value} {x:Bool × AV} (h:entryOk w0 M w v x):entryOk w0 M' w' v x:=by
 unfold entryOk at *
 split
 ·rename_i c;rw [Ai c] at h;exact h.mono hx
 ·rename_i c;rw [Aj c] at h;exact h
theorem LoopSt.mono {w0:World} {M M':Mem} {w w':World} {ls:List LoopA} (h:LoopSt w0 M w ls) (hx:Ext w0 M w M' w') (hN:M'.NL=M.NL) (hk:KeepsObj w w'):LoopSt w0 M' w' ls where
 NL:=hN.trans h.NL
 inj:=fun k f d c e=>h.inj k f (hN▸d) (hN▸c) (by rw [hx.lb k (hN▸d),hx.lb f (hN▸c)] at e;exact e)
 record:=fun k i a=>by
  have b:k<M.NL:=by rw [h.NL];exact (Ak.1 a).1
  obtain ⟨a1,r,a2,a3,a4,a5,a6,a7,j,g⟩:=h.record k i a
  rw [hx.lb k b]
  exact ⟨a1,r,hk _ _ a2 rfl,a3,a4,a5,a6,a7,j,fun s x hs=>(g s x hs).mono hx⟩
def RowOk (w0:World) (M:Mem) (w:World) (id:Nat):RowA→Prop
 | .grow n sz=>M.fr id=n∧M.rsz id=sz∧w0.heap.size≤M.blk id∧M.top (M.blk id)=n*sz∧(∀ l,l<M.N→M.bx l≠M.blk id)∧M.cap id≤maxLen∧n≤M.cap id ∧
  ∃ c ty,w.heap[M.blk id]? = some (.cells c ty (0,0))∧c.size=M.cap id*sz
 | .vec ver sz cs=>M.fr id=ver∧M.rsz id=sz∧w0.heap.size≤M.blk id∧M.top (M.blk id)=0∧(∀ l,l<M.N→M.bx l≠M.blk id)∧M.cap id≤maxLen∧0<sz ∧
  ∃ c ty,w.heap[M.blk id]? = some (.cells c ty (0,0))∧c.size=M.cap id*sz∧cs.length≤c.size∧(∀ x∈cs,x.one=true)∧∀ i (h1:i<c.size) (h2:i<cs.length),R w0 M w c[i] cs[i]
 | .dead ver=>M.fr id=ver∧w0.heap.size≤M.blk id∧(∀ l,l<M.N→M.bx l≠M.blk id)∧M.blk id<w.heap.size
theorem RowOk.base {w0:World} {M:Mem} {w:World} {id:Nat} {x:RowA} (h:RowOk w0 M w id x):w0.heap.size≤M.blk id:=by
 cases x with
 | grow n sz=>exact h.2.2.1
 | vec v sz cs=>exact h.2.2.1
 | dead v=>exact h.2.1
theorem RowOk.ne {w0:World} {M:Mem} {w:World} {id:Nat} {x:RowA} (h:RowOk w0 M w id x):∀ l,l<M.N→M.bx l≠M.blk id:=by
 cases x with
 | grow n sz=>exact h.2.2.2.2.1
 | vec v sz cs=>exact h.2.2.2.2.1
 | dead v=>exact h.2.2.1
theorem RowOk.lt {w0:World} {M:Mem} {w:World} {id:Nat} {x:RowA} (h:RowOk w0 M w id x):M.blk id<w.heap.size:=by
 cases x with
 | grow n sz=>obtain ⟨_,_,_,_,_,_,_,c,b,a,_⟩:=h;exact (Array.getElem?_eq_some_iff.1 a).1
 | vec v sz cs=>obtain ⟨_,_,_,_,_,_,_,c,b,a,_⟩:=h;exact (Array.getElem?_eq_some_iff.1 a).1
 | dead v=>exact h.2.2.2
theorem RowOk.keep {w0:World} {M M':Mem} {w w':World} {id:Nat} {x:RowA} (h:RowOk w0 M w id x) (hx:Ext w0 M w M' w') (e1:M'.fr id=M.fr id) (e2:M'.rsz id=M.rsz id) (e3:M'.blk id=M.blk id) (e4:M'.cap id=M.cap id)
  (e5:M'.top (M.blk id)=M.top (M.blk id)) (e6:∀ l,l<M'.N→M'.bx l≠M.blk id) (e7:w'.heap[M.blk id]? = w.heap[M.blk id]?):RowOk w0 M' w' id x:=by
 cases x with
 | grow n sz =>
  obtain ⟨a1,a2,a3,a4,a5,a6,a7,c,d,b,a⟩:=h
  simp only [RowOk,e1,e2,e3,e4,e5,e7]
  exact ⟨a1,a2,a3,a4,e6,a6,a7,c,d,b,a⟩
 | vec v sz cs =>
  obtain ⟨a1,a2,a3,a4,a5,a6,a7,c,d,b,a,e,f,g⟩:=h
  simp only [RowOk,e1,e2,e3,e4,e5,e7]
  exact ⟨a1,a2,a3,a4,e6,a6,a7,c,d,b,a,e,f,fun i k j=>(g i k j).mono hx⟩
 | dead v =>
  obtain ⟨a1,a2,a3,a4⟩:=h
  simp only [RowOk,e1,e3]
  exact ⟨a1,a2,e6,Nat.lt_of_lt_of_le a4 hx.size⟩
structure RelSt (w0:World) (M:Mem) (st:St) (w:World):Prop where
 below:Below w0.heap.size w0 w
 N:M.N=st.boxes.length
 NR:M.NR=st.rows.length
 top:∀ b,w.heap.size≤b→M.top b=0
 inj:∀ l l',l<M.N→l'<M.N→M.bx l=M.bx l'→l=l'
 box:∀ l cs,st.boxes[l]? = some cs→w0.heap.size≤M.bx l∧M.top (M.bx l)=0∧∃ c ty,w.heap[M.bx l]? = some (.cells c ty (0,0))∧c.size=cs.length∧(∀ x∈cs,x.one=true) ∧
  ∀ i (h1:i<c.size) (h2:i<cs.length),R w0 M w c[i] cs[i]
 row:∀ id x,st.rows[id]? = some x→RowOk w0 M w id x
 rowinj:∀ i j,i<M.NR→j<M.NR→M.blk i=M.blk j→i=j
 loop:LoopSt w0 M w st.loops
structure Rel (w0:World) (n:Nat) (M:Mem) (e:Env) (st:St) (a:Act) (w:World):Prop where
 st:RelSt w0 M st w
 size:a.tmps.size=n
 env:∀ s x,look e s=some x→entryOk w0 M w (a.tmps.getD s undef) x
section
variable {P:Program} {w0:World} {n:Nat} {M:Mem} {e:Env} {st:St} {a:Act} {w:World}
theorem L6 {t:TypeId} {s:Nat} {b:Bool} (h:G8 P t=some (s,b)):∃ i d,P.info? t=some i∧i.size=s∧P.underlying t=some d∧(match d with | .struct _ | .array _ _=>true | _=>false)=b:=by
 unfold G8 at h
 split at h
 ·rename_i i d h1 h2
  simp only [Option.some.injEq,Prod.mk.injEq] at h
  exact ⟨i,d,h1,h.1,h2,h.2⟩
 ·cases h
theorem Bm {t:TypeId} {s:Nat} {b:Bool} (h:G8 P t=some (s,b)) (w:World):(sizeOf t).run P w = .ok s w:=by
 obtain ⟨i,d,a,c,_,_⟩:=L6 h
 simp [sizeOf,typeInfo,a,c]
theorem Sv {t:TypeId} {s:Nat} {b:Bool} (h:G8 P t=some (s,b)) (w:World):(isAgg t).run P w = .ok b w:=by
 obtain ⟨i,d,_,_,a,h4⟩:=L6 h
 unfold isAgg
 rw [Sem.run_bind,run_underlying a w]
 subst h4
 cases d<;>rfl
theorem Vu {t:TypeId} {f o s:Nat} {b:Bool} (h:CN P t f=some (o,s,b)):∃ fs x,P.underlying t=some (.struct fs)∧fs[f]? = some x∧x.offset=o∧G8 P x.type=some (s,b):=by
 unfold CN at h
 split at h
 ·rename_i fs h1
  split at h
  ·rename_i x h2
   obtain ⟨⟨e,d⟩,c,a⟩:=Option.map_eq_some_iff.1 h
   simp only [Prod.mk.injEq] at a
   obtain ⟨rfl,rfl,rfl⟩:=a
   exact ⟨fs,x,h1,h2,rfl,c⟩
  ·cases h
 ·cases h
theorem Gt {t el:TypeId} {s by8:Nat} {b:Bool} (h:Lr P t=some (el,s,b,by8)):∃ i,P.underlying t=some (.slice el)∧P.info? el=some i∧i.bytes=by8∧G8 P el=some (s,b):=by
 unfold Lr at h
 split at h
 ·rename_i e' h1
  split at h
  ·rename_i i s' b' h2 h3
   simp only [Option.some.injEq,Prod.mk.injEq] at h
   obtain ⟨rfl,rfl,rfl,rfl⟩:=h
   exact ⟨i,h1,h2,rfl,h3⟩
  ·cases h
 ·cases h
theorem Q7 {t:TypeId} {m s:Nat} {b:Bool} (h:EX P t=some (m,s,b)):∃ el,P.underlying t=some (.array m el)∧G8 P el=some (s,b):=by
 unfold EX at h
 split at h
 ·rename_i m' el h1
  obtain ⟨⟨e,d⟩,c,a⟩:=Option.map_eq_some_iff.1 h
  simp only [Prod.mk.injEq] at a
  obtain ⟨rfl,rfl,rfl⟩:=a
  exact ⟨el,h1,c⟩
 ·cases h
theorem EN {t:TypeId} (h:EE P t=true):P.underlying t=some .string:=by
 unfold EE at h
 split at h
 ·assumption
 ·cases h
theorem QX {t:TypeId} {k:IntKind} (h:Nq P t=some k):P.underlying t=some (.int k):=by
 unfold Nq at h
 split at h
 ·rename_i k' h1;cases h;exact h1
 ·cases h
theorem ZaC:R w0 M w undef .junk := .tup rfl (fun i a=>absurd a (by simp))
theorem YN {v:Value} (h:Pm v=true):R w0 M w v (M5 v):=by
 unfold M5
 split
 ·exact .nil (fun id=>by simp)
 ·rename_i hne
  refine .flat ?_
  unfold Pm at h
  split at h
  ·exact absurd rfl hne
  ·exact h
theorem Z4 {v:Value} (h:Pm v=true):(M5 v).one=true:=by
 unfold M5
 split<;>rfl
theorem Ql {v:Value} (h:N3 v=true):R w0 M w v (Iy v):=by
 cases v with
 | agg cs =>
  have a:∀ x∈cs.toList,Pm x=true:=List.all_eq_true.1 h
  refine .agg (by simp) (fun x b=>?_) (fun i e d=>?_)
  ·obtain ⟨y,c,rfl⟩:=List.mem_map.1 b
   exact Z4 (a y c)
  ·simp only [List.getElem_map,Array.getElem_toList]
   exact YN (a _ (by simp))
 | _=>exact YN h
theorem A2 (h:Rel w0 n M e st a w) {x:Operand} (ho:AM e true x):R w0 M w (a.eval x) (Az e x):=by
 cases x with
 | tmp t =>
  simp only [AM,Az] at *
  cases hl:look e t with
  | none=>simp [hl] at ho
  | some x =>
   obtain ⟨c,v⟩:=x
   simp only [hl] at ho ⊢
   have:=h.env t _ hl
   unfold entryOk at this
   rw [Ai (by simpa using ho)] at this
   exact this
 | const v=>exact Ql ho
 | func f=>exact .clo rfl (fun i b=>absurd b (by simp))
 | global g=>exact ho.elim
theorem R.val_inv {v u:Value} (h:R w0 M w v (.val u)):v=u∧F2 u=true:=by cases h;exact ⟨rfl,‹_›⟩
theorem R.plain {v:Value} {x:AV} (h:R w0 M w v x) (hp:E4 x=true):v=GV x∧F2 (GV x)=true∧x = .val (GV x):=by
 cases x with
 | val u=>obtain ⟨rfl,a⟩:=h.val_inv;exact ⟨rfl,a,rfl⟩
 | _=>cases hp
theorem R.int {v:Value} {x:AV} (h:R w0 M w v x) (hp:DY x=true):v = .int (J8 x) (AL x)∧x = .val (.int (J8 x) (AL x)):=by
 cases x with
 | val u =>
  obtain ⟨rfl,a⟩:=h.val_inv
  cases v<;>first | exact ⟨rfl,rfl⟩ | cases hp
 | _=>cases hp
theorem R.bool {v:Value} {x:AV} (h:R w0 M w v x) (hp:UO x=true):v = .bool (JF x)∧x = .val (.bool (JF x)):=by
 cases x with
 | val u =>
  obtain ⟨rfl,a⟩:=h.val_inv
  cases v<;>first | exact ⟨rfl,rfl⟩ | cases hp
 | _=>cases hp
def Yields' (P:Program) (w0:World) (M:Mem) (st':St) (r:AV) (w:World) (s:Sem Next):Prop :=
 ∃ v w' M',(s.run P w = .ok (.value v) w'∨(s.run P w = .ok .skip w'∧v=undef))∧Ext w0 M w M' w'∧RelSt w0 M' st' w'∧R w0 M' w' v r
theorem LE (hst:RelSt w0 M st w) {s:Sem Next} {v:Value} {r:AV} (hs:s.run P w = .ok (.value v) w) (hr:R w0 M w v r):Yields' P w0 M st r w s :=
 ⟨v,w,M,.inl hs,Ext.refl _ _ _,hst,hr⟩
theorem LU {k:IntKind} {m:Int} (h:inK k m):k.wrap m=m:=by
 cases k<;>simp only [inK] at h<;>simp only [IntKind.wrap,IntKind.signed,IntKind.bits]<;>simp<;>omega
theorem O4 (x y:ByteArray):(x.toList == y.toList)=Gn x y:=by
 unfold Gn
 rw [Lib.toList_data,Lib.toList_data]
theorem XX {op:BinOp} {x y:Value} {t:TypeId} {X Y:Operand} (h:(evBin op x y).1) :
  (do eqGuard op t X Y x y;binOp op t x y:Sem Value).run P w = .ok (evBin op x y).2 w:=by
 unfold evBin at h ⊢
 split at h<;>simp only at h ⊢ <;> try exact h.elim
 case h_1 k a k' b=>obtain ⟨rfl,h⟩:=h;simp [eqGuard,binOp,Op.intArith,LU h]
 case h_2 k a k' b=>obtain ⟨rfl,h⟩:=h;simp [eqGuard,binOp,Op.intArith,LU h]
 case h_3 k a k' b=>obtain ⟨rfl,h⟩:=h;simp [eqGuard,binOp,Op.intArith,LU h]
 case h_4 k a k' b =>
  obtain ⟨rfl,c,h⟩:=h
  simp [eqGuard,binOp,Op.intDiv,c,LU h]
 case h_5 k a k' b =>
  obtain ⟨rfl,c⟩:=h
  simp [eqGuard,binOp,Op.intDiv,c]
 case h_6 k a k' b=>subst h;simp [eqGuard,binOp,Op.intCmp];rfl
 case h_7 k a k' b=>subst h;simp [eqGuard,binOp,Op.intCmp];rfl
 case h_8 k a k' b=>subst h;simp [eqGuard,binOp,Op.intCmp]
 case h_9 k a k' b=>subst h;simp [eqGuard,binOp,Op.intCmp]
 case h_10 k a k' b=>subst h;simp [eqGuard,binOp,Op.intCmp]
 case h_11 k a k' b=>subst h;simp [eqGuard,binOp,Op.intCmp]
 case h_12 x y =>
  have e:¬ (((x.size+y.size:Nat):Int) > IntKind.i64.max):=by simp [IntKind.max,IntKind.signed,IntKind.bits];omega
  simp only [eqGuard,binOp,Op.stringOp,Aj e]
  simp
 case h_13 x y=>simp [eqGuard,binOp,Op.stringOp,O4]
 case h_14 x y=>simp [eqGuard,binOp,Op.stringOp,O4]
 case h_15 x y=>simp [eqGuard,binOp,Op.stringOp,Lib.toList_data,sLt]
 case h_16 x y=>simp [eqGuard,binOp,Op.stringOp,Lib.toList_data,sLt,Gn]
 case h_17 x y=>simp [eqGuard,binOp,Op.stringOp,Lib.toList_data,sLt,Gn]
 case h_18 x y=>simp [eqGuard,binOp,Op.stringOp,Lib.toList_data,sLt]
 case h_19 k a k' b =>
  obtain ⟨rfl,h⟩:=h
  have e:Nat.min (Int.toNat 1) k.bits=1:=by cases k<;>rfl
  have d:min (Int.toNat 1) k.bits=1:=by cases k<;>rfl
  simp only [eqGuard,binOp,Op.shift,e,d]
  simp [Int.fdiv_eq_ediv_of_nonneg]
section
theorem Xm {d:Nat} {t:TypeId} {u v:Value} (h:KE P t (.val u) (.val v)):(Op.equalIn (d+1) t u v).run P w = .ok (eqCell (.val u) (.val v)) w:=by
 unfold KE at h
 split at h
 ·rename_i k a k' b e1 e2
  cases e1;cases e2
  obtain ⟨h1,rfl⟩:=h
  unfold Nq at h1
  split at h1
  ·rename_i k1 hk
   rw [run_equalIn_int w d t _ k1 a b hk];rfl
  ·cases h1
 ·rename_i a b e1 e2
  cases e1;cases e2
  unfold EE at h
  split at h
  ·rename_i hk
   rw [run_equalIn_string w d t a b hk,O4];rfl
  ·cases h
 ·rename_i a b e1 e2
  cases e1;cases e2
  unfold LR at h
  split at h
  ·rename_i hk
   rw [run_equalIn_bool' w d t a b hk];rfl
  ·cases h
 ·exact h.elim
theorem Xe {t:TypeId} {x y:AV} (h:KE P t x y):∃ u v,x = .val u∧y = .val v:=by
 unfold KE at h
 split at h
 ·exact ⟨_,_,rfl,rfl⟩
 ·exact ⟨_,_,rfl,rfl⟩
 ·exact ⟨_,_,rfl,rfl⟩
 ·exact h.elim
theorem XJ {t:TypeId} (ht:G8 P t=some (1,false)) {cs:Array Value} {i:Nat} {v:Value} (h:cs[i]? = some v):(part t cs i).run P w = .ok v w:=by
 obtain ⟨c,d,f,e,b,h4⟩:=L6 ht
 have a:(isAgg t).run P w = .ok false w:=by
  simp only [isAgg,Sem.run_bind,run_underlying b,Result.andThen_ok]
  cases d<;>first | (cases h4;done) | rfl | (cases h4;rfl)
 simp [part,a,h]
theorem Kw (d:Nat) {cs ds:Array Value}:∀ (fs:List Field) (i:Nat) (xs ys:List AV),Xa P fs i xs ys→(∀ j v,xs[j]? = some (.val v)→cs[i+j]? = some v)→(∀ j v,ys[j]? = some (.val v)→ds[i+j]? = some v) →
  (Op.eqFields (d+1) cs ds fs).run P w = .ok (Ni xs ys) w
 | [],_,[],[],_,_,_=>by simp [Op.eqFields,Ni]
 | f::fs,i,x::xs,y::ys,h,hx,hy=>by
  obtain ⟨l,rfl,e,b,k⟩:=h
  obtain ⟨u,v,rfl,rfl⟩:=Xe b
  have c:=XJ (w:=w) e (hx 0 u rfl)
  have g:=XJ (w:=w) e (hy 0 v rfl)
  simp only [Nat.add_zero] at c g
  have ih:=Kw d fs _ xs ys k (fun j v a=>by rw [Nat.add_assoc,Nat.add_comm 1 j];exact hx (j+1) v a) (fun j v a=>by rw [Nat.add_assoc,Nat.add_comm 1 j];exact hy (j+1) v a)
  simp only [Op.eqFields,Ai l,Sem.run_bind,c,g,Result.andThen_ok,Xm b,Ni]
  cases hc:eqCell (.val u) (.val v)
  ·simp
  ·simp [ih]
 | [],_,[],_::_,h,_,_=>h.elim
 | [],_,_::_,_,h,_,_=>h.elim
 | _::_,_,[],_,h,_,_=>h.elim
 | _::_,_,_::_,[],h,_,_=>h.elim
theorem ZbF {op:BinOp} {t:TypeId} {cs ds:Array Value} {xs ys:List AV} {X Y:Operand} (h:(Nn P op t xs ys).1) (hx:∀ (j:Nat) (v:Value),xs[j]? = some (.val v)→cs[j]? = some v) (hy:∀ (j:Nat) (v:Value),ys[j]? = some (.val v)→ds[j]? = some v) :
  (do eqGuard op t X Y (.agg cs) (.agg ds);binOp op t (.agg cs) (.agg ds):Sem Value).run P w = .ok (.bool (Nn P op t xs ys).2) w:=by
 unfold Nn at h ⊢
 unfold eqT at h ⊢
 cases hu:P.underlying t with
 | none=>rw [hu] at h;exact h.elim
 | some d =>
  cases d<;>(try (rw [hu] at h;exact h.elim))
  rename_i fs
  rw [hu] at h
  simp only at h ⊢
  by_cases hc:P.stoodInHeld t=false∧P.eqGuardType P.depth t=false
  ·rw [Ai hc] at h ⊢
   have c:P.fieldsOf t=fs:=by unfold Program.fieldsOf;rw [hu]
   have b:P.underlying t=some (.struct (P.fieldsOf t)):=by rw [c];exact hu
   cases op<;>simp only at h ⊢ <;> (try exact h.elim)
   ·have:=Kw (P:=P) (w:=w) 9998 fs.toList 0 xs ys h (fun j v a=>by rw [Nat.zero_add];exact hx j v a) (fun j v a=>by rw [Nat.zero_add];exact hy j v a)
    simp only [Sem.run_bind,run_eqGuard_agg w _ t X Y cs ds hc.2,Result.andThen_ok,run_eql_struct,run_equalIn_agg w 9999 t cs ds b hc.1,c,this]
   ·have:=Kw (P:=P) (w:=w) 9998 fs.toList 0 xs ys h (fun j v a=>by rw [Nat.zero_add];exact hx j v a) (fun j v a=>by rw [Nat.zero_add];exact hy j v a)
    simp only [Sem.run_bind,run_eqGuard_agg w _ t X Y cs ds hc.2,Result.andThen_ok,run_neq_struct,run_equalIn_agg w 9999 t cs ds b hc.1,c,this]
  ·rw [Aj hc] at h;exact h.elim
end
theorem R.aggC {w0:World} {M:Mem} {w:World} {v:Value} {x:AV} (h:R w0 M w v x) (hx:FT x=true):∃ cs,v = .agg cs∧∀ (j:Nat) (u:Value),(Mc x)[j]? = some (.val u)→cs[j]? = some u:=by
 cases h with
 | @agg cs xs hl h1 h =>
  refine ⟨cs,rfl,fun j u c=>?_⟩
  replace c:xs[j]? = some (.val u):=c
  obtain ⟨b,d⟩:=Ak.1 c
  have hr:=h j (by omega) b
  have a:xs[j]'b = .val u:=d
  rw [a] at hr
  have e:j<cs.size:=by omega
  rw [Array.getElem?_eq_getElem e]
  generalize cs[j]=q at hr
  cases hr
  rfl
 | _=>cases hx
theorem Z9 {op:BinOp} {x y:Value} (h:(evBin op x y).1):F2 (evBin op x y).2=true:=by
 unfold evBin at h ⊢
 split at h<;>simp only at h ⊢ <;> try first | exact h.elim | rfl
 rename_i x y
 have e:(x++y).size=x.size+y.size:=ByteArray.size_append
 simp only [F2,maxLen,e]
 simp
 omega
theorem Zk {op:UnOp} {x:Value} (h:(evUn op x).1):(Op.unary op x).run P w = .ok (evUn op x).2 w:=by
 unfold evUn at h ⊢
 split at h<;>simp only at h ⊢ <;> try exact h.elim
 ·simp [Op.unary]
 ·have e:=LU h
  simp only [Op.unary,Op.intArith,e]
  rfl
theorem Zbf {op:UnOp} {x:Value} (h:(evUn op x).1):F2 (evUn op x).2=true:=by
 unfold evUn at h ⊢
 split at h<;>simp only at h ⊢ <;> first | exact h.elim | rfl
theorem Eh (b o j:Nat):(⟨b,o,none⟩:Addr).add j=⟨b,o+j,none⟩:=by
 unfold Addr.add
 split
 ·subst j;rfl
 ·rfl
theorem EM {rows:List RowA} {id ver sz:Nat} {cs:List AV} (h:EJ rows id ver=some (sz,cs)):rows[id]? = some (.vec ver sz cs):=by
 unfold EJ at h
 split at h
 ·rename_i v s c he
  split at h
  ·rename_i hv;cases h;rw [he,hv]
  ·cases h
 ·cases h
theorem QQ {rows:List RowA} {id ver:Nat} (h:(EJ rows id ver).isSome=true):∃ sz cs,EJ rows id ver=some (sz,cs):=by
 obtain ⟨⟨a,b⟩,h⟩:=Option.isSome_iff_exists.1 h
 exact ⟨a,b,h⟩
theorem XK (hst:RelSt w0 M st w) {v:Value} {x:AV} (h:R w0 M w v x) (hr:Du st x=true) :
  ∃ b o,v = .pointer (some ⟨b,o+D5 x,none⟩)∧(∀ c∈Bc st x,c.one=true)∧∀ j (hj:j<(Bc st x).length),∃ u,w.cell? ⟨b,o+j,none⟩=some u∧R w0 M w u (Bc st x)[j]:=by
 cases x with
 | box l off =>
  cases h with
  | box hl =>
   have i:l<st.boxes.length:=by simpa [Du] using hr
   obtain ⟨cs,d⟩:∃ cs,st.boxes[l]? = some cs:=⟨_,List.getElem?_eq_getElem i⟩
   obtain ⟨_,_,c,p,t,s,q,m⟩:=hst.box l cs d
   have e:Bc st (.box l off)=cs:=by simp [Bc,List.getD,d]
   refine ⟨M.bx l,0,by simp [D5],by rw [e];exact q,fun j hj=>?_⟩
   simp only [e] at hj ⊢
   refine ⟨c[j]'(by omega),?_,m j (by omega) hj⟩
   rw [Nat.zero_add,cell_of_row w _ j c p _ t]
   exact Array.getElem?_eq_getElem (by omega)
 | elem y k =>
  cases h with
  | @elem b off x u k hcell hu =>
   obtain ⟨hs,m⟩:=hu.cells
   refine ⟨b,off,rfl,?_,fun j hj=>?_⟩
   ·refine hu.cellsOne (fun vs hv=>?_)
    subst hv
    simp [Du] at hr
   ·have f:j<u.cells.size:=by rw [hs];exact hj
    refine ⟨u.cells[j],?_,m j f hj⟩
    rw [(hcell j f).2]
    exact Array.getElem?_eq_getElem f
 | vel id ver off =>
  cases h with
  | @vel _ _ _ a hi hv hh =>
   obtain ⟨sz,cs,d⟩:=QQ (show (EJ st.rows id ver).isSome=true from hr)
   obtain ⟨C,F,D,K,G,J,H,c,p,z,E,r,g,n⟩:=hst.row id _ (EM d)
   have e:Bc st (.vel id ver off)=cs:=by simp [Bc,d]
   refine ⟨M.blk id,0,by rw [hh C.symm];simp [D5],by rw [e];exact g,fun j hj=>?_⟩
   simp only [e] at hj ⊢
   refine ⟨c[j]'(by omega),?_,n j (by omega) hj⟩
   rw [Nat.zero_add,cell_of_row w _ j c p _ z]
   exact Array.getElem?_eq_getElem (by omega)
 | _=>cases hr
theorem Yields'.value {s:Sem Value} {st':St} {r:AV} (h:∃ v w' M',s.run P w = .ok v w'∧Ext w0 M w M' w'∧RelSt w0 M' st' w'∧R w0 M' w' v r) :
  Yields' P w0 M st' r w (do pure (.value (← s))):=by
 obtain ⟨v,w',M',hs,a,b,c⟩:=h
 exact ⟨v,w',M',.inl (by simp [hs]),a,b,c⟩
theorem Yields'.here (hst:RelSt w0 M st w) {s:Sem Value} {v:Value} {r:AV} (hs:s.run P w = .ok v w) (hr:R w0 M w v r) :
  Yields' P w0 M st r w (do pure (.value (← s))) := .value ⟨v,w,M,hs,Ext.refl _ _ _,hst,hr⟩
theorem ZU {t:TypeId} (h:LR P t=true):P.underlying t=some .bool:=by
 unfold LR at h
 split at h
 ·assumption
 ·cases h
theorem ZcP {op:BinOp} {a b:Bool} {t:TypeId} {X Y:Operand} (ht:LR P t=true) (h:(evBB op a b).1):(do eqGuard op t X Y (.bool a) (.bool b);binOp op t (.bool a) (.bool b):Sem Value).run P w = .ok (.bool (evBB op a b).2) w:=by
 have c:=ZU ht
 cases op<;>try exact h.elim
 ·simp [eqGuard,binOp,run_equal_bool w t a b c,evBB]
 ·simp [eqGuard,binOp,run_equal_bool w t a b c,evBB];cases a<;>cases b<;>rfl
theorem RV (d:Nat) (t:TypeId) (v:Value) {ms:Array (String × TypeId)} (hu:P.underlying t=some (.interface ms)) (hv:PT v=true):(Op.equalIn (d+1) t v .nilIface).run P w = .ok (F9 v) w:=by
 cases v<;>first | cases hv | skip
 all_goals simp [Op.equalIn,run_underlying hu,F9]
theorem ZbE {op:BinOp} {v:Value} {t:TypeId} {X Y:Operand} (ht:We P t=true) (hy:Tm Y=true) (h:(TQ op v).1):(do eqGuard op t X Y v .nilIface;binOp op t v .nilIface:Sem Value).run P w = .ok (.bool (TQ op v).2) w:=by
 obtain ⟨ms,hu⟩:∃ ms,P.underlying t=some (.interface ms):=by
  unfold We at ht
  split at ht
  ·exact ⟨_,‹_›⟩
  ·cases ht
 have d:∃ c,Y = .const c:=by
  cases Y<;>first | exact ⟨_,rfl⟩ | cases hy
 obtain ⟨c,rfl⟩:=d
 have a:∀ v,PT v=true→(eqGuard op t X (.const c) v .nilIface).run P w = .ok () w∧(Op.equal t v .nilIface).run P w = .ok (F9 v) w:=by
  intro v hv
  cases v<;>first | cases hv | skip
  all_goals
   refine ⟨?_,RV 9999 t _ hu rfl⟩
   cases op<;>cases X<;>simp [eqGuard]
 cases op<;>first | exact h.elim | skip
 all_goals
  obtain ⟨e,b⟩:=a v h
  simp only [Sem.run_bind,e,Result.andThen_ok]
  cases v<;>first | cases h | skip
  all_goals simp [binOp,b,TQ]
theorem ZdC (h:Rel w0 n M e st a w) (op:BinOp) (t:TypeId) (x y:Operand) (u:TypeId) (hob:(A0 P e true st (.binOp op t x y u)).1) :
  Yields' P w0 M (A0 P e true st (.binOp op t x y u)).2.2 (A0 P e true st (.binOp op t x y u)).2.1 w (do pure (.value (← (do eqGuard op t x y (a.eval x) (a.eval y);binOp op t (a.eval x) (a.eval y))))):=by
 simp only [A0] at hob ⊢
 by_cases hc:(UO (Az e x)&&UO (Az e y))=true
 ·rw [Ai hc] at hob ⊢
  simp only [Bool.and_eq_true] at hc
  obtain ⟨d,g,i,b⟩:=hob
  obtain ⟨c,_⟩:=(A2 h d).bool hc.1
  obtain ⟨f,_⟩:=(A2 h g).bool hc.2
  rw [c,f]
  exact .here h.st (ZcP i b) (.flat rfl)
 ·rw [Aj hc] at hob ⊢
  by_cases hg:(FT (Az e x)&&FT (Az e y))=true
  ·rw [Ai hg] at hob ⊢
   simp only [Bool.and_eq_true] at hg
   obtain ⟨d,g,b⟩:=hob
   obtain ⟨cs,c,k⟩:=(A2 h d).aggC hg.1
   obtain ⟨m,f,j⟩:=(A2 h g).aggC hg.2
   rw [c,f]
   exact .here h.st (ZbF b k j) (.flat rfl)
  rw [Aj hg] at hob ⊢
  by_cases hn:Tm y=true
  ·rw [Ai hn] at hob ⊢
   obtain ⟨d,px,i,b⟩:=hob
   obtain ⟨c,_,_⟩:=(A2 h d).plain px
   have f:a.eval y = .nilIface:=by
    cases y with
    | const v=>cases v<;>first | rfl | cases hn
    | _=>cases hn
   rw [c,f]
   exact .here h.st (ZbE i hn b) (.flat rfl)
  rw [Aj hn] at hob ⊢
  obtain ⟨d,g,px,l,b⟩:=hob
  obtain ⟨c,_,_⟩:=(A2 h d).plain px
  obtain ⟨f,_,_⟩:=(A2 h g).plain l
  rw [c,f]
  exact .here h.st (XX b) (.flat (Z9 b))
theorem Zgf (h:Rel w0 n M e st a w) (op:UnOp) (t:TypeId) (x:Operand) (hob:(A0 P e true st (.unOp op t x)).1) :
  Yields' P w0 M st (.val (evUn op (GV (Az e x))).2) w (do pure (.value (← Op.unary op (a.eval x)))):=by
 obtain ⟨d,px,b⟩:=hob
 obtain ⟨c,_,_⟩:=(A2 h d).plain px
 rw [c]
 exact .here h.st (Zk b) (.flat (Zbf b))
theorem ZiG {t:Bool} {u v:Value} {x y:AV} (hx:t=true→R w0 M w u x) (hy:t=false→R w0 M w v y):R w0 M w (if t then u else v) (AV.sel t x y):=by
 have a:AV.sel false x y=y:=by unfold AV.sel;split<;>rfl
 have b:AV.sel true x y=x:=by unfold AV.sel;split<;>rfl
 cases t
 ·rw [a];exact hy rfl
 ·rw [b];exact hx rfl
theorem Zfd (h:Rel w0 n M e st a w) (b x y:Operand) (hob:(A0 P e true st (.pick b x y)).1) :
  Yields' P w0 M st (AV.sel (JF (Az e b)) (Az e x) (Az e y)) w (do pure (.value (if ← asBool (a.eval b) then a.eval x else a.eval y))):=by
 obtain ⟨d,c,g,i⟩:=hob
 obtain ⟨f,_⟩:=(A2 h d).bool c
 refine LE h.st (v:=if JF (Az e b) then a.eval x else a.eval y) ?_ (ZiG (fun q=>A2 h (g rfl q)) (fun q=>A2 h (i rfl q)))
 rw [f]
 simp [asBool]
theorem MN {t:TypeId} {sz:Nat} {ag:Bool} (ht:G8 P t=some (sz,ag)) {b o:Nat} {f:Nat→Value} (hc:∀ j,j<sz→w.cell? ⟨b,o+j,none⟩=some (f j)) (h1:ag=true∨sz=1) :
  (loadVar t ⟨b,o,none⟩).run P w = .ok (if ag then .agg ((List.range sz).map f).toArray else f 0) w:=by
 unfold loadVar
 rw [Sem.run_bind,Sv ht]
 cases ag with
 | true =>
  simp only [Result.andThen_ok,if_true,Sem.run_bind,Bm ht,run_loadCells w ⟨b,o,none⟩ sz f (fun j a=>by rw [Eh];exact hc j a)]
  rfl
 | false =>
  have:sz=1:=by simpa using h1
  subst this
  have:=hc 0 (by omega)
  simp only [Nat.add_zero] at this
  simp [this]
theorem Qn {cs:List AV} {f:Nat→Value} {o sz:Nat} {ag:Bool} (h1:∀ c∈cs,c.one=true) (ho:o+sz≤cs.length) (hs:ag=true∨sz=1)
  (hR:∀ j (hj:o+j<cs.length),R w0 M w (f j) cs[o+j]):R w0 M w (if ag then .agg ((List.range sz).map f).toArray else f 0) (OG ag cs o sz):=by
 unfold OG
 cases ag with
 | true =>
  simp only [if_true]
  refine .agg (by simp;omega) (fun x a=>h1 x (List.mem_of_mem_drop (List.mem_of_mem_take a))) (fun i a1 a2=>?_)
  simp only [List.getElem_take,List.getElem_drop,List.getElem_toArray,List.getElem_map,List.getElem_range]
  exact hR i (by simp at a1;omega)
 | false =>
  have:sz=1:=by simpa using hs
  subst this
  have:=hR 0 (by omega)
  simp only [Nat.add_zero] at this
  simpa [Y5,List.getD,List.getElem?_eq_getElem (show o<cs.length by omega)] using this
theorem Zf6 (h:Rel w0 n M e st a w) (t:TypeId) (x:Operand) (hob:(A0 P e true st (.load t x)).1) :
  Yields' P w0 M st (A0 P e true st (.load t x)).2.1 w (do pure (.value (← Instr.loadAt t (a.eval x)))):=by
 unfold A0 at hob ⊢
 cases ht:G8 P t with
 | none=>simp [ht] at hob
 | some p =>
  obtain ⟨sz,s⟩:=p
  simp only [ht] at hob ⊢
  obtain ⟨D,C,l,q⟩:=hob
  obtain ⟨b,o,ev,d,m⟩:=XK h.st (A2 h D) C
  rw [ev]
  have g:∀ j,j<sz→∃ u,w.cell? ⟨b,o+D5 (Az e x)+j,none⟩=some u∧∀ c,R w0 M w u ((Bc st (Az e x))[D5 (Az e x)+j]'c):=by
   intro j c
   obtain ⟨u,y,z⟩:=m (D5 (Az e x)+j) (by omega)
   exact ⟨u,by rw [←y,Nat.add_assoc],fun _=>z⟩
  let f:Nat→Value:=fun j=>((w.cell? ⟨b,o+D5 (Az e x)+j,none⟩).getD undef)
  have r:∀ j,j<sz→w.cell? ⟨b,o+D5 (Az e x)+j,none⟩=some (f j):=fun j c=>by
   obtain ⟨u,i,_⟩:=g j c
   simp [f,i]
  refine .here h.st (v:=if s then .agg ((List.range sz).map f).toArray else f 0) ?_ (Qn d l q (fun j c=>?_))
  ·simp only [Instr.loadAt,Instr.sureAddr,Sem.run_bind,Sem.run_pure,Result.andThen_ok]
   exact MN ht r q
  ·by_cases hjs:j<sz
   ·obtain ⟨u,i,k⟩:=g j hjs
    have:f j=u:=by simp [f,i]
    rw [this]
    exact k c
   ·obtain ⟨u,i,k⟩:=m (D5 (Az e x)+j) c
    have:f j=u:=by simp [f,Nat.add_assoc,i]
    rw [this]
    exact k
theorem QB (hst:RelSt w0 M st w) {v:Value} {x:AV} (h:R w0 M w v x) (hr:Du st x=true):∃ b o,v = .pointer (some ⟨b,o,none⟩)∧∀ k,R w0 M w (.pointer (some ⟨b,o+k,none⟩)) (Q2 x k):=by
 cases x with
 | box l off=>cases h with | box hl=>exact ⟨_,_,rfl,fun k => .box hl⟩
 | elem y k =>
  cases h with
  | @elem b off x u k hcell hu=>exact ⟨_,_,rfl,fun f=>by rw [Nat.add_assoc];exact .elem u (k+f) hcell hu⟩
 | vel id ver off =>
  cases h with
  | @vel _ _ _ a hi hv hh =>
   obtain ⟨sz,cs,c⟩:=QQ (show (EJ st.rows id ver).isSome=true from hr)
   have d:=(hst.row id _ (EM c)).1
   have e:=hh d.symm
   exact ⟨M.blk id,off,by rw [e],fun k => .vel hi hv fun _=>rfl⟩
 | _=>cases hr
theorem Yo (h:Rel w0 n M e st a w) (o:Oper) (x:Operand) (ho:o.op = .nilCheck x) (hob:(A0 P e true st (.nilCheck x)).1) :
  Yields' P w0 M st (Az e x) w (execOp a.eval o):=by
 obtain ⟨c,d⟩:=hob
 obtain ⟨b,o',ev,_⟩:=QB h.st (A2 h c) d
 refine LE h.st (v:=a.eval x) ?_ (A2 h c)
 simp only [execOp,ho,ev]
 rfl
theorem Yv (h:Rel w0 n M e st a w) (f:FuncId) (fi cap:Array Operand) (hob:(A0 P e true st (.makeFunc (.func f) fi cap)).1) :
  Yields' P w0 M st (.clo f (cap.toList.map (Az e))) w (do pure (.value (← Instr.makeFunc (.func f) (fi.map a.eval) (cap.map a.eval)))):=by
 obtain ⟨b,c⟩:=hob
 refine .here h.st (v := .func (.func f) (fi.map a.eval) (cap.map a.eval)) rfl ?_
 have:fi.map a.eval = #[]:=by simp [Array.size_eq_zero_iff.1 b]
 rw [this]
 refine .clo (by simp) (fun i d g=>?_)
 simp only [Array.getElem_map,List.getElem_map,Array.getElem_toList]
 exact A2 h (c _ (by simp))
theorem Wh (h:Rel w0 n M e st a w) (t:TypeId) (x:Operand) (f:Nat) (hob:(A0 P e true st (.fieldAddr t x f)).1) :
  Yields' P w0 M (A0 P e true st (.fieldAddr t x f)).2.2 (A0 P e true st (.fieldAddr t x f)).2.1 w (do pure (.value (← Instr.fieldAt t (a.eval x) f))):=by
 unfold A0 at hob ⊢
 cases hf:CN P t f with
 | none=>simp [hf] at hob
 | some p =>
  obtain ⟨o,sz,q⟩:=p
  simp only [hf] at hob ⊢
  obtain ⟨j,k,s⟩:=hob
  obtain ⟨r,y,l,g,i,d⟩:=Vu hf
  obtain ⟨b,o',ev,m⟩:=QB h.st (A2 h j) k
  refine .here h.st (v := .pointer (some ⟨b,o'+o,none⟩)) ?_ (m o)
  rw [ev]
  have c:¬ sz=0:=by omega
  simp [Instr.fieldAt,run_underlying l,g,Instr.sureAddr,fieldPlace,i,Eh,Bm d,c]
theorem Vy {t:TypeId} {sz:Nat} {ag:Bool} (ht:G8 P t=some (sz,ag)) {cs:Array Value} {o:Nat} (ho:o+sz≤cs.size) (h1:ag=true∨sz=1) :
  (part t cs o).run P w = .ok (if ag then .agg ((List.range sz).map fun j=>cs.getD (o+j) undef).toArray else cs.getD o undef) w:=by
 unfold part
 rw [Sem.run_bind,Sv ht]
 cases ag with
 | true =>
  simp only [Result.andThen_ok,if_true,Sem.run_bind,Bm ht,Sem.run_pure]
  congr 2
  apply Array.ext
  ·simp;omega
  ·intro i h1 b
   simp at h1 b
   simp [show o+i<cs.size by omega]
 | false =>
  have:sz=1:=by simpa using h1
  subst this
  have a:o<cs.size:=by omega
  simp [a]
theorem R.agg_inv {v:Value} {x:AV} (h:R w0 M w v x) (ha:FT x=true):∃ cs,v = .agg cs∧cs.size=x.cells.length∧(∀ y∈x.cells,y.one=true)∧∀ j (hj:j<x.cells.length),R w0 M w (cs.getD j undef) x.cells[j]:=by
 cases x with
 | agg xs =>
  cases h with
  | agg hl h1 hR =>
   rename_i cs
   refine ⟨cs,rfl,hl,h1,fun j hj=>?_⟩
   have a:j<cs.size:=by rw [hl];exact hj
   have e:cs.getD j undef=cs[j]:=by simp [a]
   rw [e]
   exact hR j a hj
 | _=>cases ha
theorem ZcL (h:Rel w0 n M e st a w) (t:TypeId) (x:Operand) (f:Nat) (hob:(A0 P e true st (.field t x f)).1) :
  Yields' P w0 M (A0 P e true st (.field t x f)).2.2 (A0 P e true st (.field t x f)).2.1 w (do pure (.value (← Instr.field t (a.eval x) f))):=by
 unfold A0 at hob ⊢
 cases hf:CN P t f with
 | none=>simp [hf] at hob
 | some p =>
  obtain ⟨o,sz,i⟩:=p
  simp only [hf] at hob ⊢
  obtain ⟨m,q,c,hs⟩:=hob
  obtain ⟨u,y,r,k,h3,d⟩:=Vu hf
  obtain ⟨cs,ev,s,b,g⟩:=(A2 h m).agg_inv q
  rw [ev]
  refine .here h.st (v:=if i then .agg ((List.range sz).map fun j=>cs.getD (o+j) undef).toArray else cs.getD o undef) ?_ (Qn (f:=fun j=>cs.getD (o+j) undef) b c hs (fun j l=>g _ l))
  subst h3
  simp [Instr.field,run_underlying r,k,asAgg,Vy (w:=w) d (cs:=cs) (o:=y.offset) (by omega) hs]
theorem R.list_inv {v:Value} {x:AV} (h:R w0 M w v x) (hl:Bv x=true) :
  (∃ a cap,v = .slice a (AP x).length cap∧(a=none→AP x=[]∧cap=0)∧(AP x).length≤cap∧cap≤maxLen):=by
 cases x with
 | list xs o =>
  cases h with
  | nil ho=>exact ⟨none,0,rfl,fun _=>⟨rfl,rfl⟩,Nat.zero_le _,by simp [maxLen]⟩
  | emp ho=>exact ⟨_,0,rfl,fun e=>(by cases e),Nat.zero_le _,by simp [maxLen]⟩
  | list sz us hc hm hcell hu ho=>exact ⟨_,_,rfl,fun e=>(by cases e),hc,hm⟩
 | _=>cases hl
theorem R.list_elem {v:Value} {xs:List AV} {o:Own} (h:R w0 M w v (.list xs o)) {i:Nat} (hi:i<xs.length) {sz:Nat} (hsz:xs[i].cells.length=sz) :
  ∃ b off cap,v = .slice (some ⟨b,off,none⟩) xs.length cap∧R w0 M w (.pointer (some ⟨b,off+i*sz,none⟩)) (.elem xs[i] 0):=by
 cases h with
 | nil ho=>exact absurd hi (by simp)
 | emp ho=>exact absurd hi (by simp)
 | @list b off cap _ _ sz' us hc hm hcell hu ho =>
  obtain ⟨a,c⟩:=hcell i hi
  have e:sz'=sz:=by rw [←a,(hu i hi).cells.1,hsz]
  subst e
  exact ⟨b,off,cap,rfl,.elem (us i) 0 (fun j d=>c j (by omega)) (hu i hi)⟩
theorem HG {x:AV} (h:Bv x=true):∃ xs o,x = .list xs o:=by
 cases x with
 | list xs o=>exact ⟨xs,o,rfl⟩
 | _=>cases h
theorem ZdV {l:List AV} {i:Nat} (h:i<l.length):Y5 l i=l[i]:=by simp [Y5,List.getD,List.getElem?_eq_getElem h]
theorem Wx (h:Rel w0 n M e st a w) (t:TypeId) (x i:Operand) (hob:(A0 P e true st (.indexAddr t x i)).1) :
  Yields' P w0 M (A0 P e true st (.indexAddr t x i)).2.2 (A0 P e true st (.indexAddr t x i)).2.1 w (do pure (.value (← Instr.indexAt t (a.eval x) (a.eval i)))):=by
 unfold A0 SA at hob ⊢
 cases he:Lr P t with
 | some p =>
  obtain ⟨Q,sz,U,Z⟩:=p
  simp only [he] at hob ⊢
  split at hob
  ·rename_i id ver o n' hx0
   cases hvr:EJ st.rows id ver with
   | none=>simp [hvr] at hob
   | some p =>
    obtain ⟨D,cs⟩:=p
    simp only [hvr] at hob ⊢
    obtain ⟨s,g,d,r,z,rfl⟩:=hob
    obtain ⟨y,u,_,_,c⟩:=Gt he
    obtain ⟨j,_⟩:=(A2 h g).int d
    have hR:=A2 h s
    rw [hx0] at hR
    generalize AL (Az e i)=m at *
    obtain ⟨k,rfl⟩:=Int.eq_ofNat_of_zero_le r
    have l:k<n':=by omega
    generalize hev:a.eval x=v at hR
    cases hR with
    | @vec _ _ _ _ p E hid hv hh =>
     obtain ⟨Y,O,_⟩:=h.st.row id _ (EM hvr)
     obtain ⟨rfl,G,H⟩:=hh Y.symm
     refine .here h.st (v := .pointer (some ⟨M.blk id,o*M.rsz id+k*D,none⟩)) ?_ ?_
     ·rw [j]
      simp [Instr.indexAt,asIntOf,run_underlying u,Bm c,Eh]
      omega
     ·refine .vel hid hv fun _=>?_
      rw [O,Int.toNat_natCast,Nat.add_mul]
  rename_i hx0
  obtain ⟨s,g,J,d,r,z,f⟩:=hob
  obtain ⟨y,u,_,_,c⟩:=Gt he
  obtain ⟨j,_⟩:=(A2 h g).int d
  have hR:=A2 h s
  obtain ⟨xs,o,C⟩:=HG J
  rw [C] at hR z f ⊢
  simp only [AP] at z f ⊢
  generalize AL (Az e i)=m at *
  obtain ⟨k,rfl⟩:=Int.eq_ofNat_of_zero_le r
  have l:k<xs.length:=by omega
  simp only [Int.toNat_natCast] at f ⊢
  rw [ZdV l] at f ⊢
  obtain ⟨b,F,E,ev,V⟩:=hR.list_elem l f
  refine .here h.st (v := .pointer (some ⟨b,F+k*sz,none⟩)) ?_ V
  rw [ev,j]
  simp [Instr.indexAt,asIntOf,run_underlying u,Bm c,Eh]
  omega
 | none =>
  simp only [he] at hob ⊢
  cases ha:EX P t with
  | none=>simp [ha] at hob
  | some p =>
   obtain ⟨m,sz,U⟩:=p
   simp only [ha] at hob ⊢
   obtain ⟨s,g,K,d,r,z⟩:=hob
   obtain ⟨Q,u,c⟩:=Q7 ha
   obtain ⟨j,_⟩:=(A2 h g).int d
   obtain ⟨b,o',ev,l⟩:=QB h.st (A2 h s) K
   generalize AL (Az e i)=q at *
   obtain ⟨k,rfl⟩:=Int.eq_ofNat_of_zero_le r
   have N:k<m:=by omega
   refine .here h.st (v := .pointer (some ⟨b,o'+k*sz,none⟩)) ?_ (by simpa using l (k*sz))
   rw [ev,j]
   simp [Instr.indexAt,asIntOf,run_underlying u,Bm c,Instr.sureAddr,Eh]
   omega
theorem getElem?_get! (s:ByteArray) (k:Nat) (hk:k<s.size):s[k]? = some (s.get! k):=by
 rw [getElem?_pos s k hk]
 congr 1
 simp only [ByteArray.get!]
 have:k<s.data.size:=hk
 rw [getElem!_pos s.data k this]
 rfl
theorem Zdb (h:Rel w0 n M e st a w) (t:TypeId) (x i:Operand) (hob:(A0 P e true st (.index t x i)).1) :
  Yields' P w0 M (A0 P e true st (.index t x i)).2.2 (A0 P e true st (.index t x i)).2.1 w (do pure (.value (← Instr.index t (a.eval x) (a.eval i)))):=by
 unfold A0 SA at hob ⊢
 simp only at hob ⊢
 split at hob
 ·rename_i s hx0
  obtain ⟨hs,E,y,d,D,G⟩:=hob
  obtain ⟨z,_⟩:=(A2 h y).int d
  have o:=A2 h E
  rw [hx0] at o
  obtain ⟨ev,_⟩:=o.val_inv
  generalize AL (Az e i)=q at *
  obtain ⟨k,rfl⟩:=Int.eq_ofNat_of_zero_le D
  have C:k<s.size:=by omega
  refine .here h.st (v := .int .u8 (s.get! k).toNat) ?_ (.flat rfl)
  rw [ev,z]
  have K:s[k]? = some (s.get! k):=getElem?_get! s k C
  simp [Instr.index,asIntOf,run_underlying (EN hs),K]
 ·rename_i cs hx0
  cases ha:EX P t with
  | none=>simp [ha] at hob
  | some p =>
   obtain ⟨m,sz,H⟩:=p
   simp only [ha] at hob ⊢
   obtain ⟨E,y,d,D,G,F,hs⟩:=hob
   obtain ⟨O,J,g⟩:=Q7 ha
   obtain ⟨z,_⟩:=(A2 h y).int d
   have o:=A2 h E
   rw [hx0] at o
   obtain ⟨c,ev,l,b,u⟩:=o.agg_inv rfl
   simp only [AV.cells] at l b u
   generalize AL (Az e i)=q at *
   obtain ⟨k,rfl⟩:=Int.eq_ofNat_of_zero_le D
   have C:k<m:=by omega
   have r:k*sz+sz≤cs.length:=by rw [F,←Nat.succ_mul];exact Nat.mul_le_mul_right _ C
   refine .here h.st (v:=if H then .agg ((List.range sz).map fun j=>c.getD (k*sz+j) undef).toArray else c.getD (k*sz) undef) ?_ ?_
   ·rw [ev,z]
    simp only [Instr.index,asIntOf,Sem.run_bind,Sem.run_pure,Result.andThen_ok,run_underlying J]
    rw [Ai ⟨by omega,by omega⟩]
    simp only [Sem.run_bind,Bm g,Result.andThen_ok,Int.toNat_natCast]
    exact Vy g (by rw [l];exact r) hs
   ·simp only [Int.toNat_natCast]
    exact Qn (f:=fun j=>c.getD (k*sz+j) undef) b r hs (fun j N=>u _ N)
 ·exact hob.elim
theorem ZN (h:Rel w0 n M e st a w) (x:Operand) (i:Nat) (hob:(A0 P e true st (.extract x i)).1) :
  Yields' P w0 M (A0 P e true st (.extract x i)).2.2 (A0 P e true st (.extract x i)).2.1 w (do pure (.value (← Instr.extract (a.eval x) i))):=by
 unfold A0 SA at hob ⊢
 simp only at hob ⊢
 split at hob
 ·rename_i vs hx0
  obtain ⟨c,b⟩:=hob
  have hR:=A2 h c
  rw [hx0] at hR
  generalize a.eval x=v at hR ⊢
  cases hR with
  | tup hl hR =>
   rename_i cs
   rw [ZdV b]
   refine .here h.st (v:=cs[i]'(by omega)) ?_ (hR i (by omega) b)
   simp [Instr.extract,show i<cs.size by omega]
 ·exact hob.elim
theorem Zg6 (h:Rel w0 n M e st a w) (x:Operand) (t ty:TypeId) (hx:AM e true x) (hob:(Vh P t (Az e x)).1) :
  Yields' P w0 M st (Vh P t (Az e x)).2 w (do pure (.value (← Builtin.len_ #[t] ty #[a.eval x]))):=by
 have hR:=A2 h hx
 unfold Vh at hob ⊢
 split at hob
 ·rename_i s hx0
  rw [hx0] at hR
  obtain ⟨ev,_⟩:=hR.val_inv
  refine .here h.st (v := .int .i64 s.size) ?_ (.flat rfl)
  rw [ev]
  simp [Builtin.len_,run_underlying (EN hob),goInt]
 ·rename_i xs o hx0
  rw [hx0] at hR
  obtain ⟨b,c,ev,_⟩:=hR.list_inv rfl
  simp only [AP] at ev
  obtain ⟨p,d⟩:=Option.isSome_iff_exists.1 hob
  obtain ⟨j,sz,k,g⟩:=p
  obtain ⟨i,f,_⟩:=Gt d
  refine .here h.st (v := .int .i64 xs.length) ?_ (.flat rfl)
  rw [ev]
  simp [Builtin.len_,run_underlying f,goInt]
 ·rename_i id ver o n' hx0
  rw [hx0] at hR
  obtain ⟨p,d⟩:=Option.isSome_iff_exists.1 hob
  obtain ⟨j,sz,k,g⟩:=p
  obtain ⟨i,f,_⟩:=Gt d
  generalize hev:a.eval x=v at hR
  cases hR with
  | @vec _ _ _ _ p c hid hv hh =>
   refine .here h.st (v := .int .i64 n') ?_ (.flat rfl)
   simp [Builtin.len_,run_underlying f,goInt]
 ·exact hob.elim
theorem DZ {v:Value} {k:IntKind} {q:Nat} {y:Nat} {code:BoundsCode} (hv:v = .int k q) (h:q≤y) (w:World):(Instr.sliceBound v y code).run P w = .ok q w:=by
 subst hv
 simp [Instr.sliceBound,asIntOf]
 omega
theorem OW (h:Rel w0 n M e st a w) (isl:Bool) (len cap:Nat) (hlc:len≤cap) {lo hi:Option Operand} (hlo:M9 e true lo) (hhi:M9 e true hi)
  {l u:Nat} (el:Cj e 0 lo=l) (eu:Cj e len hi=u) (h1:l≤u) (h2:u≤len) :
  (Instr.sliceBounds isl len cap (lo.map a.eval) (hi.map a.eval) none).run P w = .ok (l,u,cap) w:=by
 have H:∀ (y:Operand),(AM e true y∧DY (Az e y)=true)→∃ k,a.eval y = .int k (AL (Az e y)):=fun y d=>⟨_,((A2 h d.1).int d.2).1⟩
 cases hi with
 | none =>
  simp only [Cj] at eu
  have eu':u=len:=by omega
  subst eu'
  cases lo with
  | none =>
   simp only [Cj] at el
   have el':l=0:=by omega
   subst el'
   simp [Instr.sliceBounds]
  | some y =>
   obtain ⟨k,b⟩:=H y hlo
   simp only [Cj] at el
   rw [el] at b
   simp [Instr.sliceBounds,DZ b h1]
 | some z =>
  obtain ⟨g,c⟩:=H z hhi
  simp only [Cj] at eu
  rw [eu] at c
  have f:u≤cap:=by omega
  cases lo with
  | none =>
   simp only [Cj] at el
   have el':l=0:=by omega
   subst el'
   simp [Instr.sliceBounds,DZ c f]
  | some y =>
   obtain ⟨k,b⟩:=H y hlo
   simp only [Cj] at el
   rw [el] at b
   simp [Instr.sliceBounds,DZ c f,DZ b h1]
theorem R.empty (b off cap:Nat) (hm:cap≤maxLen):R w0 M w (.slice (some ⟨b,off,none⟩) 0 cap) (.list [] .none) :=
 R.list (xs:=[]) 0 (fun _=>undef) (Nat.zero_le _) hm (fun i a=>absurd a (by simp)) (fun i a=>absurd a (by simp)) trivial
theorem R.sub {b off cap : Nat} {xs : List AV} {o : Own} (h : R w0 M w (.slice (some ⟨b, off, none⟩) xs.length cap) (.list xs o)) {l u sz : Nat} (hl : l ≤ u) (hu : u ≤ xs.length) (hsz : l = 0 ∨ ∀ y ∈ xs, y.cells.length = sz) (hne : cap ≠ l) :
    R w0 M w (.slice (some ⟨b, off + l * sz, none⟩) (u - l) (cap - l)) (.list ((xs.take u).drop l) .none) := by
  generalize hv : Value.slice (some ⟨b, off, none⟩) xs.length cap = v at h
  cases h with
  | nil ho => cases hv
  | emp ho => cases hv; simp at hu; subst hu; have : l = 0 := by omega
              subst this; exact absurd rfl hne
  | @list b' off' cap' _ _ sz' us hc hm hcell hus ho =>
    cases hv
    have hlen : ((xs.take u).drop l).length = u - l := by simp; omega
    rw [← hlen]
    have eo : ∀ i, i < u - l → off + l * sz + i * sz' = off + (l + i) * sz' := by
      intro i hi
      rcases hsz with rfl | hsz
      · simp
      · have e : sz' = sz := by
          have h1 : (us i).cells.size = sz' := (hcell i (by omega)).1
          rw [← h1, (hus i (by omega)).cells.1, hsz _ (List.getElem_mem _)]
        rw [e, Nat.add_mul]; omega
    refine .list sz' (fun i => us (l + i)) (by rw [hlen]; omega) (by omega) (fun i hi => ?_) (fun i hi => ?_) trivial
    · rw [hlen] at hi
      obtain ⟨h1, h2⟩ := hcell (l + i) (by omega)
      refine ⟨h1, fun j hj => ?_⟩
      rw [eo i hi]
      exact h2 j hj
    · rw [hlen] at hi
      simp only [List.getElem_drop, List.getElem_take]
      exact hus (l + i) (by omega)
theorem Zci (h:Rel w0 n M e st a w) (t:TypeId) (x:Operand) (lo hi mx:Option Operand) (hob:(A0 P e true st (.slice t x lo hi mx)).1) :
  Yields' P w0 M (A0 P e true st (.slice t x lo hi mx)).2.2 (A0 P e true st (.slice t x lo hi mx)).2.1 w (do pure (.value (← Instr.sliceAt t (a.eval x) (lo.map a.eval) (hi.map a.eval) (mx.map a.eval)))):=by
 unfold A0 at hob ⊢
 simp only at hob ⊢
 split at hob
 ·rename_i id ver o n' hx0
  cases hp:Lr P t with
  | none=>simp [hp] at hob
  | some p =>
  obtain ⟨el,sz,ag,af⟩:=p
  cases hvr:EJ st.rows id ver with
  | none=>simp [hp,hvr] at hob
  | some q =>
  obtain ⟨G,cs⟩:=q
  simp only [hp,hvr] at hob ⊢
  obtain ⟨J,j,l,hm,E,C,N,V,rfl⟩:=hob
  have hR:=A2 h J
  rw [hx0] at hR
  obtain ⟨i,U,_,_,u⟩:=Gt hp
  cases mx with
  | some _=>cases hm
  | none =>
   obtain ⟨d,f⟩:=Int.eq_ofNat_of_zero_le E
   obtain ⟨D,g⟩:=Int.eq_ofNat_of_zero_le (Int.le_trans E C)
   rw [f,g] at C
   rw [g] at N
   rw [f] at V
   rw [f,g]
   simp only [Int.toNat_natCast]
   generalize hev:a.eval x=v at hR
   cases hR with
   | @vec _ _ _ _ p c hid hv hh =>
    obtain ⟨f1,f2,_⟩:=h.st.row id _ (EM hvr)
    obtain ⟨rfl,ah,Y⟩:=hh f1.symm
    have K:=OW (P:=P) h true n' c Y j l f g (by omega) (by omega)
    refine .here h.st (v := .slice (if c=d then some ⟨M.blk id,o*M.rsz id,none⟩ else (some (⟨M.blk id,o*M.rsz id,none⟩:Addr)).map (·.add (d*G))) (D-d) (c-d)) ?_ ?_
    ·simp only [Instr.sliceAt,Instr.slice,Sem.run_bind,run_underlying U,Result.andThen_ok,Option.map_none,K,Bm u,Sem.run_pure]
    ·refine .vec hid hv fun _=>⟨?_,by omega,by omega⟩
     by_cases hcl:c=d
     ·have:d=0:=by omega
      rw [Ai hcl,this];simp
     ·rw [Aj hcl]
      simp only [Option.map_some,Eh]
      rw [f2,Nat.add_mul]
 ·rename_i s hx0
  obtain ⟨hs,J,j,l,hm,E,C,N⟩:=hob
  have hR:=A2 h J
  rw [hx0] at hR
  obtain ⟨ev,hf⟩:=hR.val_inv
  cases mx with
  | some _=>cases hm
  | none =>
   have K:=OW (P:=P) h false s.size s.size (Nat.le_refl _) j l (Int.toNat_of_nonneg E).symm (Int.toNat_of_nonneg (Int.le_trans E C)).symm (by omega) (by omega)
   refine .here h.st (v := .string (s.extract (Cj e 0 lo).toNat (Cj e s.size hi).toNat)) ?_ (.flat ?_)
   ·rw [ev]
    simp only [Instr.sliceAt,Instr.slice,Sem.run_bind,run_underlying (EN hs),Result.andThen_ok,Option.map_none,Option.isSome_none,Bool.false_eq_true,if_false,K,Sem.run_pure]
   ·simp only [F2,decide_eq_true_eq] at hf ⊢
    simp only [ByteArray.size_extract]
    omega
 ·rename_i xs o hx0
  cases hp:Lr P t with
  | none=>simp [hp] at hob
  | some p =>
   obtain ⟨el,sz,ag,af⟩:=p
   simp only [hp] at hob ⊢
   cases mx with
   | some m =>
    simp only at hob ⊢
    obtain ⟨J,j,l,hm,E,C,N⟩:=hob
    have hR:=A2 h J
    rw [hx0] at hR
    obtain ⟨i,U,_,_,u⟩:=Gt hp
    have H:∀ (y:Operand),(AM e true y∧DY (Az e y)=true)→∃ k,a.eval y = .int k (AL (Az e y)):=fun y hy=>⟨_,((A2 h hy.1).int hy.2).1⟩
    cases hi with
    | none=>simp [Cj] at C
    | some z =>
     obtain ⟨k2,kz⟩:=H z l
     obtain ⟨k3,km⟩:=H m hm
     simp only [Cj] at C N
     rw [C] at kz
     rw [N] at km
     have K:∀ (ln c:Nat),ln≤c→(Instr.sliceBounds true ln c (lo.map a.eval) ((some z).map a.eval) ((some m).map a.eval)).run P w = .ok (0,0,0) w:=by
      intro ln c Q
      have e1:=DZ (P:=P) (k:=k3) (q:=0) (y:=c) (code := .slice3Acap) km (Nat.zero_le _) w
      have e2:=DZ (P:=P) (k:=k2) (q:=0) (y:=0) (code := .slice3B) kz (Nat.zero_le _) w
      cases lo with
      | none=>simp [Instr.sliceBounds,e1,e2]
      | some y =>
       obtain ⟨k,ky⟩:=H y j
       simp only [Cj] at E
       rw [E] at ky
       have e3:=DZ (P:=P) (k:=k) (q:=0) (y:=0) (code := .slice3C) ky (Nat.zero_le _) w
       simp [Instr.sliceBounds,e1,e2,e3]
     obtain ⟨v,hv⟩:∃ v,a.eval x=v:=⟨_,rfl⟩
     rw [hv] at hR
     have fin:∀ (r:Option Addr) (ln c:Nat),ln≤c→v = .slice r ln c→R w0 M w (.slice r 0 0) (.list [] .full) →
       Yields' P w0 M st (.list [] .full) w (do pure (.value (← Instr.sliceAt t (a.eval x) (lo.map a.eval) (Option.map a.eval (some z)) (Option.map a.eval (some m))))):=by
      intro r ln c Q e1 Z
      refine .here h.st ?_ Z
      rw [hv,e1]
      simp only [Instr.sliceAt,Instr.slice,Sem.run_bind,run_underlying U,Result.andThen_ok,K ln c Q,Bm u,Sem.run_pure]
      simp
     cases hR with
     | nil ho=>exact fin none 0 0 (Nat.le_refl _) rfl (by simpa using R.nil (fun id=>by simp))
     | @emp r _ ho=>exact fin (some r) 0 0 (Nat.le_refl _) rfl (.emp (fun id=>by simp))
     | @list b off c _ _ G us hc hm' hcell hu' ho =>
      exact fin _ _ c hc rfl (R.list (xs:=[]) 0 (fun _=>undef) (Nat.zero_le _) (Nat.zero_le _) (fun i hi=>absurd hi (by simp)) (fun i hi=>absurd hi (by simp)) rfl)
   | none =>
   obtain ⟨J,j,l,E,C,N,V⟩:=hob
   have hR:=A2 h J
   rw [hx0] at hR
   obtain ⟨i,U,_,_,u⟩:=Gt hp
   ·obtain ⟨d,f⟩:=Int.eq_ofNat_of_zero_le E
    obtain ⟨D,g⟩:=Int.eq_ofNat_of_zero_le (Int.le_trans E C)
    rw [f,g] at C
    rw [g] at N
    rw [f] at V
    rw [f,g]
    have O:d≤D:=by omega
    have F:D≤xs.length:=by omega
    simp only [Int.toNat_natCast]
    have ab:d=0∨∀ y∈xs,y.cells.length=sz:=V.imp (fun q=>by omega) id
    have go:∀ (r:Option Addr) (c:Nat),xs.length≤c→a.eval x = .slice r xs.length c →
      R w0 M w (.slice (if c=d then r else r.map (·.add (d*sz))) (D-d) (c-d)) (.list ((xs.take D).drop d) .none) →
      Yields' P w0 M st (.list ((xs.take D).drop d) .none) w (do pure (.value (← Instr.sliceAt t (a.eval x) (lo.map a.eval) (hi.map a.eval) (Option.map a.eval none)))):=by
     intro r c aa ev Z
     have K:=OW (P:=P) h true xs.length c aa j l f g O F
     refine .here h.st ?_ Z
     rw [ev]
     simp only [Instr.sliceAt,Instr.slice,Sem.run_bind,run_underlying U,Result.andThen_ok,Option.map_none,K,Bm u,Sem.run_pure]
    generalize hv:a.eval x=v at hR go
    have ae:=hR
    cases hR with
    | nil ho =>
     have e1:D=0:=by simpa using F
     have e2:d=0:=by omega
     subst e1;subst e2
     refine go none 0 (Nat.le_refl _) rfl ?_
     simpa using (R.nil (w0:=w0) (M:=M) (w:=w) (o := .none) (fun id=>by simp))
    | @emp r _ ho =>
     have e1:D=0:=by simpa using F
     have e2:d=0:=by omega
     subst e1;subst e2
     refine go (some r) 0 (Nat.le_refl _) rfl ?_
     simpa using (R.emp (w0:=w0) (M:=M) (w:=w) (a:=r) (o := .none) (fun id=>by simp))
    | @list b off c _ _ G us hc hm' hcell hu' ho =>
     refine go (some ⟨b,off,none⟩) c hc rfl ?_
     by_cases hcl:c=d
     ·have e1:D=d:=by omega
      have:(xs.take D).drop d=[]:=by rw [e1];simp
      rw [this,Ai hcl,e1,Nat.sub_self]
      exact R.empty _ _ _ (by omega)
     ·rw [Aj hcl]
      simp only [Option.map_some,Eh]
      exact ae.sub O F ab hcl
 ·exact hob.elim
theorem Zg2 (h:Rel w0 n M e st a w) (x y:Operand) (ts:Array TypeId) (t:TypeId) (hx:AM e true x) (hy:AM e true y) (ix:DY (Az e x)=true) (iy:DY (Az e y)=true) :
  Yields' P w0 M st (.val (.int (J8 (Az e x)) (if AL (Az e y)<AL (Az e x) then AL (Az e y) else AL (Az e x)))) w (do pure (.value (← Builtin.min_ ts t #[a.eval x,a.eval y]))):=by
 rw [((A2 h hx).int ix).1,((A2 h hy).int iy).1]
 exact .here h.st (by simp [Builtin.min_,Builtin.min2]) (.flat rfl)
theorem ZhH (h:Rel w0 n M e st a w) (x y:Operand) (ts:Array TypeId) (t:TypeId) (hx:AM e true x) (hy:AM e true y) (ix:DY (Az e x)=true) (iy:DY (Az e y)=true) :
  Yields' P w0 M st (.val (.int (J8 (Az e x)) (if AL (Az e x)<AL (Az e y) then AL (Az e y) else AL (Az e x)))) w (do pure (.value (← Builtin.max_ ts t #[a.eval x,a.eval y]))):=by
 rw [((A2 h hx).int ix).1,((A2 h hy).int iy).1]
 exact .here h.st (by simp [Builtin.max_,Builtin.max2]) (.flat rfl)
end
section
variable {P:Program} {w0:World} {n:Nat} {M:Mem} {e:Env} {st:St} {a:Act} {w:World}
theorem RelSt.box_lt (h:RelSt w0 M st w) {l:Nat} (hl:l<M.N):M.bx l<w.heap.size:=by
 have a:l<st.boxes.length:=by rw [←h.N];exact hl
 obtain ⟨_,_,c,d,b,_⟩:=h.box l _ (List.getElem?_eq_getElem a)
 exact (Array.getElem?_eq_some_iff.1 b).1
theorem RelSt.row_lt (h:RelSt w0 M st w) {i:Nat} (hi:i<M.NR):M.blk i<w.heap.size:=by
 have a:i<st.rows.length:=by rw [←h.NR];exact hi
 exact (h.row i _ (List.getElem?_eq_getElem a)).lt
theorem RelSt.base_le (h:RelSt w0 M st w):w0.heap.size≤w.heap.size:=h.below.size
theorem RelSt.drew (h:RelSt w0 M st w):RelSt w0 M st w.drew∧Ext w0 M w M w.drew :=
 have b:Ext w0 M w M w.drew:=⟨Nat.le_refl _,fun _ _=>rfl,Nat.le_refl _,fun _ _=>⟨Nat.le_refl _,fun _=>⟨rfl,rfl,rfl⟩⟩,fun _ _ _ d g=>⟨g,d⟩,Nat.le_refl _,Nat.le_refl _,fun _ _=>rfl,fun _ _ _=>by omega,fun _ _ h _ _=>h⟩
 ⟨⟨h.below.drew,h.N,h.NR,h.top,h.inj,fun l cs e=>by
   obtain ⟨a1,a2,c,k,a3,a4,a5,a6⟩:=h.box l cs e
   exact ⟨a1,a2,c,k,a3,a4,a5,fun i j f=>(a6 i j f).mono b⟩,fun id x a=>(h.row id x a).keep b rfl rfl rfl rfl rfl (h.row id x a).ne rfl,h.rowinj,h.loop.mono b rfl fun _ _ h _=>h⟩,b⟩
def Mem.newTop (M:Mem) (b k:Nat):Mem:={ M with top:=fun x=>if x=b then k else M.top x }
theorem PP (M':Mem) (o:Obj) (hN:M'.N=M.N∨M'.N=M.N+1) (hb:∀ l,l<M.N→M'.bx l=M.bx l) (hNR:M.NR≤M'.NR)
  (hr:∀ id,id<M.NR→M.fr id≤M'.fr id∧(M'.fr id=M.fr id→M'.blk id=M.blk id∧M'.cap id=M.cap id∧M'.rsz id=M.rsz id)) (ht:∀ b,b<w.heap.size→M.top b≤M'.top b) (hNL:M'.NL=M.NL:=by rfl) (hlb:M'.lb=M.lb:=by rfl) :
  Ext w0 M w M' (w.alloc o) :=
 ⟨by omega,hb,hNR,hr,fun b e v hi c=>by
  have a:=World.block_lt_of_cell? w _ c
  refine ⟨by rw [World.cell?_alloc_lt _ _ _ a];exact c,?_⟩
  rcases hi with hi | hi
  ·exact .inl hi
  ·exact .inr (Nat.lt_of_lt_of_le hi (ht b a)),by simp,by omega,fun _ _=>by rw [hlb],fun _ _ _=>by omega,fun b o' f d _=>KeepsObj.alloc w o b o' f d⟩
theorem Br (w:World) (o:Obj) {k:Nat} (h:k<w.heap.size):(w.alloc o).heap[k]? = w.heap[k]? := Below.heap_alloc w o k h
theorem RelSt.newTop (h:RelSt w0 M st w) (cs:Array Value) (ty:TypeId) (k:Nat) :
  RelSt w0 (M.newTop w.heap.size k) st (w.alloc (.cells cs ty))∧Ext w0 M w (M.newTop w.heap.size k) (w.alloc (.cells cs ty)):=by
 have g:∀ b,b<w.heap.size→(M.newTop w.heap.size k).top b=M.top b:=fun b e=>by simp [Mem.newTop];omega
 have f:Ext w0 M w (M.newTop w.heap.size k) (w.alloc (.cells cs ty)) :=
  PP _ _ (.inl rfl) (fun _ _=>rfl) (Nat.le_refl _) (fun _ _=>⟨Nat.le_refl _,fun _=>⟨rfl,rfl,rfl⟩⟩) (fun b e=>by rw [g b e];exact Nat.le_refl _)
 refine ⟨⟨h.below.alloc h.base_le _,h.N,h.NR,fun b e=>?_,h.inj,fun l c n=>?_,fun id x a=>(h.row id x a).keep f rfl rfl rfl rfl (g _ (h.row id x a).lt) (h.row id x a).ne (Br _ _ (h.row id x a).lt),h.rowinj,h.loop.mono f rfl (KeepsObj.alloc _ _)⟩,f⟩
 ·simp at e
  have:(M.newTop w.heap.size k).top b=M.top b:=by simp [Mem.newTop];omega
  rw [this]
  exact h.top b (by omega)
 ·obtain ⟨a1,a2,m,j,a3,a4,a5,a6⟩:=h.box l c n
  have d:=(Array.getElem?_eq_some_iff.1 a3).1
  exact ⟨a1,by rw [show (M.newTop w.heap.size k).bx l=M.bx l from rfl,g _ d];exact a2,m,j,by rw [show (M.newTop w.heap.size k).bx l=M.bx l from rfl,Br _ _ d];exact a3,a4,a5,fun i p o=>(a6 i p o).mono f⟩
theorem RelSt.later (h:RelSt w0 M st w) {w':World} (hb:Below w.heap.size w w') (b k:Nat) (hw:w.heap.size≤b) (hk:b<w'.heap.size∨k=0) :
  RelSt w0 (M.newTop b k) st w'∧Ext w0 M w (M.newTop b k) w':=by
 have r:∀ x,x<w.heap.size→(M.newTop b k).top x=M.top x:=fun x m=>by simp [Mem.newTop];omega
 have n:∀ x,x<w.heap.size→w'.heap[x]? = w.heap[x]? := hb.block
 have g:KeepsObj w w':=fun x o f _=>(n x (Array.getElem?_eq_some_iff.1 f).1).trans f
 have m:Ext w0 M w (M.newTop b k) w' :=
  ⟨Nat.le_refl _,fun _ _=>rfl,Nat.le_refl _,fun _ _=>⟨Nat.le_refl _,fun _=>⟨rfl,rfl,rfl⟩⟩,fun x z v t p=>by
   have a:=World.block_lt_of_cell? w _ p
   refine ⟨?_,t.imp id fun q=>by rw [r x a];exact q⟩
   unfold World.cell? at p ⊢
   simp only [n x a] at p ⊢
   exact p,hb.size,Nat.le_refl _,fun _ _=>rfl,fun _ f j=>absurd j (Nat.not_lt.2 f),fun x o f j _=>g x o f j⟩
 refine ⟨⟨h.below.trans (hb.mono h.base_le),h.N,h.NR,fun x C=>?_,h.inj,fun l c u=>?_,fun id x d=>(h.row id x d).keep m rfl rfl rfl rfl (r _ (h.row id x d).lt) (h.row id x d).ne (n _ (h.row id x d).lt),h.rowinj,h.loop.mono m rfl g⟩,m⟩
 ·have:=hb.size
  by_cases c:x=b
  ·have e:(M.newTop b k).top x=k:=by simp [Mem.newTop,c]
   rw [e]
   rcases hk with hk | hk
   ·omega
   ·exact hk
  ·have e:(M.newTop b k).top x=M.top x:=by simp [Mem.newTop,c]
   rw [e]
   exact h.top x (by omega)
 ·obtain ⟨a1,a2,y,s,a3,a4,a5,a6⟩:=h.box l c u
  have a:=(Array.getElem?_eq_some_iff.1 a3).1
  exact ⟨a1,by rw [show (M.newTop b k).bx l=M.bx l from rfl,r _ a];exact a2,y,s,by rw [show (M.newTop b k).bx l=M.bx l from rfl,n _ a];exact a3,a4,a5,fun i f j=>(a6 i f j).mono m⟩
def Mem.newBox (M:Mem) (b:Nat):Mem:={ M with N:=M.N+1,bx:=fun l=>if l=M.N then b else M.bx l }
theorem RelSt.newBox (h:RelSt w0 M st w) (v:Value) (x:AV) (ty:TypeId) (hR:R w0 M w v x) (hn:AX x=true) :
  RelSt w0 (M.newBox w.heap.size) { st with boxes:=st.boxes++[x.cells] } (w.alloc (.cells v.cells ty))∧Ext w0 M w (M.newBox w.heap.size) (w.alloc (.cells v.cells ty)) ∧
   R w0 (M.newBox w.heap.size) (w.alloc (.cells v.cells ty)) (.pointer (some ⟨w.heap.size,0,none⟩)) (.box st.boxes.length 0):=by
 have d:∀ l,l<M.N→(M.newBox w.heap.size).bx l=M.bx l:=fun l hl=>by simp [Mem.newBox];omega
 have a:(M.newBox w.heap.size).bx M.N=w.heap.size:=by simp [Mem.newBox]
 have m:Ext w0 M w (M.newBox w.heap.size) (w.alloc (.cells v.cells ty)) :=
  PP _ _ (.inr rfl) d (Nat.le_refl _) (fun _ _=>⟨Nat.le_refl _,fun _=>⟨rfl,rfl,rfl⟩⟩) (fun b q=>Nat.le_refl _)
 have n:=hR.mono m
 refine ⟨⟨h.below.alloc h.base_le _,by simp [Mem.newBox,h.N],h.NR,fun b q=>h.top b (by simp at q;omega),fun l k hl f e=>?_,fun l c hl=>?_,fun id x j=>?_,h.rowinj,h.loop.mono m rfl (KeepsObj.alloc _ _)⟩,m,?_⟩
 ·have p:(M.newBox w.heap.size).N=M.N+1:=rfl
  rw [p] at hl f
  by_cases e1:l=M.N
  ·by_cases e2:k=M.N
   ·omega
   ·subst e1
    rw [a,d k (by omega)] at e
    have:=h.box_lt (l:=k) (by omega)
    omega
  ·by_cases e2:k=M.N
   ·subst e2
    rw [a,d l (by omega)] at e
    have:=h.box_lt (l:=l) (by omega)
    omega
   ·rw [d l (by omega),d k (by omega)] at e
    exact h.inj l k (by omega) (by omega) e
 ·by_cases e1:l=M.N
  ·subst e1
   simp only [h.N,List.getElem?_concat_length,Option.some.injEq] at hl
   subst hl
   rw [a]
   obtain ⟨hs,hc⟩:=n.cells
   refine ⟨h.base_le,h.top _ (Nat.le_refl _),v.cells,ty,heap_alloc_new w _,hs,hR.cellsOne (fun vs e=>by subst e;cases hn),hc⟩
  ·have f:l<M.N:=by
    have:l<(st.boxes++[x.cells]).length:=(Ak.1 hl).1
    have p:=h.N
    simp at this
    omega
   rw [List.getElem?_append_left (by rw [←h.N];exact f)] at hl
   obtain ⟨a1,a2,r,o,a3,a4,a5,a6⟩:=h.box l c hl
   have g:=(Array.getElem?_eq_some_iff.1 a3).1
   rw [d l f]
   exact ⟨a1,a2,r,o,by rw [Br _ _ g];exact a3,a4,a5,fun i t s=>(a6 i t s).mono m⟩
 ·have g:=(h.row id x j).lt
  refine (h.row id x j).keep m rfl rfl rfl rfl rfl (fun l hl=>?_) (Br _ _ g)
  by_cases e1:l=M.N
  ·subst e1
   rw [a]
   show w.heap.size≠M.blk id
   omega
  ·have p:(M.newBox w.heap.size).N=M.N+1:=rfl
   rw [d l (by omega)]
   exact (h.row id x j).ne l (by omega)
 ·have:=R.box (w0:=w0) (M:=M.newBox w.heap.size) (w:=w.alloc (.cells v.cells ty)) (l:=st.boxes.length) (off:=0) (by rw [←h.N];exact Nat.lt_succ_self _)
  rwa [←h.N,a,h.N] at this
theorem E8 {t:TypeId} {z:List AV} (h:BB P t=some z):∃ i v,P.info? t=some i∧i.zero=some v∧N3 v=true∧v.cells.size=i.size∧z=(Iy v).cells:=by
 unfold BB at h
 split at h
 ·rename_i i hi
  split at h
  ·rename_i v hv
   split at h
   ·rename_i hc
    simp only [Bool.and_eq_true,beq_iff_eq] at hc
    exact ⟨i,v,hi,hv,hc.1,hc.2,(Option.some.inj h).symm⟩
   ·cases h
  ·cases h
 ·cases h
theorem MX {v:Value} (h:N3 v=true):AX (Iy v)=true:=by
 have hc:∀ u,AX (M5 u)=true:=fun u=>by unfold M5;split<;>rfl
 cases v<;>first | rfl | exact hc _
theorem ZdP (h:Rel w0 n M e st a w) (t:TypeId) (hob:(A0 P e true st (.alloc t)).1) :
  Yields' P w0 M (A0 P e true st (.alloc t)).2.2 (A0 P e true st (.alloc t)).2.1 w (do pure (.value (← Instr.alloc t true (.tuple #[])))):=by
 unfold A0 at hob ⊢
 cases hz:BB P t with
 | none=>simp [hz] at hob
 | some z =>
  simp only [hz]
  obtain ⟨i,v,c,hv,b,hs,rfl⟩:=E8 hz
  obtain ⟨g,d,f⟩:=h.st.newBox v (Iy v) t (Ql b) (MX b)
  refine .value ⟨_,_,_,?_,d,g,f⟩
  simp [Instr.alloc,zeroValue,typeInfo,c,hv,newVar,newRow]
theorem Zhk (h:Rel w0 n M e st a w) (t:TypeId) (x:Operand) (hob:(A0 P e true st (.box t x)).1) :
  Yields' P w0 M (A0 P e true st (.box t x)).2.2 (A0 P e true st (.box t x)).2.1 w (do pure (.value (← Instr.box t (a.eval x)))):=by
 obtain ⟨_,f,c⟩:=hob
 obtain ⟨g,b,d⟩:=h.st.newBox (a.eval x) (Az e x) t (A2 h f) c
 refine .value ⟨_,_,_,?_,b,g,d⟩
 simp [Instr.box,newVar,newRow]
theorem VJ (vs:List Value):∀ (k:Nat) (cs:Array Value) (off:Nat),off+k+vs.length≤cs.size →
  ((vs.zipIdx k).foldl (fun cs (x:Value × Nat)=>cs.setIfInBounds (off+x.2) x.1) cs).size=cs.size ∧
  ∀ j,((vs.zipIdx k).foldl (fun cs (x:Value × Nat)=>cs.setIfInBounds (off+x.2) x.1) cs)[j]? = if off+k≤j∧j<off+k+vs.length then vs[j-(off+k)]? else cs[j]? := by
 induction vs with
 | nil=>intro k cs off h;exact ⟨rfl,fun j=>by simp;omega⟩
 | cons v vs ih =>
  intro k cs off h
  simp only [List.length_cons] at h
  simp only [List.zipIdx_cons,List.foldl_cons,List.length_cons]
  obtain ⟨c,b⟩:=ih (k+1) (cs.setIfInBounds (off+k) v) off (by simp;omega)
  refine ⟨by rw [c];simp,fun j=>?_⟩
  rw [b j]
  by_cases c1:off+(k+1)≤j∧j<off+(k+1)+vs.length
  ·rw [Ai c1,Ab,show j-(off+k)=(j-(off+(k+1)))+1 from by omega]
   simp
  ·rw [Aj c1]
   by_cases c2:j=off+k
   ·subst c2
    have a:off+k<cs.size:=by omega
    rw [Ab]
    simp [a]
   ·rw [Aa,Array.getElem?_setIfInBounds_ne (by omega)]
theorem LJ {l xs:List AV} {off:Nat} (h:off+xs.length≤l.length):(CU l off xs).length=l.length:=by
 simp [CU];omega
theorem Zaa {l xs:List AV} {off:Nat} (h:off+xs.length≤l.length) (j:Nat):(CU l off xs)[j]? = if off≤j∧j<off+xs.length then xs[j-off]? else l[j]? := by
 unfold CU
 rw [List.append_assoc,List.getElem?_append]
 simp only [List.length_take]
 have e:min off l.length=off:=by omega
 rw [e]
 by_cases c1:j<off
 ·rw [Ai c1,Aa,List.getElem?_take,Ai c1]
 ·rw [Aj c1,List.getElem?_append]
  by_cases c2:j-off<xs.length
  ·rw [Ai c2,Ab]
  ·rw [Aj c2,Aa,List.getElem?_drop]
   congr 1
   omega
theorem OU {l xs:List AV} {off:Nat} (h1:∀ x∈l,x.one=true) (h2:∀ x∈xs,x.one=true):∀ x∈CU l off xs,x.one=true:=by
 intro x hx
 simp only [CU,List.mem_append] at hx
 rcases hx with (hx | hx) | hx
 ·exact h1 x (List.mem_of_mem_take hx)
 ·exact h2 x hx
 ·exact h1 x (List.mem_of_mem_drop hx)
def RowR (w0:World) (M:Mem) (w:World) (cs:Array Value) (l:List AV):Prop:=cs.size=l.length∧∀ i (h1:i<cs.size) (h2:i<l.length),R w0 M w cs[i] l[i]
theorem RowR.get {cs:Array Value} {l:List AV} (h:RowR w0 M w cs l) {i:Nat} {v:Value} {x:AV} (hv:cs[i]? = some v) (hx:l[i]? = some x):R w0 M w v x:=by
 obtain ⟨a1,rfl⟩:=Array.getElem?_eq_some_iff.1 hv
 obtain ⟨a2,rfl⟩:=Ak.1 hx
 exact h.2 i a1 a2
theorem RowR.mk {cs:Array Value} {l:List AV} (hs:cs.size=l.length) (h:∀ (i:Nat) (v:Value) (x:AV),cs[i]? = some v→l[i]? = some x→R w0 M w v x):RowR w0 M w cs l :=
 ⟨hs,fun i a b=>h i _ _ (Array.getElem?_eq_getElem a) (List.getElem?_eq_getElem b)⟩
theorem RowR.put {cs cs':Array Value} {l:List AV} (h:RowR w0 M w cs l) {v:Value} {x:AV} (hR:R w0 M w v x) {off:Nat} (hoff:off+x.cells.length≤l.length) (hs:cs'.size=cs.size)
  (hg:∀ j,cs'[j]? = if off≤j∧j<off+v.cells.toList.length then v.cells.toList[j-off]? else cs[j]?):RowR w0 M w cs' (CU l off x.cells):=by
 obtain ⟨d,e⟩:=hR.cells
 refine .mk (by rw [hs,LJ hoff];exact h.1) (fun i u y a b=>?_)
 rw [hg i] at a
 rw [Zaa hoff] at b
 simp only [Array.length_toList] at a
 rw [←d] at b
 by_cases c:off≤i∧i<off+v.cells.size
 ·rw [Ai c] at a b
  rw [Array.getElem?_toList] at a
  exact RowR.get ⟨d,e⟩ a b
 ·rw [Aj c] at a b
  exact h.get a b
theorem WP (t:TypeId) (pl:Nat→Option (Nat × Nat)) (hpl:∀ i o s,Ky P t i=some (o,s)→pl i=some (o,s)) :
  ∀ (vs:List (Nat × Value)) (xs:List (Nat × AV)) (cs:Array Value) (l:List AV),vs.length=xs.length→(∀ (k:Nat) (p:Nat × Value) (q:Nat × AV),vs[k]? = some p→xs[k]? = some q→p.1=q.1∧R w0 M w p.2 q.2∧AX q.2=true) →
   RowR w0 M w cs l→(∀ y∈l,y.one=true)→OO P t l.length xs→∃ cs',Instr.fill pl cs vs=some cs'∧RowR w0 M w cs' (Rn P t l xs)∧(∀ y∈Rn P t l xs,y.one=true)
 | [],[],cs,l,_,_,h,h1,_=>⟨cs,rfl,h,h1⟩
 | [],_::_,_,_,hl,_,_,_,_=>by cases hl
 | _::_,[],_,_,hl,_,_,_,_=>by cases hl
 | (i,v)::vs,(i',x)::xs,cs,l,hl,hp,h,h1,hf=>by
  obtain ⟨rfl,g,hn⟩:=hp 0 _ _ rfl rfl
  simp only at g hn
  simp only [OO] at hf
  obtain ⟨b,m⟩:=hf
  simp only [Instr.fill,Rn]
  cases hpp:Ky P t i with
  | none=>simp [hpp] at b
  | some p =>
   obtain ⟨o,s⟩:=p
   simp only [hpp] at b ⊢
   obtain ⟨a1,a2⟩:=b
   obtain ⟨C,z⟩:=g.cells
   rw [hpl i o s hpp]
   have r:(decide (v.cells.size≠s)||decide (o+v.cells.size > cs.size))=false:=by have:=h.1;simp;omega
   simp only [r,Bool.false_eq_true,if_false]
   have a:=VJ v.cells.toList 0 cs o (by simp;have:=h.1;omega)
   have d:(v.cells.zipIdx.foldl (fun cs (c,j)=>cs.setIfInBounds (o+j) c) cs)=(v.cells.toList.zipIdx 0).foldl (fun cs (x:Value × Nat)=>cs.setIfInBounds (o+x.2) x.1) cs:=by
    rw [←Array.foldl_toList]
    simp
   rw [d]
   simp only [Nat.add_zero] at a
   have f:=h.put g (off:=o) (by omega) a.1 a.2
   refine WP t pl hpl vs xs _ _ (by simpa using hl) (fun k p q u n=>hp (k+1) p q (by simpa using u) (by simpa using n)) f (OU h1 (g.cellsOne (fun vs e=>by subst e;cases hn))) ?_
   rw [LJ (by omega)]
   exact m
theorem XT {α β:Type} (f:α→Sem β) (g:α→β):∀ (l:List α),(∀ x∈l,∀ w,(f x).run P w = .ok (g x) w)→∀ w,(l.mapM f).run P w = .ok (l.map g) w
 | [],_,w=>by simp
 | x::l,h,w=>by simp [h x (by simp),XT f g l (fun y a=>h y (by simp [a])) w]
theorem Zbx {α β:Type} (f:α→Sem β) (g:α→β) (xs:Array α) (h:∀ x∈xs.toList,∀ w,(f x).run P w = .ok (g x) w) (w:World):(xs.mapM f).run P w = .ok (xs.map g) w:=by
 rw [Array.mapM_eq_mapM_toList]
 simp only [Sem.run_map,XT f g xs.toList h w,Result.andThen_ok]
 congr 1
 apply Array.ext'
 simp
theorem OD:∀ (fs:List Field) (l:List (Nat × Nat)),PM P fs=some l →
  l=fs.map (fun f=>(f.offset,P.cellsOf f.type))∧∀ f∈fs,∀ w,(sizeOf f.type).run P w = .ok (P.cellsOf f.type) w
 | [],l,h=>by cases h;exact ⟨rfl,fun f hf=>by cases hf⟩
 | f::fs,l,h=>by
  simp only [PM] at h
  split at h
  ·rename_i i r hi hr
   cases h
   obtain ⟨c,b⟩:=OD fs r hr
   have a:P.cellsOf f.type=i.size:=by simp [Program.cellsOf,hi]
   refine ⟨by simp [a,←c],fun g hg w=>?_⟩
   rcases List.mem_cons.1 hg with rfl | hg
   ·simp [sizeOf,typeInfo,hi,a]
   ·exact b g hg w
  ·cases h
theorem ZcD (h:Rel w0 n M e st a w) (t:TypeId) (ps:Array (Nat × Operand)) (hob:(A0 P e true st (.build t ps)).1) :
  Yields' P w0 M (A0 P e true st (.build t ps)).2.2 (A0 P e true st (.build t ps)).2.1 w (do pure (.value (← Instr.build t (ps.map fun (i,x)=>(i,a.eval x))))):=by
 unfold A0 at hob ⊢
 cases hz:BB P t with
 | none=>simp [hz] at hob
 | some z =>
  simp only [hz] at hob ⊢
  obtain ⟨H,y,D⟩:=hob
  obtain ⟨i,v,O,hv,V,hs,rfl⟩:=E8 hz
  have C:R w0 M w v (Iy v):=Ql V
  have c:RowR w0 M w v.cells (Iy v).cells:=C.cells
  have d:=C.cellsOne (fun vs e=>by have:=MX V;rw [e] at this;cases this)
  have r:∀ (k:Nat) (p:Nat × Value) (q:Nat × AV),((ps.map fun (i,x)=>(i,a.eval x)).toList)[k]? = some p→(ps.toList.map fun p=>(p.1,Az e p.2))[k]? = some q→p.1=q.1∧R w0 M w p.2 q.2∧AX q.2=true:=by
   intro k p q g U
   simp only [Array.toList_map,List.getElem?_map,Option.map_eq_some_iff] at g U
   obtain ⟨N,Q,rfl⟩:=g
   obtain ⟨q0,h2,rfl⟩:=U
   rw [Q] at h2
   cases h2
   have E:N∈ps.toList:=List.mem_of_getElem? Q
   exact ⟨rfl,A2 h (y N E).1,(y N E).2⟩
  have j:((ps.map fun (i,x)=>(i,a.eval x)).toList).length=(ps.toList.map fun p=>(p.1,Az e p.2)).length:=by simp
  cases hpp:CG P t with
  | some l =>
   unfold CG at hpp
   split at hpp
   ·rename_i fs hu
    obtain ⟨Y,Z⟩:=OD _ _ hpp
    have b:∀ i o s,Ky P t i=some (o,s)→((fs.map fun f=>(f.offset,P.cellsOf f.type))[·]?) i=some (o,s):=by
     intro i o s g
     simp only [Ky,CG,hu,hpp] at g
     rw [Y] at g
     simpa using g
    obtain ⟨cs',K,u,G⟩:=WP t _ b _ _ v.cells _ j r c d D
    refine .here h.st (v := .agg cs') ?_ (.agg u.1 G u.2)
    have E:=Zbx (P:=P) (fun (f:Field)=>(do pure (f.offset,←sizeOf f.type):Sem (Nat × Nat))) (fun f=>(f.offset,P.cellsOf f.type)) fs (fun f D w=>by simp [Z f D]) w
    simp only [Instr.build,zeroValue,typeInfo,Sem.run_bind,run_program,Result.andThen_ok,O,hv,Sem.run_pure,run_underlying hu,E,K]
   ·cases hpp
  | none =>
   cases ha:EX P t with
   | none=>simp [hpp,ha] at H
   | some p =>
    obtain ⟨m,s,ag⟩:=p
    obtain ⟨el,hu,F⟩:=Q7 ha
    have b:∀ i o J,Ky P t i=some (o,J)→(fun i=>some (i*s,s)) i=some (o,J):=by
     intro i o J g
     simpa [Ky,hpp,ha] using g
    obtain ⟨cs',K,u,G⟩:=WP t _ b _ _ v.cells _ j r c d D
    refine .here h.st (v := .agg cs') ?_ (.agg u.1 G u.2)
    simp only [Instr.build,zeroValue,typeInfo,Sem.run_bind,run_program,Result.andThen_ok,O,hv,Sem.run_pure,run_underlying hu,Bm F,K]
theorem Up (sz:Nat):∀ (vals:List Value) (k:Nat) (cs:Array Value),(∀ v∈vals,v.cells.size=sz)→(k+vals.length)*sz≤cs.size →
  ∃ cs',Instr.fill (fun i=>some (i*sz,sz)) cs ((vals.zipIdx k).map fun x=>(x.2,x.1))=some cs'∧cs'.size=cs.size∧(∀ j,j<k*sz→cs'[j]? = cs[j]?) ∧
   ∀ i v,vals[i]? = some v→∀ j,j<sz→cs'[(k+i)*sz+j]? = v.cells[j]?
 | [],k,cs,_,_=>⟨cs,rfl,rfl,fun _ _=>rfl,fun i v h=>by simp at h⟩
 | v::vals,k,cs,hv,hl=>by
  have f:=hv v (by simp)
  simp only [List.length_cons] at hl
  have d:(k+1)*sz≤cs.size:=Nat.le_trans (Nat.mul_le_mul_right _ (by omega)) hl
  rw [Nat.succ_mul] at d
  simp only [List.zipIdx_cons,List.map_cons,Instr.fill]
  have g:(decide (v.cells.size≠sz)||decide (k*sz+v.cells.size > cs.size))=false:=by simp;omega
  simp only [g,Bool.false_eq_true,if_false]
  have b:(v.cells.zipIdx.foldl (fun cs (c,j)=>cs.setIfInBounds (k*sz+j) c) cs)=(v.cells.toList.zipIdx 0).foldl (fun cs (x:Value × Nat)=>cs.setIfInBounds (k*sz+x.2) x.1) cs:=by
   rw [←Array.foldl_toList]
   simp
  have a:=VJ v.cells.toList 0 cs (k*sz) (by simp;omega)
  rw [b]
  simp only [Nat.add_zero,Array.length_toList,f] at a
  obtain ⟨cs',a1,a2,a3,a4⟩:=Up sz vals (k+1) ((v.cells.toList.zipIdx 0).foldl (fun cs (x:Value × Nat)=>cs.setIfInBounds (k*sz+x.2) x.1) cs) (fun u hu=>hv u (by simp [hu])) (by rw [a.1];rw [show k+1+vals.length=k+(vals.length+1) from by omega];exact hl)
  refine ⟨cs',a1,by rw [a2,a.1],fun j e=>?_,fun i u hu j e=>?_⟩
  ·rw [a3 j (by rw [Nat.succ_mul];omega),a.2 j,Aa]
  ·cases i with
   | zero =>
    simp only [List.getElem?_cons_zero,Option.some.injEq] at hu
    subst hu
    simp only [Nat.add_zero]
    rw [a3 _ (by rw [Nat.succ_mul];omega),a.2,Ab,Array.getElem?_toList]
    congr 1
    omega
   | succ i =>
    have:=a4 i u (by simpa using hu) j e
    rw [←this,show k+(i+1)=k+1+i from by omega]
theorem Vp {ps:List (Nat × Operand)} {m:Nat} (h:ps.map (·.1)=List.range m) (f:Operand→Value) :
  (ps.map fun p=>(p.1,f p.2))=((ps.map fun p=>f p.2).zipIdx 0).map fun x=>(x.2,x.1):=by
 have b:ps.length=m:=by simpa using congrArg List.length h
 apply List.ext_getElem?
 intro i
 simp only [List.getElem?_map,List.getElem?_zipIdx]
 cases hp:ps[i]? with
 | none=>simp
 | some p =>
  have a:i<m:=by rw [←b];exact (Ak.1 hp).1
  have:=congrArg (·[i]?) h
  simp [hp,a] at this
  simp [this]
theorem R.row {cs:Array Value} {ty:TypeId} {xs:List AV} {sz k:Nat} (us:Nat→Value) (hu:∀ i (hi:i<xs.length),(us i).cells.size=sz∧R w0 M w (us i) xs[i])
  (hc:∀ i,i<xs.length→∀ j,j<sz→cs[i*sz+j]? = (us i).cells[j]?) {cap:Nat} (hcap:xs.length≤cap) (hm:cap≤maxLen) {o:Own} (hk:xs.length*sz≤k) (M':Mem) (hM:M'.top w.heap.size=k)
  (hx:Ext w0 M w M' (w.alloc (.cells cs ty))) (ho:Zc7 M' w.heap.size 0 cap xs.length sz o) :
  R w0 M' (w.alloc (.cells cs ty)) (.slice (some ⟨w.heap.size,0,none⟩) xs.length cap) (.list xs o):=by
 refine .list sz us hcap hm (fun i hi=>⟨(hu i hi).1,fun j a=>⟨.inr ?_,?_⟩⟩) (fun i hi=>((hu i hi).2).mono hx) ho
 ·rw [hM]
  have:(i+1)*sz≤xs.length*sz:=Nat.mul_le_mul_right _ hi
  rw [Nat.succ_mul] at this
  omega
 ·rw [Nat.zero_add,World.cell?_alloc_new]
  exact hc i hi j a
theorem UM (h:Rel w0 n M e st a w) (t:TypeId) (m:Nat) (ps:Array (Nat × Operand)) (hmk:I3 e t=false) (hob:(A0 P e true st (.buildSlice t m ps)).1) :
  Yields' P w0 M (A0 P e true st (.buildSlice t m ps)).2.2 (A0 P e true st (.buildSlice t m ps)).2.1 w (do pure (.value (← Instr.buildSlice t m (ps.map fun (i,x)=>(i,a.eval x))))):=by
 unfold A0 at hob ⊢
 cases he:Lr P t with
 | none=>simp [he] at hob
 | some p =>
  obtain ⟨N,sz,ag,Y⟩:=p
  simp only [he,hmk] at hob ⊢
  obtain ⟨r,H,J,s,U,F⟩:=hob
  obtain ⟨i,hu,Z,_,g⟩:=Gt he
  obtain ⟨z,C⟩:=Option.isSome_iff_exists.1 U
  obtain ⟨i',v,E,hv,hc,hs,rfl⟩:=E8 C
  have G:ps.toList.length=m:=by simpa using congrArg List.length H
  have c:∀ p∈ps.toList,(a.eval p.2).cells.size=sz:=fun p y=>by
   rw [(A2 h (r p y)).cells.1]
   exact F _ (List.mem_map.2 ⟨p,y,rfl⟩)
  obtain ⟨zc,hzc⟩:∃ zc:Array Value,if m*sz=0 then zc = #[] else zc=v.cells:=by
   by_cases h0:m*sz=0
   ·exact ⟨#[],by rw [Ai h0]⟩
   ·exact ⟨v.cells,by rw [Aj h0]⟩
  obtain ⟨cs',a1,a2,a3,a4⟩:=Up sz (ps.toList.map fun p=>a.eval p.2) 0 ((Array.range (m*sz)).map (zc[· % zc.size]!)) (fun u hu=>by obtain ⟨p,y,rfl⟩:=List.mem_map.1 hu;exact c p y) (by simp [G])
  obtain ⟨l,K⟩:=h.st.newTop cs' N (m*sz)
  have b:((ps.toList.map fun p=>Az e p.2).map AV.pub).length=m:=by simp [←G]
  have f:=R.row (us:=fun i=>((ps.toList.map fun p=>a.eval p.2).getD i undef)) (xs:=(ps.toList.map fun p=>Az e p.2).map AV.pub) (cs:=cs') (ty:=N) (sz:=sz) (k:=m*sz) (cap:=m) (o := .full) ?hu ?hc (by rw [b];exact Nat.le_refl _) ?hm (by rw [b];exact Nat.le_refl _) (M.newTop w.heap.size (m*sz)) (by simp [Mem.newTop]) K b
  case hu =>
   intro k D
   have d:k<ps.toList.length:=by simpa using D
   have Q:(ps.toList.map fun p=>a.eval p.2).getD k undef=a.eval (ps.toList[k]).2:=by simp [List.getD,List.getElem?_eq_getElem d]
   rw [Q]
   refine ⟨c _ (List.getElem_mem _),?_⟩
   simp only [List.getElem_map]
   exact (A2 h (r _ (List.getElem_mem _))).pub
  case hc =>
   intro k D j V
   have d:k<ps.toList.length:=by simpa using D
   have:=a4 k (a.eval (ps.toList[k]).2) (by simp [List.getElem?_eq_getElem d]) j V
   rw [Nat.zero_add] at this
   rw [this]
   simp [List.getD,List.getElem?_eq_getElem d]
  case hm =>
   have:m*1≤m*sz:=Nat.mul_le_mul_left _ s
   simp [maxLen]
   omega
  rw [b] at f
  refine .value ⟨_,_,_,?_,K,l,f⟩
  have O:¬ (m*sz > 2 ^ 24):=by omega
  have q:(ps.map fun (i,x)=>(i,a.eval x)).toList=((ps.toList.map fun p=>a.eval p.2).zipIdx 0).map fun x=>(x.2,x.1):=by
   rw [Array.toList_map]
   exact Vp H a.eval
  by_cases h0:m*sz=0
  ·rw [Ai h0] at hzc
   subst hzc
   simp only [Instr.buildSlice,Sem.run_bind,run_underlying hu,Result.andThen_ok,Bm g,Aj O,Ai h0,Sem.run_pure,q,a1,newRow,run_newObj]
   rfl
  ·rw [Aj h0] at hzc
   subst hzc
   simp only [Instr.buildSlice,Sem.run_bind,run_underlying hu,Result.andThen_ok,Bm g,Aj O,Aj h0,Sem.run_pure,zeroValue,typeInfo,run_program,E,hv,q,a1,newRow,run_newObj]
   rfl
theorem Below.setRow {B:Nat} {x y:World} (h:Below B x y) {g:Nat} (hg:B≤g) (cs:Array Value):Below B x (y.setRow g cs) :=
 h.trans ⟨rfl,rfl,rfl,by simp,fun k a=>setRow_other y g k cs (by omega)⟩
theorem KeepsObj.setRow {g:Nat} {c:Array Value} {ty:TypeId} (hg:w.heap[g]? = some (.cells c ty (0,0))) (c':Array Value):KeepsObj w (w.setRow g c'):=by
 intro b o h1 h2
 by_cases q:b=g
 ·subst q;rw [hg] at h1;cases h1;cases h2
 ·rw [setRow_other w g b c' q];exact h1
theorem MS (M':Mem) (hN:M'.N=M.N) (hb:∀ l,l<M.N→M'.bx l=M.bx l) (hNR:M'.NR=M.NR)
  (hr:∀ id,id<M.NR→M.fr id≤M'.fr id∧(M'.fr id=M.fr id→M'.blk id=M.blk id∧M'.cap id=M.cap id∧M'.rsz id=M.rsz id)) (ht:∀ b,M.top b≤M'.top b)
  {g:Nat} {c c':Array Value} {ty:TypeId} (hg:w.heap[g]? = some (.cells c ty (0,0))) (hg0:w0.heap.size≤g) (hkeep:∀ j,j<M.top g→c'[j]? = c[j]?) (hNL:M'.NL=M.NL:=by rfl) (hlb:M'.lb=M.lb:=by rfl) :
  Ext w0 M w M' (w.setRow g c') :=
 ⟨by omega,hb,by omega,hr,fun b a v e d=>by
  refine ⟨?_,e.imp id (fun q=>Nat.lt_of_lt_of_le q (ht b))⟩
  by_cases hbg:b=g
  ·subst hbg
   have h:a<M.top b:=e.resolve_left (by omega)
   rw [cell_of_row w b a c ty _ hg] at d
   rw [cell_of_row _ b a c' ty _ (setRow_heap w b c c' ty _ hg),hkeep a h]
   exact d
  ·rw [cell_setRow_other w g c' ⟨b,a,none⟩ hbg]
   exact d,by simp,by omega,fun _ _=>by rw [hlb],fun _ _ _=>by omega,fun b o i f _=>KeepsObj.setRow hg c' b o i f⟩
theorem Zdh (h:Rel w0 n M e st a w) (t:TypeId) (x v:Operand) (hob:(A0 P e true st (.store t x v)).1) :
  Yields' P w0 M (A0 P e true st (.store t x v)).2.2 (A0 P e true st (.store t x v)).2.1 w (do Instr.storeAt t (a.eval x) (a.eval v);pure .skip):=by
 unfold A0 at hob ⊢
 cases ht:G8 P t with
 | none=>simp [ht] at hob
 | some p =>
  obtain ⟨sz,ag⟩:=p
  simp only [ht] at hob ⊢
  obtain ⟨_,m,hv,hbx,hr,hn,hl,hle⟩:=hob
  have hRx:=A2 h m
  have g:=A2 h hv
  generalize Az e x=X at hRx hbx hr hle ⊢
  generalize a.eval x=vx at hRx ⊢
  cases X with
  | box l off =>
   cases hRx with
   | box hlN =>
    have aa:l<st.boxes.length:=by simpa [Du] using hr
    obtain ⟨cs,hcs⟩:∃ cs,st.boxes[l]? = some cs:=⟨_,List.getElem?_eq_getElem aa⟩
    have ab:st.boxes.getD l []=cs:=by simp [List.getD,hcs]
    obtain ⟨K,b2,c,V,D,b4,b5,b6⟩:=h.st.box l cs hcs
    simp only [Bc,D5,ab] at hle
    simp only [S8,ab]
    obtain ⟨v1,v2⟩:=g.cells
    have v3:=g.cellsOne (fun vs e=>by rw [e] at hn;cases hn)
    have y:∀ u∈(a.eval v).cells.toList,u.oneCell'=true:=by
     intro u hu
     obtain ⟨k,G,rfl⟩:=List.getElem_of_mem hu
     simp only [Array.length_toList] at G
     rw [Array.getElem_toList]
     exact (v2 k G (by omega)).oneCell (v3 _ (List.getElem_mem _))
    have hst:=run_storeCells_at P (M.bx l) off V (a.eval v).cells.toList 0 c w D (by simp;omega) y
    simp only [Nat.add_zero] at hst
    generalize hc':(c.toList.take off++(a.eval v).cells.toList++c.toList.drop (off+(a.eval v).cells.toList.length)).toArray=c' at hst
    have o:c'.size=c.size:=by rw [←hc'];simp;omega
    have z:∀ j,c'[j]? = if off≤j∧j<off+(a.eval v).cells.toList.length then (a.eval v).cells.toList[j-off]? else c[j]? := by
     intro j
     rw [←hc',List.getElem?_toArray,List.append_assoc,List.getElem?_append]
     simp only [List.length_take,Array.length_toList]
     have e:min off c.size=off:=by omega
     rw [e]
     by_cases c1:j<off
     ·rw [Ai c1,Aa,List.getElem?_take,Ai c1,Array.getElem?_toList]
     ·rw [Aj c1,List.getElem?_append]
      simp only [Array.length_toList]
      by_cases c2:j-off<(a.eval v).cells.size
      ·rw [Ai c2,Ab]
      ·rw [Aj c2,Aa,List.getElem?_drop,Array.getElem?_toList]
       congr 1
       omega
    have m:Ext w0 M w M (w.setRow (M.bx l) c'):=MS M rfl (fun _ _=>rfl) rfl (fun _ _=>⟨Nat.le_refl _,fun _=>⟨rfl,rfl,rfl⟩⟩) (fun _=>Nat.le_refl _) D K (fun j hj=>by rw [b2] at hj;omega)
    have f:RowR w0 M w c' (CU cs off (Az e v).cells):=RowR.put ⟨b4,b6⟩ g (by omega) o z
    refine ⟨undef,_,M,.inr ⟨?_,rfl⟩,m,⟨Below.setRow h.st.below K _,by simp [h.st.N],h.st.NR,fun b hb=>h.st.top b (by simpa using hb),h.st.inj,fun F cs' hl'=>?_,fun id x s=>(h.st.row id x s).keep m rfl rfl rfl rfl rfl (h.st.row id x s).ne (setRow_other w _ _ _ (Ne.symm ((h.st.row id x s).ne l hlN))),h.st.rowinj,h.st.loop.mono m rfl (KeepsObj.setRow D _)⟩,ZaC⟩
    ·have e0:¬ ((a.eval v).cells.size≠sz):=by omega
     simp only [Instr.storeAt,Instr.sureAddr,Sem.run_bind,Sem.run_pure,Result.andThen_ok,storeVar,Bm ht,Aj e0,hst]
    ·by_cases ell:F=l
     ·subst ell
      rw [List.getElem?_set_self aa] at hl'
      cases hl'
      exact ⟨K,b2,c',V,setRow_heap w _ c c' V _ D,f.1,OU b5 v3,fun i H E=>(f.2 i H E).mono m⟩
     ·rw [List.getElem?_set_ne (Ne.symm ell)] at hl'
      obtain ⟨d1,d2,d,J,d3,d4,d5,d6⟩:=h.st.box F cs' hl'
      have C:F<M.N:=by rw [h.st.N];exact (Ak.1 hl').1
      have U:M.bx F≠M.bx l:=fun q=>ell (h.st.inj F l C hlN q)
      exact ⟨d1,d2,d,J,by rw [setRow_other w _ _ _ U];exact d3,d4,d5,fun i H E=>(d6 i H E).mono m⟩
  | vel id ver off =>
   cases hRx with
   | @vel _ _ _ ad s hver hh =>
    obtain ⟨af,cs,Q⟩:=QQ (show (EJ st.rows id ver).isSome=true from hr)
    have f:=EM Q
    obtain ⟨f1,f2,K,b2,f5,f6,f7,c,V,D,b4,ai,b5,b6⟩:=h.st.row id _ f
    have had:=hh f1.symm
    subst had
    simp only [Bc,D5,Q] at hle
    simp only [S8,Q]
    obtain ⟨v1,v2⟩:=g.cells
    have v3:=g.cellsOne (fun vs e=>by rw [e] at hn;cases hn)
    have y:∀ u∈(a.eval v).cells.toList,u.oneCell'=true:=by
     intro u hu
     obtain ⟨k,G,rfl⟩:=List.getElem_of_mem hu
     simp only [Array.length_toList] at G
     rw [Array.getElem_toList]
     exact (v2 k G (by omega)).oneCell (v3 _ (List.getElem_mem _))
    have hst:=run_storeCells_at P (M.blk id) off V (a.eval v).cells.toList 0 c w D (by simp;omega) y
    simp only [Nat.add_zero] at hst
    generalize hc':(c.toList.take off++(a.eval v).cells.toList++c.toList.drop (off+(a.eval v).cells.toList.length)).toArray=c' at hst
    have o:c'.size=c.size:=by rw [←hc'];simp;omega
    have z:∀ j,c'[j]? = if off≤j∧j<off+(a.eval v).cells.toList.length then (a.eval v).cells.toList[j-off]? else c[j]? := by
     intro j
     rw [←hc',List.getElem?_toArray,List.append_assoc,List.getElem?_append]
     simp only [List.length_take,Array.length_toList]
     have e:min off c.size=off:=by omega
     rw [e]
     by_cases c1:j<off
     ·rw [Ai c1,Aa,List.getElem?_take,Ai c1,Array.getElem?_toList]
     ·rw [Aj c1,List.getElem?_append]
      simp only [Array.length_toList]
      by_cases c2:j-off<(a.eval v).cells.size
      ·rw [Ai c2,Ab]
      ·rw [Aj c2,Aa,List.getElem?_drop,Array.getElem?_toList]
       congr 1
       omega
    have m:Ext w0 M w M (w.setRow (M.blk id) c'):=MS M rfl (fun _ _=>rfl) rfl (fun _ _=>⟨Nat.le_refl _,fun _=>⟨rfl,rfl,rfl⟩⟩) (fun _=>Nat.le_refl _) D K (fun j hj=>by rw [b2] at hj;omega)
    have Y:id<st.rows.length:=(Ak.1 f).1
    have ah:=LJ (l:=cs) (xs:=(Az e v).cells) (off:=off) (by omega)
    refine ⟨undef,_,M,.inr ⟨?_,rfl⟩,m,⟨Below.setRow h.st.below K _,h.st.N,by simp [h.st.NR],fun b hb=>h.st.top b (by simpa using hb),h.st.inj,fun F cs' hl'=>?_,fun r x hid'=>?_,h.st.rowinj,h.st.loop.mono m rfl (KeepsObj.setRow D _)⟩,ZaC⟩
    ·have e0:¬ ((a.eval v).cells.size≠sz):=by omega
     simp only [Instr.storeAt,Instr.sureAddr,Sem.run_bind,Sem.run_pure,Result.andThen_ok,storeVar,Bm ht,Aj e0,hst]
    ·obtain ⟨d1,d2,d,J,d3,d4,d5,d6⟩:=h.st.box F cs' hl'
     have C:F<M.N:=by rw [h.st.N];exact (Ak.1 hl').1
     exact ⟨d1,d2,d,J,by rw [setRow_other w _ _ _ (f5 F C)];exact d3,d4,d5,fun i H E=>(d6 i H E).mono m⟩
    ·by_cases ell:r=id
     ·subst ell
      rw [List.getElem?_set_self Y] at hid'
      cases hid'
      refine ⟨f1,f2,K,b2,f5,f6,f7,c',V,setRow_heap w _ c c' V _ D,o.trans b4,by omega,OU b5 v3,fun i H E=>?_⟩
      have Z:RowR w0 M w (c'.extract 0 cs.length) (CU cs off (Az e v).cells):=by
       have ae:RowR w0 M w (c.extract 0 cs.length) cs:=⟨by simp;omega,fun i H E=>by rw [Array.getElem_extract];simp only [Nat.zero_add];exact b6 i (by omega) E⟩
       refine RowR.put ae g (by omega) (by simp;omega) (fun j=>?_)
       simp only [Array.getElem?_extract,Nat.zero_add,z]
       by_cases q1:j<min cs.length c'.size
       ·rw [Ab]
        by_cases q2:off≤j∧j<off+(a.eval v).cells.toList.length
        ·rw [Ai q2,Ai q2]
        ·rw [Aj q2,Aj q2,Ab]
       ·rw [Aa,Aj (by simp;omega),Aa]
      have h3:i<(c'.extract 0 cs.length).size:=by simp;omega
      have:=(Z.2 i h3 E).mono m
      rw [Array.getElem_extract] at this
      simpa using this
     ·rw [List.getElem?_set_ne (Ne.symm ell)] at hid'
      have G:=h.st.row r x hid'
      have O:r<M.NR:=by rw [h.st.NR];exact (Ak.1 hid').1
      have U:M.blk r≠M.blk id:=fun q=>ell (h.st.rowinj r id O s q)
      exact G.keep m rfl rfl rfl rfl rfl G.ne (setRow_other w _ _ _ U)
  | _=>cases hbx
end
section
variable {P:Program} {w0:World} {n:Nat} {M:Mem} {e:Env} {st:St} {a:Act} {w:World}
def flat (us:Nat→Value) (m:Nat):List Value:=(List.range m).flatMap fun i=>(us i).cells.toList
theorem VH (us:Nat→Value) (m:Nat):flat us (m+1)=flat us m++(us m).cells.toList:=by
 simp [flat,List.range_succ]
theorem AU {us:Nat→Value} {sz:Nat}:∀ {m:Nat},(∀ i,i<m→(us i).cells.size=sz)→(flat us m).length=m*sz
 | 0,_=>by simp [flat]
 | m+1,h=>by
  rw [VH,List.length_append,AU (fun i a=>h i (by omega)),Array.length_toList,h m (by omega),Nat.succ_mul]
theorem Ih {us:Nat→Value} {sz:Nat}:∀ {m:Nat},(∀ i,i<m→(us i).cells.size=sz)→∀ i,i<m→∀ j,j<sz→(flat us m)[i*sz+j]? = (us i).cells[j]?
 | 0,_,i,a,_,_=>absurd a (by omega)
 | m+1,h,i,a,j,hj=>by
  have d:=AU (us:=us) (m:=m) (fun i a=>h i (by omega))
  rw [VH,List.getElem?_append,d]
  by_cases c:i=m
  ·subst c
   rw [Aa,show i*sz+j-i*sz=j from by omega,Array.getElem?_toList]
  ·have b:(i+1)*sz≤m*sz:=Nat.mul_le_mul_right _ (by omega)
   rw [Nat.succ_mul] at b
   rw [Ab]
   exact Ih (fun i a=>h i (by omega)) i (by omega) j hj
theorem FI {us:Nat→Value} {sz m:Nat} (hs:∀ i,i<m→(us i).cells.size=sz) {b off:Nat} (hsz:0<sz) (hc:∀ i,i<m→∀ j,j<sz→w.cell? ⟨b,off+i*sz+j,none⟩=(us i).cells[j]?) :
  ∀ j u,(flat us m)[j]? = some u→w.cell? ((⟨b,off,none⟩:Addr).add j)=some u:=by
 intro j u h
 have k:=AU hs
 have l:j<m*sz:=by rw [←k];exact (Ak.1 h).1
 have e:=Nat.div_add_mod j sz
 have c:j / sz<m:=(Nat.div_lt_iff_lt_mul hsz).2 l
 have a:=Nat.mod_lt j hsz
 have g:=Ih hs (j / sz) c (j % sz) a
 have d:=hc (j / sz) c (j % sz) a
 have f:j / sz*sz+j % sz=j:=by rw [Nat.mul_comm];exact e
 rw [f] at g
 rw [Nat.add_assoc,f] at d
 rw [Eh,d,←g,h]
theorem R.list_open {v:Value} {xs:List AV} {o:Own} {sz:Nat} (h:R w0 M w v (.list xs o)) (hs:∀ y∈xs,y.cells.length=sz) :
  ∃ us:Nat→Value,(∀ i (hi:i<xs.length),(us i).cells.size=sz∧R w0 M w (us i) xs[i]) ∧
   (((v = .slice none 0 0∨∃ ad,v = .slice (some ad) 0 0)∧xs=[]∧∀ id,o ≠ .row id)∨∃ b off cap sz',v = .slice (some ⟨b,off,none⟩) xs.length cap∧xs.length≤cap∧cap≤maxLen∧Zc7 M b off cap xs.length sz' o ∧
    ∀ i,i<xs.length→∀ j,j<sz→w.cell? ⟨b,off+i*sz+j,none⟩=(us i).cells[j]?):=by
 cases h with
 | nil ho=>exact ⟨fun _=>undef,fun i hi=>absurd hi (by simp),.inl ⟨.inl rfl,rfl,ho⟩⟩
 | emp ho=>exact ⟨fun _=>undef,fun i hi=>absurd hi (by simp),.inl ⟨.inr ⟨_,rfl⟩,rfl,ho⟩⟩
 | @list b off cap _ _ sz' us hc hm hcell hu ho =>
  have a:∀ i (hi:i<xs.length),(us i).cells.size=sz:=fun i hi=>by rw [(hu i hi).cells.1];exact hs _ (List.getElem_mem _)
  refine ⟨us,fun i hi=>⟨a i hi,hu i hi⟩,.inr ⟨b,off,cap,sz',rfl,hc,hm,ho,fun i hi j c=>?_⟩⟩
  have e:sz'=sz:=by rw [←(hcell i hi).1,a i hi]
  subst e
  exact ((hcell i hi).2 j c).2
theorem Y3 {us:Nat→Value} {xs:List AV} {sz:Nat} (hu:∀ i (hi:i<xs.length),(us i).cells.size=sz∧R w0 M w (us i) xs[i]) (hn:∀ y∈xs,AX y=true):∀ u∈flat us xs.length,u.oneCell'=true:=by
 intro u g
 obtain ⟨i,hi,a⟩:=List.mem_flatMap.1 g
 have b:i<xs.length:=List.mem_range.1 hi
 obtain ⟨hs,d⟩:=hu i b
 obtain ⟨k,f,rfl⟩:=List.getElem_of_mem a
 simp only [Array.length_toList] at f
 rw [Array.getElem_toList]
 have c:=d.cellsOne (fun vs e=>by have:=hn _ (List.getElem_mem b);rw [e] at this;cases this)
 exact (d.cells.2 k f (by rw [←d.cells.1];exact f)).oneCell (c _ (List.getElem_mem _))
def Mem.addRow (M:Mem) (b cap k sz tp:Nat):Mem :=
  { M with NR:=M.NR+1,fr:=fun i=>if i=M.NR then k else M.fr i,blk:=fun i=>if i=M.NR then b else M.blk i,cap:=fun i=>if i=M.NR then cap else M.cap i,
           rsz:=fun i=>if i=M.NR then sz else M.rsz i,top:=fun x=>if x=b then tp else M.top x }
def Mem.growRow (M:Mem) (id b cap k tp:Nat):Mem :=
 { M with fr:=fun i=>if i=id then k else M.fr i,blk:=fun i=>if i=id then b else M.blk i,cap:=fun i=>if i=id then cap else M.cap i,top:=fun x=>if x=b then tp else M.top x }
theorem RelSt.addRow' (h:RelSt w0 M st w) {cs:Array Value} {ty:TypeId} {cap k sz tp:Nat} {x:RowA}
  (hnew:Ext w0 M w (M.addRow w.heap.size cap k sz tp) (w.alloc (.cells cs ty))→(∀ l,l<M.N→M.bx l≠w.heap.size)→RowOk w0 (M.addRow w.heap.size cap k sz tp) (w.alloc (.cells cs ty)) M.NR x) :
  RelSt w0 (M.addRow w.heap.size cap k sz tp) { st with rows:=st.rows++[x] } (w.alloc (.cells cs ty))∧Ext w0 M w (M.addRow w.heap.size cap k sz tp) (w.alloc (.cells cs ty)):=by
 have f:∀ b,b<w.heap.size→(M.addRow w.heap.size cap k sz tp).top b=M.top b:=fun b q=>by simp [Mem.addRow];omega
 have a:∀ i,i<M.NR→(M.addRow w.heap.size cap k sz tp).fr i=M.fr i∧(M.addRow w.heap.size cap k sz tp).blk i=M.blk i∧(M.addRow w.heap.size cap k sz tp).cap i=M.cap i∧(M.addRow w.heap.size cap k sz tp).rsz i=M.rsz i:=by
  intro i o
  have:¬ i=M.NR:=by omega
  simp [Mem.addRow,this]
 have m:Ext w0 M w (M.addRow w.heap.size cap k sz tp) (w.alloc (.cells cs ty)) :=
  PP _ _ (.inl rfl) (fun _ _=>rfl) (Nat.le_succ _) (fun i o=>by obtain ⟨a1,a2,a3,a4⟩:=a i o;exact ⟨by omega,fun _=>⟨a2,a3,a4⟩⟩) (fun b q=>by rw [f b q];exact Nat.le_refl _)
 have t:∀ l,l<M.N→M.bx l≠w.heap.size:=fun l r=>by have:=h.box_lt r;omega
 refine ⟨⟨h.below.alloc h.base_le _,h.N,by simp [Mem.addRow,h.NR],fun b q=>?_,h.inj,fun l c r=>?_,fun id y hid=>?_,fun i j o H d=>?_,h.loop.mono m rfl (KeepsObj.alloc _ _)⟩,m⟩
 ·simp at q
  have:(M.addRow w.heap.size cap k sz tp).top b=M.top b:=by simp [Mem.addRow];omega
  rw [this]
  exact h.top b (by omega)
 ·obtain ⟨a1,a2,z,s,a3,a4,a5,a6⟩:=h.box l c r
  have g:=(Array.getElem?_eq_some_iff.1 a3).1
  exact ⟨a1,by rw [show (M.addRow w.heap.size cap k sz tp).bx l=M.bx l from rfl,f _ g];exact a2,z,s,by rw [show (M.addRow w.heap.size cap k sz tp).bx l=M.bx l from rfl,Br _ _ g];exact a3,a4,a5,fun i E G=>(a6 i E G).mono m⟩
 ·by_cases e1:id=M.NR
  ·subst e1
   simp only [h.NR,List.getElem?_concat_length,Option.some.injEq] at hid
   subst hid
   exact hnew m t
  ·have e:id<M.NR:=by
    have:id<(st.rows++[x]).length:=(Ak.1 hid).1
    have u:=h.NR
    simp at this
    omega
   rw [List.getElem?_append_left (by rw [←h.NR];exact e)] at hid
   have p:=h.row id y hid
   obtain ⟨F,C,v,D⟩:=a id e
   exact p.keep m F D C v (f _ p.lt) p.ne (Br _ _ p.lt)
 ·have u:(M.addRow w.heap.size cap k sz tp).NR=M.NR+1:=rfl
  rw [u] at o H
  have n:(M.addRow w.heap.size cap k sz tp).blk M.NR=w.heap.size:=by simp [Mem.addRow]
  by_cases e1:i=M.NR
  ·by_cases e2:j=M.NR
   ·omega
   ·subst e1
    rw [n,(a j (by omega)).2.1] at d
    have:=h.row_lt (i:=j) (by omega)
    omega
  ·by_cases e2:j=M.NR
   ·subst e2
    rw [n,(a i (by omega)).2.1] at d
    have:=h.row_lt (i:=i) (by omega)
    omega
   ·rw [(a i (by omega)).2.1,(a j (by omega)).2.1] at d
    exact h.rowinj i j (by omega) (by omega) d
theorem RelSt.addRow (h:RelSt w0 M st w) {cs:Array Value} {ty:TypeId} {cap k sz:Nat} (hm:cap≤maxLen) (hk:k≤cap) (hs:cs.size=cap*sz) :
  RelSt w0 (M.addRow w.heap.size cap k sz (k*sz)) { st with rows:=st.rows++[.grow k sz] } (w.alloc (.cells cs ty))∧Ext w0 M w (M.addRow w.heap.size cap k sz (k*sz)) (w.alloc (.cells cs ty)) :=
 h.addRow' fun _ a=>by
  have q:(M.addRow w.heap.size cap k sz (k*sz)).fr M.NR=k∧(M.addRow w.heap.size cap k sz (k*sz)).blk M.NR=w.heap.size∧(M.addRow w.heap.size cap k sz (k*sz)).cap M.NR=cap∧(M.addRow w.heap.size cap k sz (k*sz)).rsz M.NR=sz∧(M.addRow w.heap.size cap k sz (k*sz)).top w.heap.size=k*sz:=by simp [Mem.addRow]
  obtain ⟨q1,q2,q3,c,b⟩:=q
  simp only [RowOk,q1,q2,q3,c,b]
  exact ⟨trivial,trivial,h.base_le,trivial,a,hm,hk,cs,ty,heap_alloc_new w _,hs⟩
theorem RelSt.addVec (h:RelSt w0 M st w) {cs:Array Value} {ty:TypeId} {cap sz:Nat} {xs:List AV} (hm:cap≤maxLen) (hz:0<sz) (hs:cs.size=cap*sz) (hl:xs.length≤cs.size) (h1:∀ x∈xs,x.one=true) (hR:∀ (i:Nat) (v:Value) (x:AV),cs[i]? = some v→xs[i]? = some x→R w0 M w v x) :
  RelSt w0 (M.addRow w.heap.size cap 0 sz 0) { st with rows:=st.rows++[.vec 0 sz xs] } (w.alloc (.cells cs ty))∧Ext w0 M w (M.addRow w.heap.size cap 0 sz 0) (w.alloc (.cells cs ty)) :=
 h.addRow' fun e c=>by
  have q:(M.addRow w.heap.size cap 0 sz 0).fr M.NR=0∧(M.addRow w.heap.size cap 0 sz 0).blk M.NR=w.heap.size∧(M.addRow w.heap.size cap 0 sz 0).cap M.NR=cap∧(M.addRow w.heap.size cap 0 sz 0).rsz M.NR=sz∧(M.addRow w.heap.size cap 0 sz 0).top w.heap.size=0:=by simp [Mem.addRow]
  obtain ⟨q1,q2,q3,f,d⟩:=q
  simp only [RowOk,q1,q2,q3,f,d]
  exact ⟨trivial,trivial,h.base_le,trivial,c,hm,hz,cs,ty,heap_alloc_new w _,hs,hl,h1,fun i a b=>(hR i _ _ (Array.getElem?_eq_getElem a) (List.getElem?_eq_getElem b)).mono e⟩
theorem RelSt.growRow' (h:RelSt w0 M st w) {id:Nat} {x0 x:RowA} (hid:st.rows[id]? = some x0) {w':World} {b cap k tp:Nat} (hbelow:Below w0.heap.size w w')
  (hsize:w.heap.size≤w'.heap.size) (hbw:b<w'.heap.size) (hbox:∀ l,l<M.N→M.bx l≠b∧w'.heap[M.bx l]? = w.heap[M.bx l]?) (hrow:∀ i,i<M.NR→i≠id→M.blk i≠b∧w'.heap[M.blk i]? = w.heap[M.blk i]?)
  (hnew:RowOk w0 (M.growRow id b cap k tp) w' id x) (hx:Ext w0 M w (M.growRow id b cap k tp) w') (hko:KeepsObj w w') :
  RelSt w0 (M.growRow id b cap k tp) { st with rows:=st.rows.set id x } w':=by
 have e:id<st.rows.length:=(Ak.1 hid).1
 refine ⟨h.below.trans hbelow,h.N,by simp [Mem.growRow,h.NR],fun y z=>?_,h.inj,fun l c r=>?_,fun i y hi=>?_,fun i j hi o a=>?_,h.loop.mono hx rfl hko⟩
 ·have:(M.growRow id b cap k tp).top y=M.top y:=by simp [Mem.growRow];omega
  rw [this]
  exact h.top y (by omega)
 ·obtain ⟨a1,a2,u,p,a3,a4,a5,a6⟩:=h.box l c r
  have n:l<M.N:=by rw [h.N];exact (Ak.1 r).1
  obtain ⟨g,f⟩:=hbox l n
  refine ⟨a1,?_,u,p,by rw [show (M.growRow id b cap k tp).bx l=M.bx l from rfl,f];exact a3,a4,a5,fun i g f=>(a6 i g f).mono hx⟩
  show (M.growRow id b cap k tp).top (M.bx l)=0
  simp [Mem.growRow,g,a2]
 ·by_cases e1:i=id
  ·subst e1
   rw [List.getElem?_set_self e] at hi
   cases hi
   exact hnew
  ·rw [List.getElem?_set_ne (Ne.symm e1)] at hi
   have m:i<M.NR:=by rw [h.NR];exact (Ak.1 hi).1
   have s:=h.row i y hi
   obtain ⟨g,f⟩:=hrow i m e1
   have q:(M.growRow id b cap k tp).fr i=M.fr i∧(M.growRow id b cap k tp).blk i=M.blk i∧(M.growRow id b cap k tp).cap i=M.cap i∧(M.growRow id b cap k tp).rsz i=M.rsz i∧(M.growRow id b cap k tp).top (M.blk i)=M.top (M.blk i):=by simp [Mem.growRow,e1,g]
   obtain ⟨q1,q2,q3,t,v⟩:=q
   exact s.keep hx q1 t q2 q3 v s.ne f
 ·have d:∀ j,(M.growRow id b cap k tp).blk j=if j=id then b else M.blk j:=fun j=>rfl
  rw [d,d] at a
  have C:(M.growRow id b cap k tp).NR=M.NR:=rfl
  rw [C] at hi o
  by_cases e1:i=id
  ·by_cases e2:j=id
   ·omega
   ·rw [Ai e1,Aj e2] at a
    exact absurd a.symm (hrow j o e2).1
  ·by_cases e2:j=id
   ·rw [Aj e1,Ai e2] at a
    exact absurd a (hrow i hi e1).1
   ·rw [Aj e1,Aj e2] at a
    exact h.rowinj i j hi o a
theorem RelSt.growRow (h:RelSt w0 M st w) {id:Nat} {k0 sz:Nat} (hid:st.rows[id]? = some (.grow k0 sz)) {w':World} {b cap k:Nat} (hb0:w0.heap.size≤b) (hbelow:Below w0.heap.size w w')
  (hsize:w.heap.size≤w'.heap.size) (hbw:b<w'.heap.size) (hm:cap≤maxLen) (hk:k≤cap) (hbox:∀ l,l<M.N→M.bx l≠b∧w'.heap[M.bx l]? = w.heap[M.bx l]?) (hrow:∀ i,i<M.NR→i≠id→M.blk i≠b∧w'.heap[M.blk i]? = w.heap[M.blk i]?)
  {cs:Array Value} {ty:TypeId} (hcs:w'.heap[b]? = some (.cells cs ty (0,0))) (hs:cs.size=cap*sz) (hx:Ext w0 M w (M.growRow id b cap k (k*sz)) w') (hko:KeepsObj w w') :
  RelSt w0 (M.growRow id b cap k (k*sz)) { st with rows:=st.rows.set id (.grow k sz) } w':=by
 refine h.growRow' hid hbelow hsize hbw hbox hrow ?_ hx hko
 have q:(M.growRow id b cap k (k*sz)).fr id=k∧(M.growRow id b cap k (k*sz)).blk id=b∧(M.growRow id b cap k (k*sz)).cap id=cap∧(M.growRow id b cap k (k*sz)).rsz id=M.rsz id∧(M.growRow id b cap k (k*sz)).top b=k*sz:=by simp [Mem.growRow]
 obtain ⟨q1,q2,q3,c,a⟩:=q
 simp only [RowOk,q1,q2,q3,c,a]
 exact ⟨trivial,(h.row id _ hid).2.1,hb0,trivial,fun l d=>(hbox l d).1,hm,hk,cs,ty,hcs,hs⟩
def Xg (us ux:Nat→Value) (k:Nat):Nat→Value:=fun i=>if i<k then us i else ux (i-k)
theorem Zt {us ux:Nat→Value} {xs ys:List AV} {sz:Nat} {M':Mem} {w':World} (hx:Ext w0 M w M' w') (h1:∀ i (hi:i<xs.length),(us i).cells.size=sz∧R w0 M w (us i) xs[i]) (h2:∀ i (hi:i<ys.length),(ux i).cells.size=sz∧R w0 M w (ux i) ys[i]) :
  ∀ i (hi:i<(xs++ys.map AV.pub).length),(Xg us ux xs.length i).cells.size=sz∧R w0 M' w' (Xg us ux xs.length i) (xs++ys.map AV.pub)[i]:=by
 intro i hi
 unfold Xg
 by_cases c:i<xs.length
 ·rw [Ai c,List.getElem_append_left c]
  exact ⟨(h1 i c).1,((h1 i c).2).mono hx⟩
 ·simp at hi
  rw [Aj c,List.getElem_append_right (by omega),List.getElem_map]
  exact ⟨(h2 _ (by omega)).1,((h2 _ (by omega)).2).pub.mono hx⟩
theorem XI {us ux:Nat→Value} {k m sz:Nat} (hs:∀ i,i<k→(us i).cells.size=sz) (hx:∀ i,i<m→(ux i).cells.size=sz) (zs:List Value) :
  ∀ i,i<k+m→∀ j,j<sz→(flat us k++flat ux m++zs)[i*sz+j]? = (Xg us ux k i).cells[j]? := by
 intro i f j a
 have d:=AU hs
 have b:=AU hx
 rw [List.append_assoc,List.getElem?_append,d]
 unfold Xg
 by_cases c:i<k
 ·have q:(i+1)*sz≤k*sz:=Nat.mul_le_mul_right _ c
  rw [Nat.succ_mul] at q
  rw [Ab,Ai c]
  exact Ih hs i c j a
 ·have q:k*sz≤i*sz:=Nat.mul_le_mul_right _ (by omega)
  have q2:(i-k+1)*sz≤m*sz:=Nat.mul_le_mul_right _ (by omega)
  rw [Nat.succ_mul] at q2
  have e:i*sz=k*sz+(i-k)*sz:=by rw [←Nat.add_mul];congr 1;omega
  rw [Aa,Aj c,List.getElem?_append,b,Ab,show i*sz+j-k*sz=(i-k)*sz+j from by omega]
  exact Ih hx (i-k) (by omega) j a
theorem X7 (t ty el:TypeId) {sz:Nat} {ag:Bool} (ht:P.underlying t=some (.slice el)) (hty:G8 P el=some (sz,ag)) (g k cap:Nat) (cur:Array Value) (te:TypeId) (hg:w.heap[g]? = some (.cells cur te (0,0)))
  {x:Value} {m:Nat} (hlen:(Builtin.lenOf x).run P w = .ok m w) (news:List Value) (hf:(Builtin.firstCells sz m x).run P w = .ok news.toArray w) (h1:∀ u∈news,u.oneCell'=true)
  (hroom:k+m≤cap) (hfit:k*sz+news.length≤cur.size) :
  (Builtin.append_ #[t,t] ty #[.slice (some ⟨g,0,none⟩) k cap,x]).run P w =
   .ok (.slice (some ⟨g,0,none⟩) (k+m) cap) (w.setRow g (cur.toList.take (k*sz)++news++cur.toList.drop (k*sz+news.length)).toArray):=by
 have b:=run_storeCells_at P g (k*sz) te news 0 cur w hg (by simpa using hfit) h1
 simp only [Nat.add_zero] at b
 obtain ⟨i,d,c,hsz,_,_⟩:=L6 hty
 subst hsz
 have a:(⟨g,0,none⟩:Addr).add (k*i.size)=⟨g,k*i.size,none⟩:=by rw [Eh,Nat.zero_add]
 simp [Builtin.append_,run_underlying ht,sizeOf,typeInfo,c,hlen,hroom,hf,a,b]
theorem Og {ys:List AV} {sz:Nat} (hs:∀ y∈ys,y.cells.length=sz):(ys.flatMap fun y=>y.pub.cells).length=ys.length*sz:=by
 induction ys with
 | nil=>simp
 | cons y ys ih =>
  rw [List.flatMap_cons,List.length_append,ih (fun z a=>hs z (by simp [a])),AV.pub_cells_length,hs y (by simp),List.length_cons,Nat.succ_mul]
  omega
theorem Zcs {sz:Nat}:∀ (ys:List AV),(∀ y∈ys,y.cells.length=sz)→∀ i y,ys[i]? = some y→∀ k,k<sz→(ys.flatMap fun y=>y.pub.cells)[i*sz+k]? = y.pub.cells[k]?
 | [],_,i,y,h,_,_=>by simp at h
 | x::ys,hs,0,y,h,k,hk=>by
  simp only [List.getElem?_cons_zero,Option.some.injEq] at h
  subst h
  rw [List.flatMap_cons,Nat.zero_mul,Nat.zero_add,List.getElem?_append_left (by rw [AV.pub_cells_length,hs x (by simp)];exact hk)]
 | x::ys,hs,i+1,y,h,k,hk=>by
  have a:x.pub.cells.length=sz:=by rw [AV.pub_cells_length];exact hs x (by simp)
  rw [List.flatMap_cons,List.getElem?_append_right (by rw [a,Nat.succ_mul];omega),a,show (i+1)*sz+k-sz=i*sz+k from by rw [Nat.succ_mul];omega]
  exact Zcs ys (fun z b=>hs z (by simp [b])) i y (by simpa using h) k hk
theorem Z1 {ux:Nat→Value} {ys:List AV} (hu:∀ i (hi:i<ys.length),R w0 M w (ux i) ys[i]) (hn:∀ y∈ys,AX y=true):∀ x∈ys.flatMap (fun y=>y.pub.cells),x.one=true:=by
 intro x c
 obtain ⟨y,b,a⟩:=List.mem_flatMap.1 c
 obtain ⟨i,hi,rfl⟩:=List.mem_iff_getElem.1 b
 refine ((hu i hi).pub).cellsOne (fun vs e=>?_) x a
 have:=hn _ b
 cases h:ys[i]<;>rw [h] at e this<;>first | (cases this;done) | (cases e;done)
theorem ZhF {ux:Nat→Value} {ys:List AV} {sz:Nat} (hz:0<sz) (hu:∀ i (hi:i<ys.length),(ux i).cells.size=sz∧R w0 M w (ux i) ys[i]) (hs:∀ y∈ys,y.cells.length=sz) {j:Nat} {v:Value} {x:AV} (hv:(flat ux ys.length)[j]? = some v) (hx:(ys.flatMap fun y=>y.pub.cells)[j]? = some x):R w0 M w v x:=by
 have f:j<ys.length*sz:=by rw [←Og hs];exact (Ak.1 hx).1
 have hi:j / sz<ys.length:=(Nat.div_lt_iff_lt_mul hz).2 f
 have c:=Nat.mod_lt j hz
 have e:j / sz*sz+j % sz=j:=by rw [Nat.mul_comm];exact Nat.div_add_mod j sz
 have b:=Ih (us:=ux) (sz:=sz) (fun i hi=>(hu i hi).1) (j / sz) hi (j % sz) c
 have a:=Zcs ys hs (j / sz) _ (List.getElem?_eq_getElem hi) (j % sz) c
 rw [e] at b a
 rw [hv] at b
 rw [hx] at a
 obtain ⟨_,g⟩:=((hu _ hi).2).pub.cells
 obtain ⟨q1,q2⟩:=Array.getElem?_eq_some_iff.1 b.symm
 obtain ⟨q3,d⟩:=Ak.1 a.symm
 rw [←q2,←d]
 exact g _ q1 q3
theorem ZbX (h:Rel w0 n M e st a w) (s x:Operand) (t ty:TypeId) (hs:AM e true s) (hx:AM e true x) (hob:(BH P st t (Az e s) (Az e x)).1) :
  Yields' P w0 M (BH P st t (Az e s) (Az e x)).2.2 (BH P st t (Az e s) (Az e x)).2.1 w (do pure (.value (← Builtin.append_ #[t,t] ty #[a.eval s,a.eval x]))):=by
 have hRs:=A2 h hs
 have hRx:=A2 h hx
 generalize Az e s=S at hRs hob ⊢
 generalize Az e x=X at hRx hob ⊢
 generalize a.eval s=vs at hRs ⊢
 generalize a.eval x=vx at hRx ⊢
 unfold BH at hob ⊢
 cases he:Lr P t with
 | none=>simp [he] at hob
 | some p =>
  obtain ⟨el,sz,ag,bn⟩:=p
  simp only [he] at hob ⊢
  obtain ⟨f,hu,g,a3,a8⟩:=Gt he
  have r:f.size=sz:=by
   obtain ⟨i',d,h1,h2,_⟩:=L6 a8
   rw [g] at h1;cases h1;exact h2
  cases S with
  | list xs o =>
   have a0:(AP X).length=0→Bv X=true→Yields' P w0 M st (.list xs o) w (do pure (.value (← Builtin.append_ #[t,t] ty #[vs,vx]))):=by
    intro ah lx
    obtain ⟨ys,o',rfl⟩:=HG lx
    simp only [AP] at ah
    have:ys=[]:=List.length_eq_zero_iff.1 ah
    subst this
    refine .here h.st (v:=vs) ?_ hRs
    have bj:(Builtin.lenOf vx).run P w = .ok 0 w∧(Builtin.firstCells sz 0 vx).run P w = .ok #[] w:=by
     cases hRx with
     | nil _=>exact ⟨rfl,rfl⟩
     | emp _=>exact ⟨rfl,by simp [Builtin.firstCells,loadCells,loadCellsFrom]⟩
     | list=>exact ⟨rfl,by simp [Builtin.firstCells,loadCells,loadCellsFrom]⟩
    obtain ⟨bf,be⟩:=bj
    have a7:∀ (ad:Option Addr) (ln cap:Nat),ln≤cap→(Builtin.append_ #[t,t] ty #[.slice ad ln cap,vx]).run P w = .ok (.slice ad ln cap) w:=fun ad ln cap Z=>by
     cases ad with
     | none=>simp [Builtin.append_,run_underlying hu,sizeOf,typeInfo,g,r,bf,be,Z]
     | some ad=>simp [Builtin.append_,run_underlying hu,sizeOf,typeInfo,g,r,bf,be,Z,storeCells]
    cases hRs with
    | nil _=>exact a7 none 0 0 (Nat.le_refl _)
    | emp _=>exact a7 _ 0 0 (Nat.le_refl _)
    | list sz us hc=>exact a7 _ _ _ hc
   cases o with
   | none=>exact hob.elim
   | full =>
   simp only at hob ⊢
   by_cases ah:(AP X).length=0
   ·rw [Ai ah] at hob ⊢
    exact a0 ah hob.1
   rw [Aj ah] at hob ⊢
   obtain ⟨lx,⟨K,hz,G,az,cx⟩,cs⟩:=hob
   obtain ⟨ys,o',rfl⟩:=HG lx
   simp only [AP] at *
   have hpos:0<ys.length:=by omega
   obtain ⟨z,ar⟩:=Option.isSome_iff_exists.1 hz
   obtain ⟨i',v,hi',hv,hc,ab,rfl⟩:=E8 ar
   rw [g] at hi';cases hi'
   obtain ⟨us,u1,u2⟩:=hRs.list_open cs
   obtain ⟨ux,x1,x2⟩:=hRx.list_open (fun y hy=>(cx y hy).1)
   have aj:∀ i,i<xs.length→(us i).cells.size=sz:=fun i g=>(u1 i g).1
   have m:∀ i,i<ys.length→(ux i).cells.size=sz:=fun i g=>(x1 i g).1
   rcases x2 with ⟨_,q,_⟩ | ⟨bx,ox,cx',_,rfl,_,_,_,hcx⟩
   ·subst q;exact absurd hpos (by simp)
   have J:=FI (w:=w) m K hcx
   have Q:xs.length+ys.length≤maxLen:=by simp [maxLen];omega
   have H:∀ (O:Nat) (zs:List Value) (cells:Array Value),cells.toList=flat us xs.length++flat ux ys.length++zs→zs.length=(grownCap w (xs.length+ys.length) O el-(xs.length+ys.length))*sz →
     (Builtin.append_ #[t,t] ty #[vs,.slice (some ⟨bx,ox,none⟩) ys.length cx']).run P w = .ok (.slice (some ⟨w.heap.size,0,none⟩) (xs.length+ys.length) (grownCap w (xs.length+ys.length) O el)) (w.drew.alloc (.cells cells el)) →
     Yields' P w0 M { st with rows:=st.rows++[.grow (xs.length+ys.length) sz] } (.list (xs++ys.map AV.pub) (.row st.rows.length)) w (do pure (.value (← Builtin.append_ #[t,t] ty #[vs,.slice (some ⟨bx,ox,none⟩) ys.length cx']))):=by
    intro O zs cells E bb hrun
    obtain ⟨d1,d2⟩:=h.st.drew
    have ae:=grownCap_ge w (xs.length+ys.length) O el
    have Z:=grownCap_le_maxLen w (xs.length+ys.length) O el Q
    have F:cells.size=grownCap w (xs.length+ys.length) O el*sz:=by
     have:cells.size=cells.toList.length:=by simp
     rw [this,E]
     simp only [List.length_append,AU aj,AU m,bb]
     rw [←Nat.add_mul,←Nat.add_mul]
     congr 1
     omega
    obtain ⟨r1,r2⟩:=d1.addRow (cs:=cells) (ty:=el) (sz:=sz) Z ae F
    have ai:=Zt (w0:=w0) d2 u1 x1
    have D:(xs++ys.map AV.pub).length=xs.length+ys.length:=by simp
    have Y:=R.row (w0:=w0) (M:=M) (w:=w.drew) (us:=Xg us ux xs.length) (xs:=xs++ys.map AV.pub) (cs:=cells) (ty:=el) (sz:=sz) (k:=(xs.length+ys.length)*sz) (cap:=grownCap w (xs.length+ys.length) O el) (o := .row st.rows.length) ai
     (fun i g j hj=>by
      rw [D] at g
      rw [←Array.getElem?_toList,E]
      exact XI aj m zs i g j hj) (by rw [D];exact ae) Z (by rw [D];exact Nat.le_refl _) (M.addRow w.drew.heap.size (grownCap w (xs.length+ys.length) O el) (xs.length+ys.length) sz ((xs.length+ys.length)*sz)) (by simp [Mem.addRow]) r2
     (by
      have hN:=h.st.NR
      refine ⟨by simp [Mem.addRow,hN],by rw [D];simp [Mem.addRow,hN],fun _=>by simp [Mem.addRow,hN]⟩)
    rw [D] at Y
    exact .value ⟨_,_,_,hrun,d2.trans r2,r1,Y⟩
   have af:(flat ux ys.length).length=ys.length*f.size:=by rw [AU m,r]
   have ak:(xs.length+ys.length)*f.bytes≤140737488355328:=by rw [a3];exact G
   rcases u2 with ⟨rfl | ⟨ad,rfl⟩,q,_⟩ | ⟨bs,os,cps,sz',rfl,_,_,ho,hcs'⟩
   ·subst q
    simp only [List.length_nil,Nat.zero_add] at *
    have hrun:=run_append_nil (P:=P) w t ty el f v hu g hv ⟨bx,ox,none⟩ ys.length cx' (flat ux ys.length) af J hpos (by omega) (by omega)
    refine H 0 (Builtin.zeroCells v.cells (grownCap w ys.length 0 el-ys.length)).toList _ ?_ ?_ hrun
    ·simp [flat]
    ·simp only [Array.length_toList,size_zeroCells,ab,r]
   ·subst q
    simp only [List.length_nil,Nat.zero_add] at *
    have hrun:=run_append_grow (P:=P) w t ty el f v hu g hv ad 0 0 [] (by simp) (fun j u hu=>by simp at hu) ⟨bx,ox,none⟩ ys.length cx' (flat ux ys.length) af J (by omega) (by rw [Nat.zero_add];omega) (growslice_fits (by omega) (by rw [Nat.zero_add];exact ak))
    simp only [Nat.zero_add] at hrun
    refine H 0 (Builtin.zeroCells v.cells (grownCap w ys.length 0 el-ys.length)).toList _ ?_ ?_ hrun
    ·simp [flat]
    ·simp only [Array.length_toList,size_zeroCells,ab,r]
   ·have hcap:xs.length=cps:=ho
    have ap:=FI (w:=w) aj K hcs'
    have aw:(flat us xs.length).length=xs.length*f.size:=by rw [AU aj,r]
    have hrun:=run_append_grow (P:=P) w t ty el f v hu g hv ⟨bs,os,none⟩ xs.length cps (flat us xs.length) aw ap ⟨bx,ox,none⟩ ys.length cx' (flat ux ys.length) af J (by omega) (by omega) (growslice_fits (by omega) ak)
    refine H cps (Builtin.zeroCells v.cells (grownCap w (xs.length+ys.length) cps el-(xs.length+ys.length))).toList _ ?_ ?_ hrun
    ·simp
    ·simp only [Array.length_toList,size_zeroCells,ab,r]
   | seed =>
   simp only at hob ⊢
   by_cases ah:(AP X).length=0
   ·rw [Ai ah] at hob ⊢
    exact a0 ah hob.1
   rw [Aj ah] at hob ⊢
   obtain ⟨lx,⟨K,hz,G,az,cx⟩,bi,hpos⟩:=hob
   obtain ⟨ys,o',rfl⟩:=HG lx
   have:xs=[]:=List.length_eq_zero_iff.1 bi
   subst this
   simp only [AP,Nat.zero_add] at *
   obtain ⟨z,ar⟩:=Option.isSome_iff_exists.1 hz
   obtain ⟨i',v,hi',hv,hc,ab,rfl⟩:=E8 ar
   rw [g] at hi';cases hi'
   obtain ⟨ux,x1,x2⟩:=hRx.list_open (fun y hy=>(cx y hy).1)
   have m:∀ i,i<ys.length→(ux i).cells.size=sz:=fun i g=>(x1 i g).1
   rcases x2 with ⟨_,q,_⟩ | ⟨bx,ox,cx',_,rfl,_,_,_,hcx⟩
   ·subst q;exact absurd hpos (by simp)
   have J:=FI (w:=w) m K hcx
   have Q:ys.length≤maxLen:=by simp [maxLen];omega
   have af:(flat ux ys.length).length=ys.length*f.size:=by rw [AU m,r]
   have ak:ys.length*f.bytes≤140737488355328:=by rw [a3];exact G
   have H:∀ (O:Nat) (zs:List Value) (cells:Array Value),cells.toList=flat ux ys.length++zs→zs.length=(grownCap w ys.length O el-ys.length)*sz →
     (Builtin.append_ #[t,t] ty #[vs,.slice (some ⟨bx,ox,none⟩) ys.length cx']).run P w = .ok (.slice (some ⟨w.heap.size,0,none⟩) ys.length (grownCap w ys.length O el)) (w.drew.alloc (.cells cells el)) →
     Yields' P w0 M { st with rows:=st.rows++[.vec 0 sz (ys.flatMap fun y=>y.pub.cells)] } (.vec st.rows.length 0 0 ys.length) w (do pure (.value (← Builtin.append_ #[t,t] ty #[vs,.slice (some ⟨bx,ox,none⟩) ys.length cx']))):=by
    intro O zs cells E bb hrun
    obtain ⟨d1,d2⟩:=h.st.drew
    have ae:=grownCap_ge w ys.length O el
    have Z:=grownCap_le_maxLen w ys.length O el Q
    have F:cells.size=grownCap w ys.length O el*sz:=by
     have:cells.size=cells.toList.length:=by simp
     rw [this,E]
     simp only [List.length_append,AU m,bb]
     rw [←Nat.add_mul]
     congr 1
     omega
    have a4:=Og (fun y hy=>(cx y hy).1)
    obtain ⟨r1,r2⟩:=d1.addVec (cs:=cells) (ty:=el) (sz:=sz) (xs:=ys.flatMap fun y=>y.pub.cells) Z K F (by rw [F,a4];exact Nat.mul_le_mul_right _ ae) (Z1 (fun i g=>((x1 i g).2).mono d2) (fun y hy=>(cx y hy).2))
     (fun i v x aq ao=>by
      have bd:i<ys.length*sz:=by rw [←a4];exact (Ak.1 ao).1
      rw [←Array.getElem?_toList,E,List.getElem?_append_left (by rw [AU m];exact bd)] at aq
      exact (ZhF K x1 (fun y hy=>(cx y hy).1) aq ao).mono d2)
    refine .value ⟨_,_,_,hrun,d2.trans r2,r1,?_⟩
    have hN:=h.st.NR
    refine .vec (by simp [Mem.addRow,hN]) (Nat.zero_le _) fun _=>⟨by simp [Mem.addRow,hN],by simp [Mem.addRow,hN],ae⟩
   (cases hRs with
   | nil ho =>
    have hrun:=run_append_nil (P:=P) w t ty el f v hu g hv ⟨bx,ox,none⟩ ys.length cx' (flat ux ys.length) af J hpos (by omega) (by omega)
    refine H 0 (Builtin.zeroCells v.cells (grownCap w ys.length 0 el-ys.length)).toList _ ?_ ?_ hrun
    ·simp
    ·simp only [Array.length_toList,size_zeroCells,ab,r]
   | @emp ad _ ho =>
    have hrun:=run_append_grow (P:=P) w t ty el f v hu g hv ad 0 0 [] (by simp) (fun j u hu=>by simp at hu) ⟨bx,ox,none⟩ ys.length cx' (flat ux ys.length) af J (by omega) (by rw [Nat.zero_add];omega) (growslice_fits (by omega) (by rw [Nat.zero_add];exact ak))
    simp only [Nat.zero_add] at hrun
    refine H 0 (Builtin.zeroCells v.cells (grownCap w ys.length 0 el-ys.length)).toList _ ?_ ?_ hrun
    ·simp
    ·simp only [Array.length_toList,size_zeroCells,ab,r]
   | @list b off cap _ _ sz' us hc' hm' hcell hu' ho =>
    have hcap:(0:Nat)=cap:=ho
    subst hcap
    have hrun:=run_append_grow (P:=P) w t ty el f v hu g hv ⟨b,off,none⟩ 0 0 [] (by simp) (fun j u hu=>by simp at hu) ⟨bx,ox,none⟩ ys.length cx' (flat ux ys.length) af J (by omega) (by rw [Nat.zero_add];omega) (growslice_fits (by omega) (by rw [Nat.zero_add];exact ak))
    simp only [Nat.zero_add] at hrun
    refine H 0 (Builtin.zeroCells v.cells (grownCap w ys.length 0 el-ys.length)).toList _ ?_ ?_ hrun
    ·simp
    ·simp only [Array.length_toList,size_zeroCells,ab,r])
   | row id =>
   simp only at hob ⊢
   obtain ⟨lx,⟨K,hz,G,az,cx⟩,cs,am⟩:=hob
   obtain ⟨ys,o',rfl⟩:=HG lx
   simp only [AP] at *
   obtain ⟨z,ar⟩:=Option.isSome_iff_exists.1 hz
   obtain ⟨i',v,hi',hv,hc,ab,rfl⟩:=E8 ar
   rw [g] at hi';cases hi'
   obtain ⟨us,u1,u2⟩:=hRs.list_open cs
   obtain ⟨ux,x1,x2⟩:=hRx.list_open (fun y hy=>(cx y hy).1)
   have aj:∀ i,i<xs.length→(us i).cells.size=sz:=fun i g=>(u1 i g).1
   have m:∀ i,i<ys.length→(ux i).cells.size=sz:=fun i g=>(x1 i g).1
   have U:id<M.NR:=by rw [h.st.NR];exact (Ak.1 am).1
   obtain ⟨f1,f2,f3,f4,f5,f6,f7,cur,te,f8,f9⟩:=h.st.row id _ am
   rcases u2 with ⟨_,_,q⟩ | ⟨bs,os,cps,sz',rfl,_,_,ho,hcs'⟩
   ·exact absurd rfl (q id)
   obtain ⟨_,_,bl⟩:=ho
   obtain ⟨e1,e2,e3,_⟩:=bl f1.symm
   subst e1;subst e2;subst e3
   have D:(xs++ys.map AV.pub).length=xs.length+ys.length:=by simp
   have ba:(Builtin.lenOf vx).run P w = .ok ys.length w:=by
    rcases x2 with ⟨rfl | ⟨_,rfl⟩,q,_⟩ | ⟨bx,ox,cx',_,rfl,_⟩
    ·subst q;rfl
    ·subst q;rfl
    ·rfl
   have af:(flat ux ys.length).length=ys.length*f.size:=by rw [AU m,r]
   have au:(Builtin.firstCells sz ys.length vx).run P w = .ok (flat ux ys.length).toArray w:=by
    rcases x2 with ⟨rfl | ⟨_,rfl⟩,q,_⟩ | ⟨bx,ox,cx',_,rfl,_,_,_,hcx⟩
    ·subst q;rfl
    ·subst q;simp [Builtin.firstCells,loadCells,loadCellsFrom,flat]
    ·exact run_firstCells_some w sz ys.length ⟨bx,ox,none⟩ ys.length cx' (flat ux ys.length) (AU m) (FI (w:=w) m K hcx)
   by_cases hroom:xs.length+ys.length≤M.cap id
   ·-- there is room
    have a2:xs.length*sz+(flat ux ys.length).length≤cur.size:=by rw [AU m,f9,←Nat.add_mul];exact Nat.mul_le_mul_right _ hroom
    have hrun:=X7 (P:=P) (w:=w) t ty el hu a8 (M.blk id) xs.length (M.cap id) cur te f8 ba (flat ux ys.length) au (Y3 x1 (fun y hy=>(cx y hy).2)) hroom a2
    generalize hc':(cur.toList.take (xs.length*sz)++flat ux ys.length++cur.toList.drop (xs.length*sz+(flat ux ys.length).length)).toArray=cur' at hrun
    have av:cur'.size=cur.size:=by rw [←hc'];simp;omega
    have ax:∀ j,j<xs.length*sz→cur'[j]? = cur[j]? := by
     intro j hj
     rw [←hc',List.getElem?_toArray,List.append_assoc,List.getElem?_append_left (by simp;omega),List.getElem?_take,Ai hj,Array.getElem?_toList]
    have bc:∀ j,j<ys.length*sz→cur'[xs.length*sz+j]? = (flat ux ys.length)[j]? := by
     intro j hj
     have l2:=AU m
     rw [←hc',List.getElem?_toArray,List.append_assoc,List.getElem?_append_right (by simp;omega)]
     simp only [List.length_take,Array.length_toList]
     have e:min (xs.length*sz) cur.size=xs.length*sz:=by omega
     rw [e,show xs.length*sz+j-xs.length*sz=j from by omega,List.getElem?_append_left (by rw [l2];exact hj)]
    have C:Ext w0 M w (M.growRow id (M.blk id) (M.cap id) (xs.length+ys.length) ((xs.length+ys.length)*sz)) (w.setRow (M.blk id) cur'):=by
     refine MS (M:=M) (M.growRow id (M.blk id) (M.cap id) (xs.length+ys.length) ((xs.length+ys.length)*sz)) rfl (fun _ _=>rfl) rfl (fun i g=>?_) (fun b=>?_) f8 f3 (fun j hj=>ax j (by rw [f4] at hj;exact hj))
     ·by_cases c:i=id
      ·subst c
       simp only [Mem.growRow,if_true,f1]
       exact ⟨by omega,fun _=>⟨trivial,trivial,trivial⟩⟩
      ·simp only [Mem.growRow,Aj c]
       exact ⟨Nat.le_refl _,fun _=>⟨trivial,trivial,trivial⟩⟩
     ·simp only [Mem.growRow]
      split
      ·rename_i c
       rw [c,f4]
       exact Nat.mul_le_mul_right _ (by omega)
      ·exact Nat.le_refl _
    have ay:=h.st.row_lt U
    have aa:=h.st.growRow am (w':=w.setRow (M.blk id) cur') (b:=M.blk id) (cap:=M.cap id) (k:=xs.length+ys.length) f3 (Below.setRow (Below.refl _ _) f3 _) (by simp) (by simpa using ay) f6 hroom
     (fun l hl=>⟨f5 l hl,setRow_other w _ _ _ (f5 l hl)⟩) (fun i g a1=>by
      have:M.blk i≠M.blk id:=fun q=>a1 (h.st.rowinj i id g U q)
      exact ⟨this,setRow_other w _ _ _ this⟩) (setRow_heap w _ cur cur' te _ f8) (by rw [av];exact f9) C (KeepsObj.setRow f8 _)
    have ai:=Zt (w0:=w0) C u1 x1
    have Y:=R.list (w0:=w0) (M:=M.growRow id (M.blk id) (M.cap id) (xs.length+ys.length) ((xs.length+ys.length)*sz)) (w:=w.setRow (M.blk id) cur') (b:=M.blk id) (off:=0) (cap:=M.cap id) (xs:=xs++ys.map AV.pub) (o := .row id) sz (Xg us ux xs.length) (by rw [D];exact hroom) f6
     (fun i g=>⟨(ai i g).1,fun j hj=>by
      rw [D] at g
      have q1:(i+1)*sz≤(xs.length+ys.length)*sz:=Nat.mul_le_mul_right _ g
      rw [Nat.succ_mul] at q1
      refine ⟨.inr ?_,?_⟩
      ·simp only [Mem.growRow,if_true]
       omega
      ·rw [Nat.zero_add,cell_of_row _ _ _ cur' te _ (setRow_heap w _ cur cur' te _ f8)]
       unfold Xg
       by_cases c:i<xs.length
       ·have q:(i+1)*sz≤xs.length*sz:=Nat.mul_le_mul_right _ c
        rw [Nat.succ_mul] at q
        have:=hcs' i c j hj
        rw [Nat.zero_add,cell_of_row _ _ _ cur te _ f8] at this
        rw [Ai c,ax _ (by omega),this]
       ·have q:(i-xs.length+1)*sz≤ys.length*sz:=Nat.mul_le_mul_right _ (by omega)
        rw [Nat.succ_mul] at q
        have e:i*sz=xs.length*sz+(i-xs.length)*sz:=by rw [←Nat.add_mul];congr 1;omega
        rw [Aj c,show i*sz+j=xs.length*sz+((i-xs.length)*sz+j) from by omega,bc _ (by omega)]
        exact Ih m _ (by omega) j hj⟩) (fun i g=>(ai i g).2)
     (by
      rw [D]
      refine ⟨U,by simp [Mem.growRow],fun _=>⟨by simp [Mem.growRow],rfl,by simp [Mem.growRow],?_⟩⟩
      simp [Mem.growRow,f2])
    rw [D] at Y
    exact .value ⟨_,_,_,hrun,C,aa,Y⟩
   ·-- a new row
    have hypos:0<ys.length:=by omega
    rcases x2 with ⟨_,q,_⟩ | ⟨bx,ox,cx',_,rfl,_,_,_,hcx⟩
    ·subst q;simp at hypos
    have J:=FI (w:=w) m K hcx
    have ap:=FI (w:=w) aj K hcs'
    have aw:(flat us xs.length).length=xs.length*f.size:=by rw [AU aj,r]
    have ak:(xs.length+ys.length)*f.bytes≤140737488355328:=by rw [a3];exact G
    have hrun:=run_append_grow (P:=P) w t ty el f v hu g hv ⟨M.blk id,0,none⟩ xs.length (M.cap id) (flat us xs.length) aw ap ⟨bx,ox,none⟩ ys.length cx' (flat ux ys.length) af J (by omega) (by omega) (growslice_fits (by omega) ak)
    have Q:xs.length+ys.length≤maxLen:=by simp [maxLen];omega
    have ae:=grownCap_ge w (xs.length+ys.length) (M.cap id) el
    have Z:=grownCap_le_maxLen w (xs.length+ys.length) (M.cap id) el Q
    generalize hcl:((flat us xs.length).toArray++(flat ux ys.length).toArray++Builtin.zeroCells v.cells (grownCap w (xs.length+ys.length) (M.cap id) el-(xs.length+ys.length)))=cells at hrun
    have V:cells.toList=flat us xs.length++flat ux ys.length++(Builtin.zeroCells v.cells (grownCap w (xs.length+ys.length) (M.cap id) el-(xs.length+ys.length))).toList:=by rw [←hcl];simp
    generalize grownCap w (xs.length+ys.length) (M.cap id) el=gc at *
    have F:cells.size=gc*sz:=by
     have:cells.size=cells.toList.length:=by simp
     rw [this,V]
     simp only [List.length_append,AU aj,AU m,Array.length_toList,size_zeroCells,ab,r]
     rw [←Nat.add_mul,←Nat.add_mul]
     congr 1
     omega
    obtain ⟨d1,d2⟩:=h.st.drew
    have C:Ext w0 M w.drew (M.growRow id w.drew.heap.size gc (xs.length+ys.length) ((xs.length+ys.length)*sz)) (w.drew.alloc (.cells cells el)):=by
     refine PP _ _ (.inl rfl) (fun _ _=>rfl) (Nat.le_refl _) (fun i g=>?_) (fun b hb=>?_)
     ·by_cases c:i=id
      ·subst c
       simp only [Mem.growRow,if_true,f1]
       exact ⟨by omega,fun q=>absurd q (by omega)⟩
      ·simp only [Mem.growRow,Aj c]
       exact ⟨Nat.le_refl _,fun _=>⟨trivial,trivial,trivial⟩⟩
     ·simp only [Mem.growRow]
      rw [Aa]
      exact Nat.le_refl _
    have aa:=d1.growRow am (w':=w.drew.alloc (.cells cells el)) (b:=w.drew.heap.size) (cap:=gc) (k:=xs.length+ys.length) h.st.base_le ((Below.refl _ w.drew).alloc h.st.base_le _) (by simp) (by simp) Z ae
     (fun l hl=>by have:=h.st.box_lt hl;exact ⟨fun q=>by simp at q;omega,Br _ _ this⟩) (fun i g a1=>by have:=h.st.row_lt g;exact ⟨fun q=>by simp at q;omega,Br _ _ this⟩) (heap_alloc_new w.drew _) F C (KeepsObj.alloc _ _)
    have ai:=Zt (w0:=w0) d2 u1 x1
    have Y:=R.row (w0:=w0) (M:=M) (w:=w.drew) (us:=Xg us ux xs.length) (xs:=xs++ys.map AV.pub) (cs:=cells) (ty:=el) (sz:=sz) (k:=(xs.length+ys.length)*sz) (cap:=gc) (o := .row id) ai
     (fun i g j hj=>by
      rw [D] at g
      rw [←Array.getElem?_toList,V]
      exact XI aj m _ i g j hj) (by rw [D];exact ae) Z (by rw [D];exact Nat.le_refl _) (M.growRow id w.drew.heap.size gc (xs.length+ys.length) ((xs.length+ys.length)*sz)) (by simp [Mem.growRow]) C
     (by
      refine ⟨U,by rw [D];simp [Mem.growRow],fun _=>⟨by simp [Mem.growRow],rfl,by simp [Mem.growRow],?_⟩⟩
      simp [Mem.growRow,f2])
    rw [D] at Y
    exact .value ⟨_,_,_,hrun,d2.trans C,aa,Y⟩
  | vec id ver o n' =>
   simp only at hob ⊢
   cases hvr:EJ st.rows id ver with
   | none=>simp [hvr] at hob
   | some q =>
   obtain ⟨sz',cs⟩:=q
   simp only [hvr] at hob ⊢
   obtain ⟨lx,⟨K,hz,G,az,cx⟩,rfl,rfl,bm⟩:=hob
   obtain ⟨ys,o',rfl⟩:=HG lx
   simp only [AP] at *
   obtain ⟨z,ar⟩:=Option.isSome_iff_exists.1 hz
   obtain ⟨i',v,hi',hv,hc,ab,rfl⟩:=E8 ar
   rw [g] at hi';cases hi'
   have am:=EM hvr
   have U:id<M.NR:=by rw [h.st.NR];exact (Ak.1 am).1
   obtain ⟨f1,f2,f3,f4,f5,f6,f7,cur,te,f8,f9,bp,bg,bh⟩:=h.st.row id _ am
   cases hRs with
   | @vec _ _ _ _ p cap hid' hver hh =>
   obtain ⟨rfl,hcap,bo⟩:=hh f1.symm
   simp only [Nat.add_zero,Nat.zero_mul] at hcap ⊢
   subst hcap
   obtain ⟨ux,x1,x2⟩:=hRx.list_open (fun y hy=>(cx y hy).1)
   have m:∀ i,i<ys.length→(ux i).cells.size=sz':=fun i g=>(x1 i g).1
   have ba:(Builtin.lenOf vx).run P w = .ok ys.length w:=by
    rcases x2 with ⟨rfl | ⟨_,rfl⟩,q,_⟩ | ⟨bx,ox,cx',_,rfl,_⟩
    ·subst q;rfl
    ·subst q;rfl
    ·rfl
   have af:(flat ux ys.length).length=ys.length*f.size:=by rw [AU m,r]
   have au:(Builtin.firstCells sz' ys.length vx).run P w = .ok (flat ux ys.length).toArray w:=by
    rcases x2 with ⟨rfl | ⟨_,rfl⟩,q,_⟩ | ⟨bx,ox,cx',_,rfl,_,_,_,hcx⟩
    ·subst q;rfl
    ·subst q;simp [Builtin.firstCells,loadCells,loadCellsFrom,flat]
    ·exact run_firstCells_some w sz' ys.length ⟨bx,ox,none⟩ ys.length cx' (flat ux ys.length) (AU m) (FI (w:=w) m K hcx)
   have a4:=Og (fun y hy=>(cx y hy).1)
   have a9:=Z1 (fun i g=>(x1 i g).2) (fun y hy=>(cx y hy).2)
   have hcl:(cs.take (n'*sz')++ys.flatMap fun y=>y.pub.cells).length=(n'+ys.length)*sz':=by
    rw [List.length_append,a4,List.length_take,Nat.add_mul];omega
   have a5:∀ x∈cs.take (n'*sz')++ys.flatMap (fun y=>y.pub.cells),x.one=true:=by
    intro x hx
    rcases List.mem_append.1 hx with hx | hx
    ·exact bg x (List.mem_of_mem_take hx)
    ·exact a9 x hx
   -- what the new cells stand for,in whatever block they lie
   have E:∀ (cells:Array Value) (zs:List Value),cells.toList=cur.toList.take (n'*sz')++flat ux ys.length++zs→∀ (i:Nat) (v:Value) (x:AV),cells[i]? = some v→(cs.take (n'*sz')++ys.flatMap fun y=>y.pub.cells)[i]? = some x→R w0 M w v x:=by
    intro cells zs hcl' i v x aq ao
    have bd:i<(n'+ys.length)*sz':=by rw [←hcl];exact (Ak.1 ao).1
    rw [Nat.add_mul] at bd
    have bk:(cur.toList.take (n'*sz')).length=n'*sz':=by simp;omega
    rw [←Array.getElem?_toList,hcl',List.append_assoc] at aq
    by_cases q:i<n'*sz'
    ·rw [List.getElem?_append_left (by omega),List.getElem?_take,Ai q,Array.getElem?_toList] at aq
     rw [List.getElem?_append_left (by simp;omega),List.getElem?_take,Ai q] at ao
     obtain ⟨q1,rfl⟩:=Array.getElem?_eq_some_iff.1 aq
     obtain ⟨q2,rfl⟩:=Ak.1 ao
     exact bh i q1 q2
    ·rw [List.getElem?_append_right (by omega),bk,List.getElem?_append_left (by rw [AU m];omega)] at aq
     rw [List.getElem?_append_right (by simp;omega)] at ao
     have e:(cs.take (n'*sz')).length=n'*sz':=by simp;omega
     rw [e] at ao
     exact ZhF K x1 (fun y hy=>(cx y hy).1) aq ao
   by_cases hroom:n'+ys.length≤M.cap id
   ·-- there is room
    have a2:n'*sz'+(flat ux ys.length).length≤cur.size:=by rw [AU m,f9,←Nat.add_mul];exact Nat.mul_le_mul_right _ hroom
    have hrun:=X7 (P:=P) (w:=w) t ty el hu a8 (M.blk id) n' (M.cap id) cur te f8 ba (flat ux ys.length) au (Y3 x1 (fun y hy=>(cx y hy).2)) hroom a2
    generalize hc':(cur.toList.take (n'*sz')++flat ux ys.length++cur.toList.drop (n'*sz'+(flat ux ys.length).length)).toArray=cur' at hrun
    have av:cur'.size=cur.size:=by rw [←hc'];simp;omega
    have C:Ext w0 M w (M.growRow id (M.blk id) (M.cap id) (ver+1) 0) (w.setRow (M.blk id) cur'):=by
     refine MS (M:=M) (M.growRow id (M.blk id) (M.cap id) (ver+1) 0) rfl (fun _ _=>rfl) rfl (fun i g=>?_) (fun b=>?_) f8 f3 (fun j hj=>by rw [f4] at hj;omega)
     ·by_cases c:i=id
      ·subst c
       simp only [Mem.growRow,if_true,f1]
       exact ⟨by omega,fun q=>absurd q (by omega)⟩
      ·simp only [Mem.growRow,Aj c]
       exact ⟨Nat.le_refl _,fun _=>⟨trivial,trivial,trivial⟩⟩
     ·simp only [Mem.growRow]
      split
      ·rename_i c
       rw [c,f4]
       exact Nat.le_refl _
      ·exact Nat.le_refl _
    have ay:=h.st.row_lt U
    have q:(M.growRow id (M.blk id) (M.cap id) (ver+1) 0).fr id=ver+1∧(M.growRow id (M.blk id) (M.cap id) (ver+1) 0).blk id=M.blk id∧(M.growRow id (M.blk id) (M.cap id) (ver+1) 0).cap id=M.cap id∧(M.growRow id (M.blk id) (M.cap id) (ver+1) 0).rsz id=M.rsz id∧(M.growRow id (M.blk id) (M.cap id) (ver+1) 0).top (M.blk id)=0:=by simp [Mem.growRow]
    obtain ⟨q1,q2,q3,q4,q5⟩:=q
    have aa:=h.st.growRow' am (x := .vec (ver+1) sz' (cs.take (n'*sz')++ys.flatMap fun y=>y.pub.cells)) (w':=w.setRow (M.blk id) cur') (b:=M.blk id) (cap:=M.cap id) (k:=ver+1) (tp:=0) (Below.setRow (Below.refl _ _) f3 _) (by simp) (by simpa using ay)
     (fun l hl=>⟨f5 l hl,setRow_other w _ _ _ (f5 l hl)⟩) (fun i g a1=>by
      have:M.blk i≠M.blk id:=fun q=>a1 (h.st.rowinj i id g U q)
      exact ⟨this,setRow_other w _ _ _ this⟩) (by
      simp only [RowOk,q1,q2,q3,q4,q5]
      exact ⟨trivial,f2,f3,trivial,f5,f6,K,cur',te,setRow_heap w _ cur cur' te _ f8,av.trans f9,by rw [hcl,av,f9];exact Nat.mul_le_mul_right _ hroom,a5,
       fun i a b=>(E cur' _ (by rw [←hc']) i _ _ (Array.getElem?_eq_getElem a) (List.getElem?_eq_getElem b)).mono C⟩) C (KeepsObj.setRow f8 _)
    exact .value ⟨_,_,_,hrun,C,aa,.vec U (by rw [q1];exact Nat.le_refl _) fun _=>⟨by rw [q2];simp,by rw [q3];rfl,hroom⟩⟩
   ·-- a new block
    have hypos:0<ys.length:=by omega
    rcases x2 with ⟨_,q,_⟩ | ⟨bx,ox,cx',_,rfl,_,_,_,hcx⟩
    ·subst q;simp at hypos
    have J:=FI (w:=w) m K hcx
    have ak:(n'+ys.length)*f.bytes≤140737488355328:=by rw [a3];exact G
    have ap:∀ (j:Nat) (u:Value),(cur.toList.take (n'*sz'))[j]? = some u→w.cell? ((⟨M.blk id,0,none⟩:Addr).add j)=some u:=by
     intro j u hj
     rw [List.getElem?_take] at hj
     split at hj
     ·rw [Eh,Nat.zero_add,cell_of_row w _ j cur te _ f8,←Array.getElem?_toList];exact hj
     ·cases hj
    have aw:(cur.toList.take (n'*sz')).length=n'*f.size:=by simp;rw [r];omega
    have hrun:=run_append_grow (P:=P) w t ty el f v hu g hv ⟨M.blk id,0,none⟩ n' (M.cap id) (cur.toList.take (n'*sz')) aw ap ⟨bx,ox,none⟩ ys.length cx' (flat ux ys.length) af J (by omega) (by omega) (growslice_fits (by omega) ak)
    have Q:n'+ys.length≤maxLen:=by simp [maxLen];omega
    have ae:=grownCap_ge w (n'+ys.length) (M.cap id) el
    have Z:=grownCap_le_maxLen w (n'+ys.length) (M.cap id) el Q
    generalize hcl':((cur.toList.take (n'*sz')).toArray++(flat ux ys.length).toArray++Builtin.zeroCells v.cells (grownCap w (n'+ys.length) (M.cap id) el-(n'+ys.length)))=cells at hrun
    have V:cells.toList=cur.toList.take (n'*sz')++flat ux ys.length++(Builtin.zeroCells v.cells (grownCap w (n'+ys.length) (M.cap id) el-(n'+ys.length))).toList:=by rw [←hcl'];simp
    generalize grownCap w (n'+ys.length) (M.cap id) el=gc at *
    have F:cells.size=gc*sz':=by
     have:cells.size=cells.toList.length:=by simp
     rw [this,V]
     simp only [List.length_append,aw,AU m,Array.length_toList,size_zeroCells,ab,r]
     rw [←Nat.add_mul,←Nat.add_mul]
     congr 1
     omega
    obtain ⟨d1,d2⟩:=h.st.drew
    have C:Ext w0 M w.drew (M.growRow id w.drew.heap.size gc (ver+1) 0) (w.drew.alloc (.cells cells el)):=by
     refine PP _ _ (.inl rfl) (fun _ _=>rfl) (Nat.le_refl _) (fun i g=>?_) (fun b hb=>?_)
     ·by_cases c:i=id
      ·subst c
       simp only [Mem.growRow,if_true,f1]
       exact ⟨by omega,fun q=>absurd q (by omega)⟩
      ·simp only [Mem.growRow,Aj c]
       exact ⟨Nat.le_refl _,fun _=>⟨trivial,trivial,trivial⟩⟩
     ·simp only [Mem.growRow]
      rw [Aa]
      exact Nat.le_refl _
    have q:(M.growRow id w.drew.heap.size gc (ver+1) 0).fr id=ver+1∧(M.growRow id w.drew.heap.size gc (ver+1) 0).blk id=w.drew.heap.size∧(M.growRow id w.drew.heap.size gc (ver+1) 0).cap id=gc∧(M.growRow id w.drew.heap.size gc (ver+1) 0).rsz id=M.rsz id∧(M.growRow id w.drew.heap.size gc (ver+1) 0).top w.drew.heap.size=0:=by simp [Mem.growRow]
    obtain ⟨q1,q2,q3,q4,q5⟩:=q
    have a6:∀ l,l<M.N→M.bx l≠w.drew.heap.size:=fun l hl=>by have:=h.st.box_lt hl;intro q;simp at q;omega
    have aa:=d1.growRow' am (x := .vec (ver+1) sz' (cs.take (n'*sz')++ys.flatMap fun y=>y.pub.cells)) (w':=w.drew.alloc (.cells cells el)) (b:=w.drew.heap.size) (cap:=gc) (k:=ver+1) (tp:=0) ((Below.refl _ w.drew).alloc h.st.base_le _) (by simp) (by simp)
     (fun l hl=>by have:=h.st.box_lt hl;exact ⟨a6 l hl,Br _ _ this⟩) (fun i g a1=>by have:=h.st.row_lt g;exact ⟨fun q=>by simp at q;omega,Br _ _ this⟩) (by
      simp only [RowOk,q1,q2,q3,q4,q5]
      exact ⟨trivial,f2,h.st.base_le,trivial,a6,Z,K,cells,el,heap_alloc_new w.drew _,F,by rw [hcl,F];exact Nat.mul_le_mul_right _ ae,a5,
       fun i a b=>((E cells _ V i _ _ (Array.getElem?_eq_getElem a) (List.getElem?_eq_getElem b)).mono d2).mono C⟩) C (KeepsObj.alloc _ _)
    exact .value ⟨_,_,_,hrun,d2.trans C,aa,.vec U (by rw [q1];exact Nat.le_refl _) fun _=>⟨by rw [q2];simp,by rw [q3];rfl,ae⟩⟩
  | _=>exact hob.elim
theorem Yields'.congr {s s':Sem Next} {st':St} {r:AV} (h:Yields' P w0 M st' r w s) (e:s'.run P w=s.run P w):Yields' P w0 M st' r w s':=by
 obtain ⟨v,a,M',c,b⟩:=h
 exact ⟨v,a,M',by rw [e];exact c,b⟩
theorem Ld (b:Builtin) (args:Array Operand) (ts:Array TypeId) (dst:Option Tmp) (type:TypeId) (pos:String) (after:Array Edge) (guard:Option (Nat × Bool)) (s:Sem Value)
  (hb:∀ cs,builtin b ts type cs (args.map a.eval)=(do pure (.value (← s)):Sem Next)) :
  (execOp a.eval ⟨dst,.call ⟨.builtin b,args,ts⟩,type,pos,after,guard⟩).run P w=((do pure (.value (← s)):Sem Next)).run P w:=by
 simp only [execOp,resolve,invoke,Sem.run_bind,Sem.run_pure,Result.andThen_ok]
 rw [hb]
 simp
theorem Rf {t:TypeId} (h:JO P t=true):∃ el,P.underlying t=some (.slice el)∧P.underlying el=some (.int .u8)∧G8 P el=some (1,false):=by
 unfold JO at h
 split at h
 ·rename_i el h1
  simp only [Bool.and_eq_true] at h
  obtain ⟨h2,h3⟩:=h
  refine ⟨el,h1,?_,?_⟩
  ·split at h2
   ·assumption
   ·cases h2
  ·split at h3
   ·assumption
   ·cases h3
 ·cases h
theorem Yy (r:Int):(Utf8.encode r).size≤4:=by
 unfold Utf8.encode
 dsimp only
 (repeat' split)<;>simp [ByteArray.size]
theorem Zm (h:Rel w0 n M e st a w) (s d:TypeId) (x:Operand) (hob:(A0 P e true st (.convert s d x)).1) :
  Yields' P w0 M (A0 P e true st (.convert s d x)).2.2 (A0 P e true st (.convert s d x)).2.1 w (do pure (.value (← convert s d (a.eval x)))):=by
 unfold A0 at hob ⊢
 cases hs:Nq P s with
 | some k1 =>
  cases hd:Nq P d with
  | some k =>
   simp only [hs,hd] at hob ⊢
   obtain ⟨r,hi,hk⟩:=hob
   obtain ⟨Y,_⟩:=(A2 h r).int hi
   rw [Y]
   refine .here h.st (v := .int k (AL (Az e x))) ?_ (.flat rfl)
   simp [convert,run_underlying (QX hs),run_underlying (QX hd),Conv.intToInt,LU hk]
  | none =>
   simp only [hs,hd] at hob ⊢
   obtain ⟨r,hi,N⟩:=hob
   obtain ⟨Y,_⟩:=(A2 h r).int hi
   rw [Y]
   exact .here h.st (run_convert_int_string w s d _ _ (by rw [QX hs];rfl) (EN N)) (.flat (Ah (Nat.le_trans (Yy _) (by decide))))
 | none =>
  simp only [hs] at hob ⊢
  by_cases z:(EE P s&&EE P d)=true
  ·simp only [z,if_true] at hob ⊢
   simp only [Bool.and_eq_true] at z
   obtain ⟨r,hi⟩:=hob
   have hR:=A2 h r
   refine .here h.st (v:=a.eval x) ?_ hR
   obtain ⟨q,hq⟩:∃ q,Az e x = .val (.string q):=by
    cases hv:Az e x<;>rw [hv] at hi<;>try cases hi
    rename_i v
    cases v<;>first | exact ⟨_,rfl⟩ | cases hi
   rw [hq] at hR
   obtain ⟨ev,_⟩:=hR.val_inv
   rw [ev]
   simp [convert,run_underlying (EN z.1),run_underlying (EN z.2)]
  ·simp only [z,if_false,Bool.false_eq_true] at hob ⊢
   by_cases hc2:(JO P s&&EE P d)=true
   ·simp only [hc2,if_true] at hob ⊢
    simp only [Bool.and_eq_true] at hc2
    obtain ⟨m,G,H,V⟩:=Rf hc2.1
    split at hob
    ·rename_i id ver o n' hx0
     cases hvr:EJ st.rows id ver with
     | none=>simp [hvr] at hob
     | some q =>
     obtain ⟨Z,cs⟩:=q
     simp only [hvr] at hob ⊢
     obtain ⟨r,rfl,ai,c,g⟩:=hob
     have hR:=A2 h r
     rw [hx0] at hR
     obtain ⟨f1,f2,f3,f4,f5,f6,f7,O,te,f8,f9,aj,ah,af⟩:=h.st.row id _ (EM hvr)
     obtain ⟨v,hev⟩:∃ v,a.eval x=v:=⟨_,rfl⟩
     rw [hev] at hR ⊢
     cases hR with
     | @vec _ _ _ _ p cap hid hver hh =>
     obtain ⟨rfl,C,ag⟩:=hh f1.symm
     have hl:((cs.drop o).take n').length=n':=by simp;omega
     have f:(Gm ((cs.drop o).take n')).size=n':=by simp [Gm,ByteArray.size];omega
     have t:F2 (.string (Gm ((cs.drop o).take n')))=true:=by simp [F2,maxLen,f];exact c
     have:=run_convert_bytes_back (P:=P) w s d m ⟨M.blk id,o*M.rsz id,none⟩ cap (((cs.drop o).take n').map fun x=>UInt8.ofNat (AL x).toNat) G H (EN hc2.2) (fun j F=>by
      have D:j<n':=by rw [List.length_map,hl] at F;exact F
      have Q:((cs.drop o).take n')[j]'(by omega)=cs[o+j]'(by omega):=by simp
      have hq:=g _ (List.getElem_mem (l:=(cs.drop o).take n') (n:=j) (by omega))
      rw [Q] at hq
      have hr:=af (o+j) (by omega) (by omega)
      rw [Eh,f2,Nat.mul_one,cell_of_row w _ (o+j) O te _ f8,Array.getElem?_eq_getElem (show o+j<O.size by omega)]
      simp only [List.getElem_map,Q]
      generalize cs[o+j]'(by omega)=y at hq hr
      cases y with
      | val u =>
       cases u<;>try exact hq.elim
       rename_i k n
       cases k<;>try exact hq.elim
       obtain ⟨n0,n1⟩:0≤n∧n≤255:=hq
       rw [hr.val_inv.1]
       simp only [AL]
       have:(UInt8.ofNat n.toNat).toNat=n.toNat:=by simp;omega
       rw [this]
       simp
       omega
      | _=>exact hq.elim)
     rw [List.length_map,hl] at this
     exact .here h.st (v := .string (Gm ((cs.drop o).take n'))) this (.flat t)
    rename_i hx0
    obtain ⟨r,hi,c,g⟩:=hob
    have hR:=A2 h r
    obtain ⟨xs,o,U⟩:=HG hi
    rw [U] at hR c g ⊢
    simp only [AP] at c g ⊢
    have ae:∀ y∈xs,y.cells.length=1:=fun y hy=>by
     have:=g y hy
     cases y<;>first | rfl | exact this.elim
    obtain ⟨us,h1,h2⟩:=hR.list_open ae
    have f:(Gm xs).size=xs.length:=by simp [Gm,ByteArray.size]
    have t:F2 (.string (Gm xs))=true:=by simp [F2,maxLen,f];exact c
    rcases h2 with ⟨ev | ⟨ad,ev⟩,rfl,_⟩ | ⟨b,off,cap,Z,ev,_,_,_,hcell⟩
    ·rw [ev]
     have:=run_convert_bytes_nil (P:=P) w s m G H 0 0 d (EN hc2.2)
     exact .here h.st (v := .string ByteArray.empty) this (.flat rfl)
    ·rw [ev]
     have:=run_convert_bytes_back (P:=P) w s d m ad 0 [] G H (EN hc2.2) (fun j F=>absurd F (by simp))
     exact .here h.st (v := .string ByteArray.empty) this (.flat rfl)
    ·rw [ev]
     have hb:∀ i (hi:i<xs.length),∃ n:Int,0≤n∧n≤255∧xs[i] = .val (.int .u8 n)∧us i = .int .u8 n:=fun i hi=>by
      have hq:=g _ (List.getElem_mem hi)
      have hr:=(h1 i hi).2
      cases hv:xs[i] with
      | val u =>
       rw [hv] at hq hr
       cases u<;>try exact hq.elim
       rename_i k n
       cases k<;>try exact hq.elim
       exact ⟨n,hq.1,hq.2,rfl,hr.val_inv.1⟩
      | _=>rw [hv] at hq;exact hq.elim
     have:=run_convert_bytes_back (P:=P) w s d m ⟨b,off,none⟩ cap (xs.map fun x=>UInt8.ofNat (AL x).toNat) G H (EN hc2.2) (fun j F=>by
      have D:j<xs.length:=by simpa using F
      obtain ⟨n,n0,n1,Q,e2⟩:=hb j D
      have z:=hcell j D 0 (by omega)
      rw [e2] at z
      simp only [Nat.mul_one,Nat.add_zero] at z
      rw [Eh,z]
      simp only [List.getElem_map,Q,AL,Value.cells]
      have:(UInt8.ofNat n.toNat).toNat=n.toNat:=by simp;omega
      rw [this]
      simp
      omega)
     simp only [List.length_map] at this
     exact .here h.st (v := .string (Gm xs)) this (.flat t)
   ·simp only [hc2,if_false,Bool.false_eq_true] at hob ⊢
    by_cases hc3:(EE P s&&JO P d)=true
    ·simp only [hc3,if_true] at hob ⊢
     simp only [Bool.and_eq_true] at hc3
     obtain ⟨m,G,H,V⟩:=Rf hc3.2
     obtain ⟨_,r,hi⟩:=hob
     have hR:=A2 h r
     obtain ⟨q,hq⟩:∃ q,Az e x = .val (.string q):=by
      cases hv:Az e x<;>rw [hv] at hi<;>try cases hi
      rename_i v
      cases v<;>first | exact ⟨_,rfl⟩ | cases hi
     rw [hq] at hR ⊢
     obtain ⟨ev,t⟩:=hR.val_inv
     rw [ev]
     simp only [Zc8]
     have aa:q.size≤maxLen:=by simpa [F2] using t
     have K:=Lib.run_convert_string_bytes (P:=P) w s d m q (EN hc3.1) G H
     have J:Below w.heap.size w (Lib.bytesWorld w m q):=⟨rfl,rfl,rfl,by rw [Lib.bytesWorld_size];omega,fun k hk=>Lib.bytesWorld_at_old w m q k hk⟩
     obtain ⟨r1,r2⟩:=h.st.later J w.heap.size q.size (Nat.le_refl _) (.inl (by rw [Lib.bytesWorld_size];omega))
     have C:=grownCap_ge w q.size 0 m
     have E:=grownCap_le_maxLen w q.size 0 m aa
     have c:(Gk q.data.toList).length=q.size:=by simp [Gk]
     refine .value ⟨_,_,_,K,r2,r1,?_⟩
     have:=R.list (w0:=w0) (M:=M.newTop w.heap.size q.size) (w:=Lib.bytesWorld w m q) (b:=w.heap.size) (off:=0) (cap:=grownCap w q.size 0 m) (xs:=Gk q.data.toList) (o := .none) 1 (fun i => .int .u8 (q.data.toList.getD i 0).toNat)
      (by rw [c];exact C) E (fun i hi=>⟨rfl,fun j F=>⟨.inr (by rw [c] at hi;simp [Mem.newTop];omega),by
       rw [c] at hi
       have hj0:j=0:=by omega
       subst hj0
       simp only [Nat.mul_one,Nat.zero_add,Nat.add_zero]
       rw [Lib.bytesWorld_cell w m q i hi]
       rfl⟩⟩) (fun i hi=>by
       have ab:i<q.data.toList.length:=by rw [c] at hi;exact hi
       simp only [Gk,List.getElem_map]
       rw [show q.data.toList.getD i 0=q.data.toList[i] from by simp [List.getD,List.getElem?_eq_getElem ab]]
       exact .flat rfl) trivial
     rw [c] at this
     exact this
    ·simp only [hc3] at hob
     exact hob.elim
theorem Iu {z:List AV} {sz:Nat} (hz:z.length=sz):∀ (m j:Nat) (x:AV),((List.replicate m z).flatten)[j]? = some x→0<sz∧z[j % sz]? = some x
 | 0,j,x,h=>by simp at h
 | m+1,j,x,h=>by
  rw [List.replicate_succ,List.flatten_cons] at h
  by_cases c:j<z.length
  ·rw [List.getElem?_append_left c] at h
   exact ⟨by omega,by rw [Nat.mod_eq_of_lt (by omega)];exact h⟩
  ·rw [List.getElem?_append_right (by omega)] at h
   obtain ⟨b,a⟩:=Iu hz m _ x h
   refine ⟨b,?_⟩
   rw [hz] at a
   rw [←a]
   congr 1
   rw [←Nat.mod_eq_sub_mod (by omega)]
theorem Wy (h:Rel w0 n M e st a w) (t:TypeId) (len cap:Operand) (hob:(A0 P e true st (.makeSlice t len cap)).1) :
  Yields' P w0 M (A0 P e true st (.makeSlice t len cap)).2.2 (A0 P e true st (.makeSlice t len cap)).2.1 w (do pure (.value (← Instr.makeSlice t (a.eval len) (a.eval cap)))):=by
 unfold A0 at hob ⊢
 cases he:Lr P t with
 | none=>simp [he] at hob
 | some p =>
 obtain ⟨el,sz,ag,ao⟩:=p
 cases hz:BB P el with
 | none=>simp [he,hz] at hob
 | some z =>
 simp only [he,hz] at hob ⊢
 obtain ⟨_,hl,hc,il,ic,h0,h1,ab,ak,Z,C,ai⟩:=hob
 obtain ⟨J,hu,r,ah,ad⟩:=Gt he
 have aa:J.size=sz:=by
  obtain ⟨i',d,h1,h2,_⟩:=L6 ad
  rw [r] at h1;cases h1;exact h2
 obtain ⟨i',v,hi',hv,s,am,rfl⟩:=E8 hz
 rw [r] at hi';cases hi'
 obtain ⟨ae,_⟩:=(A2 h hl).int il
 obtain ⟨aj,_⟩:=(A2 h hc).int ic
 generalize AL (Az e len)=l at *
 generalize AL (Az e cap)=c at *
 obtain ⟨F,rfl⟩:=Int.eq_ofNat_of_zero_le h0
 obtain ⟨f,rfl⟩:=Int.eq_ofNat_of_zero_le (Int.le_trans h0 h1)
 have b:=run_make (P:=P) w t el J v hu r hv (J8 (Az e len)) (J8 (Az e cap)) F f h0 h1 (by rw [ah,Int.mul_comm];omega) (by omega)
 rw [←ae,←aj] at b
 simp only [Int.toNat_natCast,aa] at b
 have D:f≤maxLen:=by unfold maxLen;omega
 have O:=size_madeCells v.cells (f*sz)
 have g:RowR w0 M w v.cells (Iy v).cells:=(Ql s).cells
 have H:=(Ql (w0:=w0) (M:=M) (w:=w) s).cellsOne (fun vs e=>by have:=MX s;rw [e] at this;cases this)
 by_cases hl0:(F:Int)=0
 ·rw [Ai hl0,Ai hl0]
  have:F=0:=by omega
  subst this
  obtain ⟨r1,r2⟩:=h.st.addRow (cs:=madeCells v.cells (f*sz)) (ty:=el) (k:=0) (sz:=sz) D (Nat.zero_le _) O
  refine .value ⟨_,_,_,b,r2,r1,?_⟩
  have N:=h.st.NR
  exact R.list (xs:=[]) sz (fun _=>undef) (Nat.zero_le _) D (fun i r=>absurd r (by simp)) (fun i r=>absurd r (by simp)) ⟨by simp [Mem.addRow,N],by simp [Mem.addRow,N],fun _=>by simp [Mem.addRow,N]⟩
 ·rw [Aj hl0,Aj hl0]
  by_cases hmk0:I3 e t=true
  case neg =>
   rw [Aj hmk0,Aj hmk0]
   obtain rfl:sz=1:=by
    rcases ai with q | q | q
    ·exact absurd q hl0
    ·exact absurd q hmk0
    ·exact q
   have y:v.cells.size=1:=by rw [g.1,C]
   obtain ⟨u,hu0⟩:∃ u,v.cells[0]? = some u:=⟨_,Array.getElem?_eq_getElem (by omega)⟩
   have Q:(Iy v).cells[0]? = some (Y5 (Iy v).cells 0):=by
    rw [List.getElem?_eq_getElem (by omega)]
    simp [Y5,List.getD,List.getElem?_eq_getElem (show 0<(Iy v).cells.length by omega)]
   have V:R w0 M w u (Y5 (Iy v).cells 0):=g.get hu0 Q
   have K:(Y5 (Iy v).cells 0).one=true:=H _ (List.mem_of_getElem? Q)
   have G:u.cells = #[u]:=(V.cells_one K).1
   obtain ⟨U,E⟩:=h.st.newTop (madeCells v.cells (f*1)) el (f*1)
   have m:(List.replicate F (Y5 (Iy v).cells 0)).length=F:=List.length_replicate
   have hR:=R.row (us:=fun _=>u) (xs:=List.replicate F (Y5 (Iy v).cells 0)) (cs:=madeCells v.cells (f*1)) (ty:=el) (sz:=1) (k:=f*1) (cap:=f) (o := .none)
    (fun i r=>⟨by rw [G];rfl,by rw [List.getElem_replicate];exact V⟩)
    (fun i r j hj=>by
     have hi':i<F:=by rw [m] at r;exact r
     have:i*1+j<f*1:=by omega
     have h3:(madeCells v.cells (f*1))[i*1+j]? = some v.cells[(i*1+j) % v.cells.size]! := by
      simp only [madeCells,Array.getElem?_map,Array.getElem?_range,Ai this,Option.map_some]
     obtain rfl:j=0:=by omega
     rw [h3,y,Nat.mod_one,G,getElem!_pos v.cells 0 (by omega)]
     rw [Array.getElem?_eq_getElem (by omega)] at hu0
     simpa using hu0)
    (by rw [m];omega) D (by rw [m];omega) (M.newTop w.heap.size (f*1)) (by simp [Mem.newTop]) E trivial
   rw [m] at hR
   exact .value ⟨_,_,_,b,E,U,hR⟩
  rw [Ai hmk0,Ai hmk0]
  obtain ⟨r1,r2⟩:=h.st.addVec (cs:=madeCells v.cells (f*sz)) (ty:=el) (cap:=f) (sz:=sz) (xs:=(List.replicate F (Iy v).cells).flatten) D Z O
   (by rw [O];simp only [List.length_flatten,List.map_replicate,List.sum_replicate_nat,C];exact Nat.mul_le_mul_right _ (by omega))
   (fun x E=>by
    obtain ⟨q,hq,E⟩:=List.mem_flatten.1 E
    rw [List.eq_of_mem_replicate hq] at E
    exact H x E)
   (fun i u x af E=>by
    obtain ⟨_,h2⟩:=Iu C F i x E
    have h3:u=v.cells[i % v.cells.size]! := by
     obtain ⟨q1,q2⟩:=Array.getElem?_eq_some_iff.1 af
     rw [←q2];simp [madeCells]
    have y:v.cells.size=sz:=by rw [g.1,C]
    have h4:v.cells[i % sz]? = some u:=by
     have Y:i % sz<v.cells.size:=by rw [y];exact Nat.mod_lt _ Z
     rw [h3,y,getElem!_pos v.cells (i % sz) Y,Array.getElem?_eq_getElem Y]
    exact g.get h4 h2)
  refine .value ⟨_,_,_,b,r2,r1,?_⟩
  have N:=h.st.NR
  exact .vec (by simp [Mem.addRow,N]) (Nat.zero_le _) fun _=>⟨by simp [Mem.addRow,N],by simp [Mem.addRow,N],by omega⟩
theorem YX (h:Rel w0 n M e st a w) (t:TypeId) (m:Nat) (ps:Array (Nat × Operand)) (hmk:I3 e t=true) (hob:(A0 P e true st (.buildSlice t m ps)).1) :
  Yields' P w0 M (A0 P e true st (.buildSlice t m ps)).2.2 (A0 P e true st (.buildSlice t m ps)).2.1 w (do pure (.value (← Instr.buildSlice t m (ps.map fun (i,x)=>(i,a.eval x))))):=by
 unfold A0 at hob ⊢
 cases he:Lr P t with
 | none=>simp [he] at hob
 | some p =>
  obtain ⟨el,sz,ag,ab⟩:=p
  simp only [he,hmk] at hob ⊢
  obtain ⟨_,F,hr,aa,b,hz,q,V⟩:=hob
  obtain ⟨i,K,g,_,C⟩:=Gt he
  obtain ⟨z,N⟩:=Option.isSome_iff_exists.1 hz
  obtain ⟨i',v,o,hv,hc,hs,rfl⟩:=E8 N
  have hl:ps.toList.length=m:=by simpa using congrArg List.length hr
  have d:∀ p∈ps.toList,(a.eval p.2).cells.size=sz:=fun p J=>by
   rw [(A2 h (F p J)).cells.1]
   exact q _ (List.mem_map.2 ⟨p,J,rfl⟩)
  obtain ⟨zc,hzc⟩:∃ zc:Array Value,if m*sz=0 then zc = #[] else zc=v.cells:=by
   by_cases h0:m*sz=0
   ·exact ⟨#[],by rw [Ai h0]⟩
   ·exact ⟨v.cells,by rw [Aj h0]⟩
  obtain ⟨cs',a1,a2,a3,a4⟩:=Up sz (ps.toList.map fun p=>a.eval p.2) 0 ((Array.range (m*sz)).map (zc[· % zc.size]!)) (fun u K=>by obtain ⟨p,J,rfl⟩:=List.mem_map.1 K;exact d p J) (by simp [hl])
  have hm:m≤maxLen:=by
   have:m*1≤m*sz:=Nat.mul_le_mul_left _ b
   simp [maxLen];omega
  let us:Nat→Value:=fun i=>(ps.toList.map fun p=>a.eval p.2).getD i undef
  have s:∀ i (g:i<(ps.toList.map fun p=>Az e p.2).length),(us i).cells.size=sz∧R w0 M w (us i) (ps.toList.map fun p=>Az e p.2)[i]:=fun i g=>by
   have o:i<ps.toList.length:=by simpa using g
   have U:i<ps.size:=by simpa using o
   have e1:us i=a.eval (ps.toList[i]).2:=by simp [us,List.getD,Array.getElem?_eq_getElem U]
   rw [e1]
   refine ⟨d _ (List.getElem_mem _),?_⟩
   simp only [List.getElem_map]
   exact A2 h (F _ (List.getElem_mem _))
  have r:(ps.toList.map fun p=>Az e p.2).length=m:=by simp [←hl]
  have G:=Og (ys:=ps.toList.map fun p=>Az e p.2) (sz:=sz) q
  rw [r] at G
  have c:cs'.size=m*sz:=by rw [a2];simp
  have l:∀ j,j<m*sz→(flat us m)[j]? = cs'[j]? := fun j hj=>by
   have hk:j / sz<m:=(Nat.div_lt_iff_lt_mul b).2 hj
   have H:=Nat.mod_lt j b
   have ej:j / sz*sz+j % sz=j:=by rw [Nat.mul_comm];exact Nat.div_add_mod j sz
   have f:=Ih (us:=us) (m:=m) (sz:=sz) (fun i g=>(s i (by rw [r];exact g)).1) (j / sz) hk (j % sz) H
   rw [ej] at f
   have O:j / sz<ps.toList.length:=by omega
   have Z:j / sz<ps.size:=by simpa using O
   have f2:=a4 (j / sz) (us (j / sz)) (by simp [us,List.getD,Array.getElem?_eq_getElem Z]) (j % sz) H
   rw [Nat.zero_add,ej] at f2
   rw [f,f2]
  obtain ⟨D,hx⟩:=h.st.addVec (cs:=cs') (ty:=el) (cap:=m) (sz:=sz) (xs:=(ps.toList.map fun p=>Az e p.2).flatMap fun y=>y.pub.cells) hm b c (by rw [G,c];exact Nat.le_refl _) (Z1 (fun i g=>(s i g).2) V)
   (fun i v x k Y=>by
    have g:i<m*sz:=by rw [←c];exact (Array.getElem?_eq_some_iff.1 k).1
    rw [←l i g] at k
    rw [←r] at k
    exact ZhF b s q k Y)
  have Q:=h.st.NR
  refine .value ⟨.slice (some ⟨w.heap.size,0,none⟩) m m,_,_,?_,hx,D,.vec (by simp [Mem.addRow,Q]) (Nat.zero_le _) fun _=>⟨by simp [Mem.addRow,Q],by simp [Mem.addRow,Q],Nat.le_refl _⟩⟩
  have e0:¬ (m*sz > 2 ^ 24):=by omega
  have E:(ps.map fun (i,x)=>(i,a.eval x)).toList=((ps.toList.map fun p=>a.eval p.2).zipIdx 0).map fun x=>(x.2,x.1):=by
   rw [Array.toList_map]
   exact Vp hr a.eval
  by_cases h0:m*sz=0
  ·rw [Ai h0] at hzc
   subst hzc
   simp only [Instr.buildSlice,Sem.run_bind,run_underlying K,Result.andThen_ok,Bm C,Aj e0,Ai h0,Sem.run_pure,E,a1,newRow,run_newObj]
   rfl
  ·rw [Aj h0] at hzc
   subst hzc
   simp only [Instr.buildSlice,Sem.run_bind,run_underlying K,Result.andThen_ok,Bm C,Aj e0,Aj h0,Sem.run_pure,zeroValue,typeInfo,run_program,o,hv,E,a1,newRow,run_newObj]
   rfl
theorem ZdH (h:Rel w0 n M e st a w) (o:Oper) (hob:(A0 P e true st o.op).1) :
  Yields' P w0 M (A0 P e true st o.op).2.2 (A0 P e true st o.op).2.1 w (execOp a.eval o):=by
 obtain ⟨p,op,g,l,j,k⟩:=o
 cases op with
 | move x=>exact LE h.st rfl (A2 h hob)
 | assign x=>exact LE h.st rfl (A2 h hob)
 | pick c x y=>exact Zfd h c x y hob
 | alloc t=>exact ZdP h t hob
 | box t x=>exact Zhk h t x hob
 | build t ps=>exact ZcD h t ps hob
 | buildSlice t m ps =>
  cases hmk:I3 e t with
  | false=>exact UM h t m ps hmk hob
  | true=>exact YX h t m ps hmk hob
 | load t x =>
  have:=Zf6 h t x hob
  have e:(A0 P e true st (.load t x)).2.2=st:=by simp only [A0];split<;>rfl
  simp only [e]
  exact this
 | store t x v=>exact Zdh h t x v hob
 | nilCheck x=>exact Yo h ⟨p,.nilCheck x,g,l,j,k⟩ x rfl hob
 | binOp op t x y u=>exact ZdC h op t x y u hob
 | unOp op t x=>exact Zgf h op t x hob
 | convert s d x=>exact Zm h s d x hob
 | makeFunc f fi cap =>
  cases f with
  | func f=>exact Yv h f fi cap hob
  | _=>exact hob.elim
 | slice t x lo hi mx=>exact Zci h t x lo hi mx hob
 | makeSlice t len cap=>exact Wy h t len cap hob
 | fieldAddr t x f=>exact Wh h t x f hob
 | field t x f=>exact ZcL h t x f hob
 | indexAddr t x i=>exact Wx h t x i hob
 | index t x i=>exact Zdb h t x i hob
 | extract x i=>exact ZN h x i hob
 | call c =>
  obtain ⟨callee,args,z⟩:=c
  cases callee with
  | builtin b =>
   cases b with
   | len =>
    simp only [A0] at hob ⊢
    split at hob
    ·rename_i x t hx ht
     obtain ⟨r,q⟩:=hob
     have ea:args = #[x]:=Array.toList_inj.1 (by simpa using hx)
     have et:z = #[t]:=Array.toList_inj.1 (by simpa using ht)
     subst ea;subst et
     exact (Zg6 h x t g r q).congr (Ld .len #[x] #[t] p g l j k _ (fun _=>by simp [builtin]))
    ·exact hob.elim
   | append =>
    simp only [A0] at hob ⊢
    split at hob
    ·rename_i s x t t' hx ht
     obtain ⟨_,r,q,rfl,C⟩:=hob
     have ea:args = #[s,x]:=Array.toList_inj.1 (by simpa using hx)
     have et:z = #[t,t]:=Array.toList_inj.1 (by simpa using ht)
     subst ea;subst et
     exact (ZbX h s x t g r q C).congr (Ld .append #[s,x] #[t,t] p g l j k _ (fun _=>by simp [builtin]))
    ·exact hob.elim
   | min =>
    simp only [A0] at hob ⊢
    split at hob
    ·rename_i x y hx
     obtain ⟨r,q,C,D,_⟩:=hob
     have ea:args = #[x,y]:=Array.toList_inj.1 (by simpa using hx)
     subst ea
     exact (Zg2 h x y z g r q C D).congr (Ld .min #[x,y] z p g l j k _ (fun _=>by simp [builtin]))
    ·exact hob.elim
   | max =>
    simp only [A0] at hob ⊢
    split at hob
    ·rename_i x y hx
     obtain ⟨r,q,C,D⟩:=hob
     have ea:args = #[x,y]:=Array.toList_inj.1 (by simpa using hx)
     subst ea
     exact (ZhH h x y z g r q C D).congr (Ld .max #[x,y] z p g l j k _ (fun _=>by simp [builtin]))
    ·exact hob.elim
   | _=>exact hob.elim
  | _=>exact hob.elim
 | _=>exact hob.elim
end
end Go.Ev
