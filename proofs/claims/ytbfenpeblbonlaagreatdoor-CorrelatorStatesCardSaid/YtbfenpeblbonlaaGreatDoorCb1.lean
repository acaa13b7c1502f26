/-
  Part 1 of the proof: rules and walks that the claim's last text uses.
-/
import Derived.Below
import Derived.Laws.Rows
import Derived.Laws.Small
import Derived.Laws.StructEq
import Derived.Lib.SliceRun
import Derived.Lib.Strings
import Derived.MapKept
import Derived.Orders
import Derived.RangeFuncNested
import Derived.RangeFuncRecord
import Derived.WalkKit
set_option linter.unusedSimpArgs false
set_option linter.unusedVariables false
set_option maxRecDepth 100000
set_option maxHeartbeats 4000000
namespace Go
theorem Aa.{u} {c:Prop} {h:Decidable c} {α:Sort u} {t e:α} (hc:¬c:=by omega):ite c t e=e:=if_neg hc
theorem Ab.{u} {c:Prop} {h:Decidable c} {α:Sort u} {t e:α} (hc:c:=by omega):ite c t e=t:=if_pos hc
theorem Ac {p:Prop} [Decidable p] (h:¬p:=by omega):decide p=false:=decide_eq_false h
theorem Ad {a b:Prop} (h:a) (k:b):a/\b:=⟨h,k⟩
theorem Ae.{u,v} {α:Type u} {β:Type v} (a:α) (f:α->Option β):(some a).bind f=f a:=rfl
theorem Af {p:Prop} [Decidable p] (h:¬p):decide p=false:=decide_eq_false h
theorem Ag {p:Prop} [Decidable p] (h:p):decide p=true:=decide_eq_true h
theorem Ah.{u} {c:Prop} {h:Decidable c} (hc:c) {α:Sort u} {t e:α}:ite c t e=t:=if_pos hc
theorem Ai.{u} {c:Prop} {h:Decidable c} (hc:¬c) {α:Sort u} {t e:α}:ite c t e=e:=if_neg hc
theorem Aj.{u} {α:Type u} {a:α} {l:List α} {i:Nat}:l[i]?=some a<->∃ h:i<l.length,l[i]=a:=List.getElem?_eq_some_iff
end Go
namespace Go.Ev
open Go Go.RowKit
inductive Own where
 | none | full | seed | row (id:Nat)
 deriving DecidableEq
inductive AV where
 | val (v:Value)
 | list (xs:List AV) (o:Own)
 | elem (x:AV) (off:Nat)
 | box (l off:Nat)
 | clo (f:FuncId) (caps:List AV)
 | bnd (f:FuncId) (caps:List AV)
 | agg (cs:List AV)
 | tup (vs:List AV)
 | yld (k:Nat)
 | vec (id ver o n:Nat)
 | vel (id ver off:Nat)
 | mp (k:Nat)
 | tab (l:List (Int × FuncId))
abbrev Ak (x:Int):AV := .val (.int .i64 x)
abbrev AV.junk:AV := .tup []
instance:Inhabited AV:=⟨.junk⟩
def AV.cells:AV->List AV
 | .agg cs=>cs
 | x=>[x]
def AV.one:AV->Bool
 | .agg _ | .tup _=>false
 | _=>true
def I2:Value->Bool
 | .bool _ | .int _ _ | .float _ _ | .pointer none | .nilFunc | .nilIface | .iface _ _ | .map none=>true
 | .string s=>decide (s.size<=maxLen)
 | _=>false
structure LoopA where
 e:List (Nat × Bool × AV)
 n:Nat
 ps:Array Tmp
 asg:Code
 body:Code
 st:LoopState
 pend:Option Code
 keys:Option (List ByteArray)
inductive RowA where
 | grow (n sz:Nat)
 | vec (ver sz:Nat) (cells:List AV)
 | dead (ver:Nat)
structure St where
 boxes:List (List AV)
 rows:List RowA
 loops:List LoopA
abbrev Ao:=List (List AV)
abbrev Ap:=List RowA
abbrev Aq:=List LoopA
structure Mem where
 N:Nat
 NR:Nat
 bx:Nat->Nat
 top:Nat->Nat
 fr:Nat->Nat
 blk:Nat->Nat
 cap:Nat->Nat
 rsz:Nat->Nat
 NL:Nat
 lb:Nat->Nat
def Mem.imm (M:Mem) (w0:World) (b off:Nat):Prop:=b<w0.heap.size\/off<M.top b
def ZaD (M:Mem) (b off cap n sz:Nat):Own->Prop
 | .none=>True
 | .full | .seed=>n=cap
 | .row id=>id<M.NR/\n<=M.fr id/\(n=M.fr id->b=M.blk id/\off=0/\cap=M.cap id/\sz=M.rsz id)
inductive R (w0:World) (M:Mem) (w:World):Value->AV->Prop
 | flat {v:Value} (h:I2 v=true):R w0 M w v (.val v)
 | agg {cs:Array Value} {xs:List AV} (hl:cs.size=xs.length) (h1:∀ x∈xs,x.one=true) (h:∀ i (h1:i<cs.size) (h2:i<xs.length),R w0 M w cs[i] xs[i]):R w0 M w (.agg cs) (.agg xs)
 | tup {cs:Array Value} {xs:List AV} (hl:cs.size=xs.length) (h:∀ i (h1:i<cs.size) (h2:i<xs.length),R w0 M w cs[i] xs[i]):R w0 M w (.tuple cs) (.tup xs)
 | nil {o:Own} (ho:∀ id,o ≠ .row id):R w0 M w (.slice none 0 0) (.list [] o)
 | emp {a:Addr} {o:Own} (ho:∀ id,o ≠ .row id):R w0 M w (.slice (some a) 0 0) (.list [] o)
 | list {b off cap:Nat} {xs:List AV} {o:Own} (sz:Nat) (us:Nat->Value) (hc:xs.length<=cap) (hm:cap<=maxLen)
   (hcell:∀ i,i<xs.length->(us i).cells.size=sz/\∀ j,j<sz->M.imm w0 b (off+i*sz+j)/\w.cell? ⟨b,off+i*sz+j,none⟩=(us i).cells[j]?)
   (hu:∀ i (hi:i<xs.length),R w0 M w (us i) xs[i]) (ho:ZaD M b off cap xs.length sz o):R w0 M w (.slice (some ⟨b,off,none⟩) xs.length cap) (.list xs o)
 | elem {b off:Nat} {x:AV} (u:Value) (k:Nat) (hcell:∀ j,j<u.cells.size->M.imm w0 b (off+j)/\w.cell? ⟨b,off+j,none⟩=u.cells[j]?) (hu:R w0 M w u x) :
   R w0 M w (.pointer (some ⟨b,off+k,none⟩)) (.elem x k)
 | box {l off:Nat} (hl:l<M.N):R w0 M w (.pointer (some ⟨M.bx l,off,none⟩)) (.box l off)
 | clo {f:FuncId} {cs:Array Value} {xs:List AV} (hl:cs.size=xs.length) (h:∀ i (h1:i<cs.size) (h2:i<xs.length),R w0 M w cs[i] xs[i]):R w0 M w (.func (.func f) #[] cs) (.clo f xs)
 | bnd {f:FuncId} {cs:Array Value} {xs:List AV} (hl:cs.size=xs.length) (h:∀ i (h1:i<cs.size) (h2:i<xs.length),R w0 M w cs[i] xs[i]):R w0 M w (.func (.func f) cs #[]) (.bnd f xs)
 | yld {k:Nat} (hk:k<M.NL):R w0 M w (.func (.yield (M.lb k)) #[] #[]) (.yld k)
 | vec {id ver o n:Nat} {p:Option Addr} {cap:Nat} (hi:id<M.NR) (hv:ver<=M.fr id) (h:ver=M.fr id->p=some ⟨M.blk id,o*M.rsz id,none⟩/\cap+o=M.cap id/\n<=cap):R w0 M w (.slice p n cap) (.vec id ver o n)
 | vel {id ver off:Nat} {a:Addr} (hi:id<M.NR) (hv:ver<=M.fr id) (h:ver=M.fr id->a=⟨M.blk id,off,none⟩):R w0 M w (.pointer (some a)) (.vel id ver off)
 | mp {k:Nat} (hk:k<M.NL):R w0 M w (.map (some (M.lb k))) (.mp k)
 | tab {b:Nat} {es:Array MapEntry} {ck:Nat} {l:List (Int × FuncId)} (h:w.heap[b]? = some (.map es ck)) (hk:es.toList.map (fun e=>(e.key,e.val))=l.map fun x=>(Value.int .i64 x.1,Value.func (.func x.2) #[] #[])) (hn:∀ k,k<M.NL->M.lb k≠b):R w0 M w (.map (some b)) (.tab l)
def Mem.foreign (M:Mem) (b:Nat):Prop:=(∀ l,l<M.N->M.bx l≠b)/\(∀ i,i<M.NR->M.blk i≠b)/\∀ k,k<M.NL->M.lb k≠b
theorem Mem.own_row {M:Mem} {i:Nat} (h:i<M.NR):¬ M.foreign (M.blk i):=fun q=>q.2.1 i h rfl
structure Ext (w0:World) (M:Mem) (w:World) (M':Mem) (w':World):Prop where
 N:M.N<=M'.N
 bx:∀ l,l<M.N->M'.bx l=M.bx l
 NR:M.NR<=M'.NR
 rows:∀ id,id<M.NR->M.fr id<=M'.fr id/\(M'.fr id=M.fr id->M'.blk id=M.blk id/\M'.cap id=M.cap id/\M'.rsz id=M.rsz id)
 cell:∀ b off v,M.imm w0 b off->w.cell? ⟨b,off,none⟩=some v->w'.cell? ⟨b,off,none⟩=some v/\M'.imm w0 b off
 size:w.heap.size<=w'.heap.size
 NL:M.NL<=M'.NL
 lb:∀ k,k<M.NL->M'.lb k=M.lb k
 lnew:∀ k,M.NL<=k->k<M'.NL->w.heap.size<=M'.lb k
 objs:∀ b o,w.heap[b]? = some o->o.isCells=false->(∀ k,k<M.NL->M.lb k≠b)->w'.heap[b]? = some o
 keep:∀ b,b<w.heap.size->M.foreign b->w'.heap[b]? = w.heap[b]? /\ M'.foreign b/\M'.top b=M.top b
def KeepsObj (w w':World):Prop:=∀ (b:Nat) (o:Obj),w.heap[b]? = some o->o.isCells=false->w'.heap[b]? = some o
theorem KeepsObj.refl (w:World):KeepsObj w w:=fun _ _ h _=>h
theorem KeepsObj.trans {a b c:World} (h:KeepsObj a b) (k:KeepsObj b c):KeepsObj a c:=fun i o e d=>k i o (h i o e d) d
theorem KeepsObj.alloc (w:World) (o:Obj):KeepsObj w (w.alloc o):=fun b _ h _=>(Below.heap_alloc w o b (Array.getElem?_eq_some_iff.1 h).1).trans h
theorem Ext.refl (w0:World) (M:Mem) (w:World):Ext w0 M w M w :=
 ⟨Nat.le_refl _,fun _ _=>rfl,Nat.le_refl _,fun _ _=>⟨Nat.le_refl _,fun _=>⟨rfl,rfl,rfl⟩⟩,fun _ _ _ h k=>⟨k,h⟩,Nat.le_refl _,Nat.le_refl _,fun _ _=>rfl,fun _ _ _=>by omega,fun _ _ h _ _=>h,fun _ _ h=>⟨rfl,h,rfl⟩⟩
theorem Ext.trans {w0:World} {M1 M2 M3:Mem} {w1 w2 w3:World} (h:Ext w0 M1 w1 M2 w2) (k:Ext w0 M2 w2 M3 w3):Ext w0 M1 w1 M3 w3 where
 N:=Nat.le_trans h.N k.N
 bx:=fun l q=>(k.bx l (Nat.lt_of_lt_of_le q h.N)).trans (h.bx l q)
 NR:=Nat.le_trans h.NR k.NR
 rows:=fun id j=>by
  obtain ⟨a1,a2⟩:=h.rows id j
  obtain ⟨n,m⟩:=k.rows id (Nat.lt_of_lt_of_le j h.NR)
  refine ⟨Nat.le_trans a1 n,fun e=>?_⟩
  have x:M2.fr id=M1.fr id:=by omega
  have C:M3.fr id=M2.fr id:=by omega
  obtain ⟨D,w,u⟩:=a2 x
  obtain ⟨E,r,F⟩:=m C
  exact ⟨E.trans D,r.trans w,F.trans u⟩
 cell:=fun b g v d y=>by
  obtain ⟨s,z⟩:=h.cell b g v d y
  exact k.cell b g v z s
 size:=Nat.le_trans h.size k.size
 NL:=Nat.le_trans h.NL k.NL
 lb:=fun i d=>(k.lb i (Nat.lt_of_lt_of_le d h.NL)).trans (h.lb i d)
 lnew:=fun i a f=>by
  by_cases c:i<M2.NL
  ·rw [k.lb i c];exact h.lnew i a c
  ·exact Nat.le_trans h.size (k.lnew i (by omega) f)
 objs:=fun b o a f p=>k.objs b o (h.objs b o a f p) f fun i d=>by
  by_cases c:i<M1.NL
  ·rw [h.lb i c];exact p i c
  ·have:=h.lnew i (by omega) d
   have:=(Array.getElem?_eq_some_iff.1 a).1
   omega
 keep:=fun b a f=>by
  obtain ⟨a1,a2,a3⟩:=h.keep b a f
  obtain ⟨n,m,t⟩:=k.keep b (Nat.lt_of_lt_of_le a h.size) a2
  exact ⟨n.trans a1,m,t.trans a3⟩
theorem Px {u:Value} {j:Nat} (h:j<u.cells.size):∃ v,u.cells[j]? = some v:=⟨_,Array.getElem?_eq_getElem h⟩
theorem R.mono {w0:World} {M M':Mem} {w w':World} (hx:Ext w0 M w M' w') {v:Value} {x:AV} (h:R w0 M w v x):R w0 M' w' v x:=by
 induction h with
 | flat h=>exact .flat h
 | agg hl s _ ih=>exact .agg hl s ih
 | tup hl _ ih=>exact .tup hl ih
 | nil ho=>exact .nil ho
 | emp ho=>exact .emp ho
 | @list b off cap xs o sz us hc hm hcell _ ho ih =>
  refine .list sz us hc hm (fun i d=>⟨(hcell i d).1,fun j m=>?_⟩) ih ?_
  ·obtain ⟨g,f⟩:=(hcell i d).2 j m
   obtain ⟨v,hv⟩:=Px (u:=us i) (j:=j) (by rw [(hcell i d).1];exact m)
   obtain ⟨z,y⟩:=hx.cell _ _ v g (f.trans hv)
   exact ⟨y,z.trans hv.symm⟩
  ·cases o with
   | none=>trivial
   | full=>exact ho
   | seed=>exact ho
   | row id =>
    obtain ⟨s,C,D⟩:=ho
    obtain ⟨t,r⟩:=hx.rows id s
    refine ⟨Nat.lt_of_lt_of_le s hx.NR,Nat.le_trans C t,fun e=>?_⟩
    have E:M'.fr id=M.fr id:=by omega
    obtain ⟨a,b,c⟩:=r E
    rw [a,b,c]
    exact D (by omega)
 | @elem b off x u k hcell _ ih =>
  refine .elem u k (fun j m=>?_) ih
  obtain ⟨g,f⟩:=hcell j m
  obtain ⟨v,hv⟩:=Px (u:=u) (j:=j) m
  obtain ⟨z,y⟩:=hx.cell _ _ v g (f.trans hv)
  exact ⟨y,z.trans hv.symm⟩
 | box hl=>rw [<-hx.bx _ hl];exact .box (Nat.lt_of_lt_of_le hl hx.N)
 | clo hl _ ih=>exact .clo hl ih
 | bnd hl _ ih=>exact .bnd hl ih
 | yld hk=>rw [<-hx.lb _ hk];exact .yld (Nat.lt_of_lt_of_le hk hx.NL)
 | mp hk=>rw [<-hx.lb _ hk];exact .mp (Nat.lt_of_lt_of_le hk hx.NL)
 | @tab b es ck l h hk hn =>
  refine .tab (hx.objs _ _ h rfl hn) hk fun k q=>?_
  by_cases c:k<M.NL
  ·rw [hx.lb k c];exact hn k c
  ·have s:=hx.lnew k (by omega) q
   have C:=(Array.getElem?_eq_some_iff.1 h).1
   omega
 | @vec id ver o n p cap d hv h =>
  obtain ⟨t,r⟩:=hx.rows id d
  refine .vec (Nat.lt_of_lt_of_le d hx.NR) (Nat.le_trans hv t) (fun e=>?_)
  obtain ⟨q1,q2,q3⟩:=r (by omega)
  rw [q1,q2,q3]
  exact h (by omega)
 | @vel id ver off a d hv h =>
  obtain ⟨t,r⟩:=hx.rows id d
  refine .vel (Nat.lt_of_lt_of_le d hx.NR) (Nat.le_trans hv t) (fun e=>?_)
  obtain ⟨q1,q2,q3⟩:=r (by omega)
  rw [q1]
  exact h (by omega)
theorem R.cells {w0:World} {M:Mem} {w:World} {v:Value} {x:AV} (h:R w0 M w v x) :
  v.cells.size=x.cells.length/\∀ i (h1:i<v.cells.size) (h2:i<x.cells.length),R w0 M w v.cells[i] x.cells[i]:=by
 have one:∀ (u:Value) (y:AV),u.cells = #[u]->y.cells=[y]->R w0 M w u y ->
   u.cells.size=y.cells.length/\∀ i (h1:i<u.cells.size) (h2:i<y.cells.length),R w0 M w u.cells[i] y.cells[i]:=by
  intro u y a c b
  rw [a,c]
  refine ⟨rfl,fun i h1 h2=>?_⟩
  have:i=0:=by simp at h2;exact h2
  subst this
  exact b
 cases h with
 | agg hl _ h=>exact ⟨hl,h⟩
 | flat hf=>exact one _ _ (by cases v<;>first | rfl | simp [I2] at hf) rfl (.flat hf)
 | tup hl h=>exact one _ _ rfl rfl (.tup hl h)
 | nil ho=>exact one _ _ rfl rfl (.nil ho)
 | emp ho=>exact one _ _ rfl rfl (.emp ho)
 | list sz us hc hm hcell a ho=>exact one _ _ rfl rfl (.list sz us hc hm hcell a ho)
 | elem u k hcell a=>exact one _ _ rfl rfl (.elem u k hcell a)
 | box hl=>exact one _ _ rfl rfl (.box hl)
 | clo hl h=>exact one _ _ rfl rfl (.clo hl h)
 | bnd hl h=>exact one _ _ rfl rfl (.bnd hl h)
 | yld hk=>exact one _ _ rfl rfl (.yld hk)
 | mp hk=>exact one _ _ rfl rfl (.mp hk)
 | tab h hk hn=>exact one _ _ rfl rfl (.tab h hk hn)
 | vec hi hv h=>exact one _ _ rfl rfl (.vec hi hv h)
 | vel hi hv h=>exact one _ _ rfl rfl (.vel hi hv h)
theorem R.oneCell {w0:World} {M:Mem} {w:World} {v:Value} {x:AV} (h:R w0 M w v x) (hx:x.one=true):v.oneCell'=true:=by
 cases h with
 | agg=>cases hx
 | flat hf=>cases v<;>first | rfl | simp [I2] at hf
 | tup=>cases hx
 | _=>rfl
theorem R.cellsOne {w0:World} {M:Mem} {w:World} {v:Value} {x:AV} (h:R w0 M w v x) (ht:∀ vs,x ≠ .tup vs):∀ c∈x.cells,c.one=true:=by
 cases h with
 | agg hl h1 h=>exact h1
 | tup=>exact absurd rfl (ht _)
 | _=>intro c hc;simp only [AV.cells,List.mem_singleton] at hc;subst hc;rfl
theorem R.isAgg {w0:World} {M:Mem} {w:World} {v:Value} {xs:List AV} (h:R w0 M w v (.agg xs)):∃ cs,v = .agg cs:=by
 cases h with
 | agg hl h1 h=>exact ⟨_,rfl⟩
theorem R.cells_one {w0:World} {M:Mem} {w:World} {v:Value} {x:AV} (h:R w0 M w v x) (hx:x.one=true):v.cells = #[v]/\x.cells=[x]:=by
 cases h with
 | agg=>cases hx
 | flat hf=>exact ⟨by cases v<;>first | rfl | simp [I2] at hf,rfl⟩
 | tup=>cases hx
 | _=>exact ⟨rfl,rfl⟩
def AV.pubCell:AV->AV
 | .list xs _ => .list xs .none
 | x=>x
def AV.pub:AV->AV
 | .agg cs => .agg (cs.map AV.pubCell)
 | .list xs _ => .list xs .none
 | x=>x
theorem R.pubCell {w0:World} {M:Mem} {w:World} {v:Value} {x:AV} (h:R w0 M w v x):R w0 M w v x.pubCell:=by
 cases h with
 | nil ho=>exact .nil (fun id=>by simp)
 | emp ho=>exact .emp (fun id=>by simp)
 | list sz us hc hm hcell hu ho=>exact .list sz us hc hm hcell hu trivial
 | flat hf=>exact .flat hf
 | agg hl h1 h=>exact .agg hl h1 h
 | tup hl h=>exact .tup hl h
 | elem u k hcell hu=>exact .elem u k hcell hu
 | box hl=>exact .box hl
 | clo hl h=>exact .clo hl h
 | bnd hl h=>exact .bnd hl h
 | yld hk=>exact .yld hk
 | mp hk=>exact .mp hk
 | tab h hk hn=>exact .tab h hk hn
 | vec hi hv h=>exact .vec hi hv h
 | vel hi hv h=>exact .vel hi hv h
theorem AV.one_pubCell (x:AV):x.pubCell.one=x.one:=by cases x<;>rfl
theorem R.pub {w0:World} {M:Mem} {w:World} {v:Value} {x:AV} (h:R w0 M w v x):R w0 M w v x.pub:=by
 cases h with
 | nil ho=>exact .nil (fun id=>by simp)
 | emp ho=>exact .emp (fun id=>by simp)
 | list sz us hc hm hcell hu ho=>exact .list sz us hc hm hcell hu trivial
 | flat hf=>exact .flat hf
 | agg hl h1 h=>exact .agg (by simpa using hl) (fun x c=>by obtain ⟨y,d,rfl⟩:=List.mem_map.1 c;rw [AV.one_pubCell];exact h1 y d) (fun i a b=>by simp only [List.getElem_map];exact (h i a (by simpa using b)).pubCell)
 | tup hl h=>exact .tup hl h
 | elem u k hcell hu=>exact .elem u k hcell hu
 | box hl=>exact .box hl
 | clo hl h=>exact .clo hl h
 | bnd hl h=>exact .bnd hl h
 | yld hk=>exact .yld hk
 | mp hk=>exact .mp hk
 | tab h hk hn=>exact .tab h hk hn
 | vec hi hv h=>exact .vec hi hv h
 | vel hi hv h=>exact .vel hi hv h
theorem AV.pub_cells_length (x:AV):x.pub.cells.length=x.cells.length:=by cases x<;>simp [AV.pub,AV.cells]
def GT (P:Program) (t:TypeId):Option (Nat × Bool) :=
 match P.info? t,P.underlying t with
 | some i,some d=>some (i.size,match d with | .struct _ | .array _ _=>true | _=>false)
 | _,_=>none
def Ba (P:Program) (t:TypeId) (f:Nat):Option (Nat × Nat × Bool) :=
 match P.underlying t with
 | some (.struct fs)=>match fs[f]? with
  | some x=>(GT P x.type).map fun (s,a)=>(x.offset,s,a)
  | none=>none
 | _=>none
def It (P:Program) (t:TypeId):Option (TypeId × Nat × Bool × Nat) :=
 match P.underlying t with
 | some (.slice e)=>match P.info? e,GT P e with
  | some i,some (s,a)=>some (e,s,a,i.bytes)
  | _,_=>none
 | _=>none
def Dk (P:Program) (t:TypeId):Option (Nat × Nat × Bool) :=
 match P.underlying t with
 | some (.array n e)=>(GT P e).map fun (s,a)=>(n,s,a)
 | _=>none
def DU (P:Program) (t:TypeId):Bool :=
 match P.underlying t with | some .string=>true | _=>false
def I9 (P:Program) (t:TypeId):Bool :=
 match P.underlying t with
 | some (.slice e)=>(match P.underlying e with | some (.int .u8)=>true | _=>false)&&(match GT P e with | some (1,false)=>true | _=>false)
 | _=>false
def Nj (P:Program) (t:TypeId):Option IntKind :=
 match P.underlying t with | some (.int k)=>some k | _=>none
def Nc:Value->AV
 | .slice none 0 0 => .list [] .full
 | v => .val v
def I3:Value->AV
 | .agg cs => .agg (cs.toList.map Nc)
 | v=>Nc v
def Ql:Value->Bool
 | .slice none 0 0=>true
 | v=>I2 v
def OY:Value->Bool
 | .agg cs=>cs.toList.all Ql
 | v=>Ql v
def Bn (P:Program) (t:TypeId):Option (List AV) :=
 match P.info? t with
 | some i=>match i.zero with
  | some z=>if OY z&&z.cells.size == i.size then some (I3 z).cells else none
  | none=>none
 | none=>none
abbrev Env:=List (Nat × Bool × AV)
def look:Env->Nat->Option (Bool × AV)
 | [],_=>none
 | (k,c,v)::r,s=>if k=s then some (c,v) else look r s
def C9:List Nat->Env->Env
 | [],_=>[]
 | s::K,e=>match look e s with
  | some (c,v)=>(s,c,v)::C9 K e
  | none=>C9 K e
def Az (e:Env):Operand->AV
 | .tmp t=>match look e t with | some (_,v)=>v | none => .junk
 | .const v=>I3 v
 | .func f => .clo f []
 | .global _ => .junk
def AN (e:Env) (c:Bool):Operand->Prop
 | .tmp t=>match look e t with | some (c',_)=>(c=true->c'=true) | none=>False
 | .const v=>OY v=true
 | .func _=>True
 | .global _=>False
def JY:AV->Bool
 | .val (.bool b)=>b
 | _=>false
def TI:AV->Bool
 | .val (.bool _)=>true
 | _=>false
def AV.sel (t:Bool):AV->AV->AV
 | .val (.bool x),.val (.bool y) => .val (.bool (if t then x else y))
 | a,b=>if t then a else b
def Bt (l:List AV) (off:Nat) (xs:List AV):List AV:=l.take off++xs++l.drop (off+xs.length)
def XG (l:List AV) (i:Nat):AV:=l.getD i .junk
def Qy (P:Program):List Field->Option (List (Nat × Nat))
 | []=>some []
 | f::fs=>match P.info? f.type,Qy P fs with
  | some i,some r=>some ((f.offset,i.size)::r)
  | _,_=>none
def BD (P:Program) (t:TypeId):Option (List (Nat × Nat)) :=
 match P.underlying t with
 | some (.struct fs)=>Qy P fs.toList
 | _=>none
def J1 (P:Program) (t:TypeId) (i:Nat):Option (Nat × Nat) :=
 match BD P t with
 | some l=>l[i]?
 | none=>match Dk P t with
  | some (_,s,_)=>some (i*s,s)
  | none=>none
def QS (P:Program) (t:TypeId):List AV->List (Nat × AV)->List AV
 | cs,[]=>cs
 | cs,(i,x)::r=>match J1 P t i with
  | some (o,_)=>QS P t (Bt cs o x.cells) r
  | none=>cs
def OA (P:Program) (t:TypeId):Nat->List (Nat × AV)->Prop
 | _,[]=>True
 | n,(i,x)::r=>(match J1 P t i with
  | some (o,s)=>x.cells.length=s/\o+s<=n
  | none=>False)/\OA P t n r
def AP:AV->Bool
 | .tup _=>false
 | _=>true
def FZ:AV->Bool
 | .agg _=>true
 | _=>false
def inK:IntKind->Int->Prop
 | .i8,n => -128<=n/\n<=127
 | .i16,n => -32768<=n/\n<=32767
 | .i32,n => -2147483648<=n/\n<=2147483647
 | .i64,n => -9223372036854775808<=n/\n<=9223372036854775807
 | .u8,n=>0<=n/\n<=255
 | .u16,n=>0<=n/\n<=65535
 | .u32,n=>0<=n/\n<=4294967295
 | .u64,n=>0<=n/\n<=18446744073709551615
def MY (x y:ByteArray):Bool:=x.data.toList == y.data.toList
def sLt (x y:ByteArray):Bool:=Op.bytesLess x.data.toList y.data.toList
def evBin:BinOp->Value->Value->Prop × Value
 | .add,.int k a,.int k' b=>(k=k'/\inK k (a+b),.int k (a+b))
 | .sub,.int k a,.int k' b=>(k=k'/\inK k (a-b),.int k (a-b))
 | .mul,.int k a,.int k' b=>(k=k'/\inK k (a*b),.int k (a*b))
 | .quo,.int k a,.int k' b=>(k=k'/\b≠0/\inK k (a.tdiv b),.int k (a.tdiv b))
 | .rem,.int k a,.int k' b=>(k=k'/\b≠0,.int k (a.tmod b))
 | .eql,.int k a,.int k' b=>(k=k',.bool (decide (a=b)))
 | .neq,.int k a,.int k' b=>(k=k',.bool (!decide (a=b)))
 | .lss,.int k a,.int k' b=>(k=k',.bool (decide (a<b)))
 | .leq,.int k a,.int k' b=>(k=k',.bool (decide (a<=b)))
 | .gtr,.int k a,.int k' b=>(k=k',.bool (decide (b<a)))
 | .geq,.int k a,.int k' b=>(k=k',.bool (decide (b<=a)))
 | .add,.string x,.string y=>(x.size+y.size<=9223372036854775807,.string (x++y))
 | .eql,.string x,.string y=>(True,.bool (MY x y))
 | .neq,.string x,.string y=>(True,.bool (!MY x y))
 | .lss,.string x,.string y=>(True,.bool (sLt x y))
 | .leq,.string x,.string y=>(True,.bool (sLt x y||MY x y))
 | .gtr,.string x,.string y=>(True,.bool (!(sLt x y||MY x y)))
 | .geq,.string x,.string y=>(True,.bool (!sLt x y))
 | .shr,.int k a,.int _ b=>(b=1/\0<=a,.int k (a / 2))
 | _,_,_=>(False,undef)
def evBB:BinOp->Bool->Bool->Prop × Bool
 | .eql,a,b=>(True,a == b)
 | .neq,a,b=>(True,a != b)
 | _,_,_=>(False,false)
def ML (P:Program) (t:TypeId):Bool :=
 match P.underlying t with | some .bool=>true | _=>false
def KA (P:Program) (t:TypeId):AV->AV->Prop
 | .val (.int k _),.val (.int k' _)=>(Nj P t).isSome=true/\k=k'
 | .val (.string _),.val (.string _)=>DU P t=true
 | .val (.bool _),.val (.bool _)=>ML P t=true
 | _,_=>False
def eqCell:AV->AV->Bool
 | .val (.int _ a),.val (.int _ b)=>decide (a=b)
 | .val (.string a),.val (.string b)=>MY a b
 | .val (.bool a),.val (.bool b)=>a == b
 | _,_=>false
def Q2:List AV->List AV->Bool
 | [],[]=>true
 | x::xs,y::ys=>eqCell x y&&Q2 xs ys
 | _,_=>false
def Xc (P:Program):List Field->Nat->List AV->List AV->Prop
 | [],_,[],[]=>True
 | f::fs,i,x::xs,y::ys=>f.name ≠ "_" /\ f.offset=i/\GT P f.type=some (1,false)/\KA P f.type x y/\Xc P fs (i+1) xs ys
 | _,_,_,_=>False
def eqT (P:Program) (t:TypeId):Option (List Field) :=
 match P.underlying t with
 | some (.struct fs)=>if P.stoodInHeld t=false/\P.eqGuardType P.depth t=false then some fs.toList else none
 | _=>none
def S0 (P:Program) (op:BinOp) (t:TypeId) (xs ys:List AV):Prop × Bool :=
 match eqT P t,op with
 | some fs,.eql=>(Xc P fs 0 xs ys,Q2 xs ys)
 | some fs,.neq=>(Xc P fs 0 xs ys,!Q2 xs ys)
 | _,_=>(False,false)
def MJ:AV->List AV
 | .agg xs=>xs
 | _=>[]
def evUn:UnOp->Value->Prop × Value
 | .not,.bool b=>(True,.bool (!b))
 | .neg,.int k a=>(inK k (0-a),.int k (0-a))
 | _,_=>(False,undef)
def HI:AV->Value
 | .val v=>v
 | _=>undef
def EV:AV->Bool
 | .val _=>true
 | _=>false
def AX:AV->Int
 | .val (.int _ n)=>n
 | _=>0
def Ks:AV->IntKind
 | .val (.int k _)=>k
 | _ => .i64
def Ey:AV->Bool
 | .val (.int _ _)=>true
 | _=>false
def A0:AV->List AV
 | .list xs _=>xs
 | _=>[]
def BK:AV->Bool
 | .list _ _=>true
 | _=>false
def KT:AV->Bool
 | .val (.string _)=>true
 | _=>false
def Zdv:AV->ByteArray
 | .val (.string s)=>s
 | _ => .empty
def ZQ:AV->Prop
 | .val (.int .u8 n)=>0<=n/\n<=255
 | _=>False
def H2 (xs:List AV):ByteArray:=⟨(xs.map fun x=>UInt8.ofNat (AX x).toNat).toArray⟩
def Ho (l:List UInt8):List AV:=l.map fun b => .val (.int .u8 b.toNat)
def ED (rows:Ap) (id ver:Nat):Option (Nat × List AV) :=
 match rows[id]? with
 | some (.vec v sz cs)=>if v=ver then some (sz,cs) else none
 | _=>none
def Bi (st:St):AV->List AV
 | .box l _=>st.boxes.getD l []
 | .elem x _=>x.cells
 | .vel id ver _=>match ED st.rows id ver with | some (_,cs)=>cs | none=>[]
 | _=>[]
def EE:AV->Nat
 | .box _ o=>o
 | .elem _ o=>o
 | .vel _ _ o=>o
 | _=>0
def Dv (st:St):AV->Bool
 | .box l _=>decide (l<st.boxes.length)
 | .elem (.tup _) _=>false
 | .elem _ _=>true
 | .vel id ver _=>(ED st.rows id ver).isSome
 | _=>false
def Si (x:AV) (n:Nat):AV :=
 match x with
 | .box l o => .box l (o+n)
 | .elem y o => .elem y (o+n)
 | .vel id ver o => .vel id ver (o+n)
 | x=>x
def PL (agg:Bool) (cs:List AV) (off sz:Nat):AV:=if agg then .agg ((cs.drop off).take sz) else XG cs off
def US (st:St) (a:AV) (xs:List AV):St :=
 match a with
 | .box l o=>{ st with boxes:=st.boxes.set l (Bt (st.boxes.getD l []) o xs) }
 | .vel id ver o=>match ED st.rows id ver with
  | some (sz,cs)=>{ st with rows:=st.rows.set id (.vec ver sz (Bt cs o xs)) }
  | none=>st
 | _=>st
def LN:AV->Bool
 | .box _ _=>true
 | .vel _ _ _=>true
 | _=>false
def SQ (P:Program) (t:TypeId) (x:AV):Prop × AV :=
 match x with
 | .val (.string s)=>(DU P t=true,.val (.int .i64 s.size))
 | .list xs _=>((It P t).isSome=true,.val (.int .i64 xs.length))
 | .vec _ _ _ n=>((It P t).isSome=true,.val (.int .i64 n))
 | _=>(False,.junk)
def Dq (P:Program) (el sz by8:Nat) (n:Nat) (xs:List AV):Prop :=
 0<sz/\(Bn P el).isSome=true/\(n+xs.length)*by8<=140737488355328/\n+xs.length<=4611686018427387904/\(∀ y∈xs,y.cells.length=sz/\AP y=true)
def Bv (P:Program) (st:St) (t:TypeId) (s x:AV):Prop × AV × St :=
 match It P t with
 | some (el,sz,_,by8) =>
  match s with
  | .list ys .full=>if (A0 x).length=0 then (BK x=true/\0<sz,.list ys .full,st)
   else (BK x=true/\Dq P el sz by8 ys.length (A0 x)/\(∀ y∈ys,y.cells.length=sz),.list (ys++(A0 x).map AV.pub) (.row st.rows.length),{ st with rows:=st.rows++[.grow (ys.length+(A0 x).length) sz] })
  | .list ys (.row id)=>(BK x=true/\Dq P el sz by8 ys.length (A0 x)/\(∀ y∈ys,y.cells.length=sz)/\st.rows[id]? = some (.grow ys.length sz),.list (ys++(A0 x).map AV.pub) (.row id),{ st with rows:=st.rows.set id (.grow (ys.length+(A0 x).length) sz) })
  | .list ys .seed=>if (A0 x).length=0 then (BK x=true/\0<sz,.list ys .seed,st)
   else (BK x=true/\Dq P el sz by8 0 (A0 x)/\ys.length=0/\0<(A0 x).length,.vec st.rows.length 0 0 (A0 x).length,{ st with rows:=st.rows++[.vec 0 sz ((A0 x).flatMap fun y=>y.pub.cells)] })
  | .vec id ver o n=>match ED st.rows id ver with
   | some (sz',cs)=>(BK x=true/\Dq P el sz by8 n (A0 x)/\sz'=sz/\o=0/\n*sz<=cs.length,.vec id (ver+1) 0 (n+(A0 x).length),{ st with rows:=st.rows.set id (.vec (ver+1) sz (cs.take (n*sz)++(A0 x).flatMap fun y=>y.pub.cells)) })
   | none=>(False,.junk,st)
  | _=>(False,.junk,st)
 | none=>(False,.junk,st)
def DC (e:Env) (d:Int):Option Operand->Int
 | some y=>AX (Az e y)
 | none=>d
def NW (e:Env) (c:Bool):Option Operand->Prop
 | some y=>AN e c y/\Ey (Az e y)=true
 | none=>True
def Uo (st:St) (x:Prop × AV × St):Prop × AV × St:=(x.1,x.2.1,st)
def II (e:Env) (t:TypeId):Bool :=
 match look e (1000000+t) with
 | some _=>true
 | none=>false
def wrapM:BinOp->Env->Bool
 | .sub,e=>II e 900000
 | .add,_=>false
 | .mul,_=>false
 | .quo,_=>false
 | .rem,_=>false
 | .and,_=>false
 | .or,_=>false
 | .xor,_=>false
 | .shl,_=>false
 | .shr,_=>false
 | .andNot,_=>false
 | .eql,_=>false
 | .neq,_=>false
 | .lss,_=>false
 | .leq,_=>false
 | .gtr,_=>false
 | .geq,_=>false
def Zc8 (a b:Int):Int:=IntKind.wrap .i64 (a-b)
def Vb:AV->Bool
 | .val (.int .i64 _)=>true
 | _=>false
def WR (P:Program) (t:TypeId):Bool :=
 match P.underlying t with | some (.interface _)=>true | _=>false
def IQ:Value->Bool
 | .nilIface=>true
 | _=>false
def Wu:Value->Bool
 | .nilIface=>true
 | .iface _ _=>true
 | _=>false
def Uw:Operand->Bool
 | .const v=>IQ v
 | .tmp _=>false
 | .func _=>false
 | .global _=>false
def Ly:Value->Bool
 | .slice none _ _=>true
 | .pointer none=>true
 | _=>false
def W7:Operand->Bool
 | .const v=>Ly v
 | .tmp _=>false
 | .func _=>false
 | .global _=>false
def Zan:Operand->Value
 | .const v=>v
 | _ => .bool false
def ZdJ:Value->AV->Bool
 | .slice _ _ _,.list (_::_) _=>true
 | .pointer _,.box _ _=>true
 | .pointer _,.elem _ _=>true
 | _,_=>false
def ZjZ (P:Program) (t:TypeId) (v:Value):Bool :=
 match v,P.underlying t with
 | .slice _ _ _,some (.slice _)=>true
 | .pointer _,some (.pointer _)=>true
 | _,_=>false
def neB:BinOp->Option Bool
 | .eql=>some false
 | .neq=>some true
 | _=>none
def TT:BinOp->Value->Prop × Bool
 | .eql,v=>(Wu v=true,IQ v)
 | .neq,v=>(Wu v=true,!IQ v)
 | _,_=>(False,false)
def Zg3 (P:Program) (t:TypeId):Bool :=
 match P.underlying t with
 | some (.map kt et)=>DU P kt&&(match Bn P et with | some []=>true | _=>false)
 | _=>false
def Zbo (P:Program) (t:TypeId):Bool :=
 match P.underlying t with
 | some (.map kt et)=>(match P.underlying kt with | some (.int .i64)=>true | _=>false)&&(match P.info? et with | some i=>(match i.zero with | some .nilFunc=>true | _=>false) | none=>false)
 | _=>false
def PH:List (Int × FuncId)->Int->AV × Bool
 | [],_=>(.val .nilFunc,false)
 | (k,f)::l,n=>if k=n then (.clo f [],true) else PH l n
def Za7 (ks:List ByteArray):LoopA:=⟨[],0,#[],.skip,.skip,.ready,none,some ks⟩
def PZ (st:St) (i:Nat):Option (List ByteArray):=(st.loops[i]?).bind (·.keys)
def Yh (ks:List ByteArray) (s:ByteArray):Bool:=ks.any fun x=>MY x s
def ZcU (ks:List ByteArray) (s:ByteArray):List ByteArray:=if Yh ks s then ks else ks++[s]
theorem SO {st:St} {i:Nat} {ks:List ByteArray} (h:PZ st i=some ks):∃ la,st.loops[i]? = some la/\la.keys=some ks:=Option.bind_eq_some_iff.1 h
def A6 (P:Program) (e:Env) (c:Bool) (st:St):Op->Prop × AV × St
 | .move x | .assign x=>(AN e c x,Az e x,st)
 | .pick b x y=>(AN e c b/\TI (Az e b)=true/\(c=true->JY (Az e b)=true->AN e true x)/\(c=true->JY (Az e b)=false->AN e true y),AV.sel (JY (Az e b)) (Az e x) (Az e y),st)
 | .alloc t=>match Bn P t with
  | some z=>(c=true,.box st.boxes.length 0,{ st with boxes:=st.boxes++[z] })
  | none=>(False,.junk,st)
 | .box _ x=>(c=true/\AN e c x/\AP (Az e x)=true,.box st.boxes.length 0,{ st with boxes:=st.boxes++[(Az e x).cells] })
 | .build t ps=>match Bn P t with
  | some z=>(((BD P t).isSome=true\/(Dk P t).isSome=true)/\(∀ p∈ps.toList,AN e c p.2/\AP (Az e p.2)=true)/\OA P t z.length (ps.toList.map fun p=>(p.1,Az e p.2)),.agg (QS P t z (ps.toList.map fun p=>(p.1,Az e p.2))),st)
  | none=>(False,.junk,st)
 | .buildSlice t n ps =>
  let vs:=ps.toList.map fun p=>Az e p.2
  match It P t with
  | some (el,sz,_,_)=>match II e t with
   | false=>((∀ p∈ps.toList,AN e c p.2)/\ps.toList.map (·.1)=List.range n/\n*sz<=16777216/\0<sz/\(Bn P el).isSome=true/\(∀ x∈vs,x.cells.length=sz),.list (vs.map AV.pub) .full,st)
   | true=>(c=true/\(∀ p∈ps.toList,AN e c p.2)/\ps.toList.map (·.1)=List.range n/\n*sz<=16777216/\0<sz/\(Bn P el).isSome=true/\(∀ x∈vs,x.cells.length=sz)/\(∀ x∈vs,AP x=true),.vec st.rows.length 0 0 n,{ st with rows:=st.rows++[.vec 0 sz (vs.flatMap fun x=>x.pub.cells)] })
  | none=>(False,.junk,st)
 | .load t a=>match GT P t with
  | some (sz,ag)=>(AN e c a/\Dv st (Az e a)=true/\EE (Az e a)+sz<=(Bi st (Az e a)).length/\(ag=true\/sz=1),PL ag (Bi st (Az e a)) (EE (Az e a)) sz,st)
  | none=>(False,.junk,st)
 | .store t a v=>match GT P t with
  | some (sz,_)=>(c=true/\AN e c a/\AN e c v/\LN (Az e a)=true/\Dv st (Az e a)=true/\AP (Az e v)=true/\(Az e v).cells.length=sz/\EE (Az e a)+sz<=(Bi st (Az e a)).length,.junk,US st (Az e a) (Az e v).cells)
  | none=>(False,.junk,st)
 | .nilCheck x=>(AN e c x/\Dv st (Az e x)=true,Az e x,st)
 | .binOp op t x y _=>if TI (Az e x)&&TI (Az e y) then (AN e c x/\AN e c y/\ML P t=true/\(evBB op (JY (Az e x)) (JY (Az e y))).1,.val (.bool (evBB op (JY (Az e x)) (JY (Az e y))).2),st)
  else if FZ (Az e x)&&FZ (Az e y) then (AN e c x/\AN e c y/\(S0 P op t (MJ (Az e x)) (MJ (Az e y))).1,.val (.bool (S0 P op t (MJ (Az e x)) (MJ (Az e y))).2),st)
  else if Uw y then (AN e c x/\EV (Az e x)=true/\WR P t=true/\(TT op (HI (Az e x))).1,.val (.bool (TT op (HI (Az e x))).2),st)
  else if W7 y then (AN e c x/\ZjZ P t (Zan y)=true/\ZdJ (Zan y) (Az e x)=true/\(neB op).isSome=true,.val (.bool ((neB op).getD false)),st)
  else if wrapM op e then (AN e c x/\AN e c y/\Vb (Az e x)=true/\Vb (Az e y)=true,Ak (Zc8 (AX (Az e x)) (AX (Az e y))),st)
  else (AN e c x/\AN e c y/\EV (Az e x)=true/\EV (Az e y)=true/\(evBin op (HI (Az e x)) (HI (Az e y))).1,.val (evBin op (HI (Az e x)) (HI (Az e y))).2,st)
 | .unOp op _ x=>(AN e c x/\EV (Az e x)=true/\(evUn op (HI (Az e x))).1,.val (evUn op (HI (Az e x))).2,st)
 | .convert s d x=>match Nj P s,Nj P d with
  | some _,some k=>(AN e c x/\Ey (Az e x)=true/\inK k (AX (Az e x)),.val (.int k (AX (Az e x))),st)
  | some _,none=>(AN e c x/\Ey (Az e x)=true/\DU P d=true,.val (.string (Utf8.encode (AX (Az e x)))),st)
  | none,_=>if DU P s&&DU P d then (AN e c x/\KT (Az e x)=true,Az e x,st)
   else if I9 P s&&DU P d then match Az e x with
    | .vec id ver o n=>match ED st.rows id ver with
     | some (sz',cs)=>(AN e c x/\sz'=1/\o+n<=cs.length/\n<=9223372036854775807/\(∀ y∈(cs.drop o).take n,ZQ y),.val (.string (H2 ((cs.drop o).take n))),st)
     | none=>(False,.junk,st)
    | _=>(AN e c x/\BK (Az e x)=true/\(A0 (Az e x)).length<=9223372036854775807/\(∀ y∈A0 (Az e x),ZQ y),.val (.string (H2 (A0 (Az e x)))),st)
   else if DU P s&&I9 P d then (c=true/\AN e c x/\KT (Az e x)=true,.list (Ho (Zdv (Az e x)).data.toList) .none,st)
   else (False,.junk,st)
 | .makeFunc (.func f) fi cap=>if fi.size=0 then ((∀ x∈cap.toList,AN e c x),.clo f (cap.toList.map (Az e)),st) else (cap.size=0/\(∀ x∈fi.toList,AN e c x),.bnd f (fi.toList.map (Az e)),st)
 | .makeSlice t len cap=>match It P t with
  | some (el,sz,_,by8)=>match Bn P el with
   | some z=>(c=true/\AN e c len/\AN e c cap/\Ey (Az e len)=true/\Ey (Az e cap)=true/\0<=AX (Az e len)/\AX (Az e len)<=AX (Az e cap)/\AX (Az e cap)*by8<=140737488355328/\AX (Az e cap)<=4611686018427387904/\0<sz/\z.length=sz/\(AX (Az e len)=0\/II e t=true\/sz=1),
     if II e t=true then .vec st.rows.length 0 0 (AX (Az e len)).toNat else if AX (Az e len)=0 then .list [] (.row st.rows.length) else .list (List.replicate (AX (Az e len)).toNat (XG z 0)) .none,
     if II e t=true then { st with rows:=st.rows++[.vec 0 sz ((List.replicate (AX (Az e len)).toNat z).flatten)] } else if AX (Az e len)=0 then { st with rows:=st.rows++[.grow 0 sz] } else st)
   | none=>(False,.junk,st)
  | none=>(False,.junk,st)
 | .slice t x lo hi mx=>match Az e x with
  | .vec id ver o n=>match It P t,ED st.rows id ver with
   | some (_,sz,_,_),some (sz',_)=>(AN e c x/\NW e c lo/\NW e c hi/\mx.isNone=true/\0<=DC e 0 lo/\DC e 0 lo<=DC e n hi/\DC e n hi<=n/\(DC e 0 lo=0\/DC e 0 lo<n)/\sz'=sz,.vec id ver (o+(DC e 0 lo).toNat) ((DC e n hi).toNat-(DC e 0 lo).toNat),st)
   | _,_=>(False,.junk,st)
  | .val (.string s) =>
   (DU P t=true/\AN e c x/\NW e c lo/\NW e c hi/\mx.isNone=true/\0<=DC e 0 lo/\DC e 0 lo<=DC e s.size hi/\DC e s.size hi<=s.size,.val (.string (s.extract (DC e 0 lo).toNat (DC e s.size hi).toNat)),st)
  | .list xs _=>match It P t with
   | some (_,sz,_,_)=>match mx with
    | none=>(AN e c x/\NW e c lo/\NW e c hi/\0<=DC e 0 lo/\DC e 0 lo<=DC e xs.length hi/\DC e xs.length hi<=xs.length/\(DC e 0 lo=0\/∀ y∈xs,y.cells.length=sz),.list ((xs.take (DC e xs.length hi).toNat).drop (DC e 0 lo).toNat) .none,st)
    | some m=>(AN e c x/\NW e c lo/\NW e c hi/\NW e c (some m)/\DC e 0 lo=0/\DC e 1 hi=0/\DC e 1 (some m)=0,.list [] .full,st)
   | none=>(False,.junk,st)
  | _=>(False,.junk,st)
 | .fieldAddr t x f=>match Ba P t f with
  | some (o,sz,_)=>(AN e c x/\Dv st (Az e x)=true/\0<sz,Si (Az e x) o,st)
  | none=>(False,.junk,st)
 | .field t x f=>match Ba P t f with
  | some (o,sz,ag)=>(AN e c x/\FZ (Az e x)=true/\o+sz<=(Az e x).cells.length/\(ag=true\/sz=1),PL ag (Az e x).cells o sz,st)
  | none=>(False,.junk,st)
 | .indexAddr t x i=>Uo st <| match It P t with
  | some (_,sz,_,_)=>match Az e x with
   | .vec id ver o n=>match ED st.rows id ver with
    | some (sz',_)=>(AN e c x/\AN e c i/\Ey (Az e i)=true/\0<=AX (Az e i)/\AX (Az e i)<n/\sz'=sz,.vel id ver ((o+(AX (Az e i)).toNat)*sz),st)
    | none=>(False,.junk,st)
   | _=>(AN e c x/\AN e c i/\BK (Az e x)=true/\Ey (Az e i)=true/\0<=AX (Az e i)/\AX (Az e i)<(A0 (Az e x)).length/\(XG (A0 (Az e x)) (AX (Az e i)).toNat).cells.length=sz,.elem (XG (A0 (Az e x)) (AX (Az e i)).toNat) 0,st)
  | none=>match Dk P t with
   | some (n,sz,_)=>(AN e c x/\AN e c i/\Dv st (Az e x)=true/\Ey (Az e i)=true/\0<=AX (Az e i)/\AX (Az e i)<n,Si (Az e x) ((AX (Az e i)).toNat*sz),st)
   | none=>(False,.junk,st)
 | .index t x i=>Uo st <| match Az e x with
  | .val (.string s)=>(DU P t=true/\AN e c x/\AN e c i/\Ey (Az e i)=true/\0<=AX (Az e i)/\AX (Az e i)<s.size,.val (.int .u8 (s.get! (AX (Az e i)).toNat).toNat),st)
  | .agg cs=>match Dk P t with
   | some (n,sz,ag)=>(AN e c x/\AN e c i/\Ey (Az e i)=true/\0<=AX (Az e i)/\AX (Az e i)<n/\cs.length=n*sz/\(ag=true\/sz=1),PL ag cs ((AX (Az e i)).toNat*sz) sz,st)
   | none=>(False,.junk,st)
  | _=>(False,.junk,st)
 | .extract x i=>Uo st <| match Az e x with
  | .tup vs=>(AN e c x/\i<vs.length,XG vs i,st)
  | _=>(False,.junk,st)
 | .makeMap _ r=>(c=true/\r.isNone=true,.mp st.loops.length,{ st with loops:=st.loops++[Za7 []] })
 | .lookup t m k ok=>match Az e m,Az e k with
  | .tab l,.val (.int .i64 i)=>(Zbo P t=true/\AN e c m/\AN e c k/\ok=true,.tup [(PH l i).1,.val (.bool (PH l i).2)],st)
  | .mp i,.val (.string s)=>match PZ st i with
   | some ks=>(Zg3 P t=true/\AN e c m/\AN e c k/\ok=true,.tup [.agg [],.val (.bool (Yh ks s))],st)
   | none=>(False,.junk,st)
  | _,_=>(False,.junk,st)
 | .mapUpdate t m k v=>match Az e m,Az e k,Az e v with
  | .mp i,.val (.string s),.agg []=>match PZ st i with
   | some ks=>(c=true/\Zg3 P t=true/\AN e c m/\AN e c k/\AN e c v,.junk,{ st with loops:=st.loops.set i (Za7 (ZcU ks s)) })
   | none=>(False,.junk,st)
  | _,_,_=>(False,.junk,st)
 | .call ⟨.builtin .len,args,ts⟩=>match args.toList,ts.toList with
  | [x],[t]=>(AN e c x/\(SQ P t (Az e x)).1,(SQ P t (Az e x)).2,st)
  | _,_=>(False,.junk,st)
 | .call ⟨.builtin .clear,args,ts⟩=>match args.toList,ts.toList with
  | [x],[t]=>match Az e x,It P t with
   | .vec id ver o n,some (el,sz,_,_)=>match ED st.rows id ver with
    | some (sz',cs)=>(c=true/\AN e c x/\sz'=sz/\(Bn P el).isSome=true/\0<n,.tup [],{ st with rows:=st.rows.set id (.vec ver sz (cs.take (o*sz))) })
    | none=>(False,.junk,st)
   | _,_=>(False,.junk,st)
  | _,_=>(False,.junk,st)
 | .call ⟨.builtin .append,args,ts⟩=>match args.toList,ts.toList with
  | [s,x],[t,t']=>(c=true/\AN e c s/\AN e c x/\t=t'/\(Bv P st t (Az e s) (Az e x)).1,(Bv P st t (Az e s) (Az e x)).2)
  | _,_=>(False,.junk,st)
 | .call ⟨.builtin .min,args,_⟩=>match args.toList with
  | [x,y]=>(AN e c x/\AN e c y/\Ey (Az e x)=true/\Ey (Az e y)=true/\True,.val (.int (Ks (Az e x)) (if AX (Az e y)<AX (Az e x) then AX (Az e y) else AX (Az e x))),st)
  | _=>(False,.junk,st)
 | .call ⟨.builtin .max,args,_⟩=>match args.toList with
  | [x,y]=>(AN e c x/\AN e c y/\Ey (Az e x)=true/\Ey (Az e y)=true,.val (.int (Ks (Az e x)) (if AX (Az e x)<AX (Az e y) then AX (Az e y) else AX (Az e x))),st)
  | _=>(False,.junk,st)
 | _=>(False,.junk,st)
def entryOk (w0:World) (M:Mem) (w:World) (v:Value) (x:Bool × AV):Prop:=if x.1=true then R w0 M w v x.2 else v=undef
def LoopOk (w0:World) (M:Mem) (w:World) (la:LoopA) (b:Nat):Prop :=
 match la.keys with
 | none=>∃ r:Loop,w.heap[b]? = some (.loop r)/\r.state=la.st/\r.pending=la.pend/\r.params=la.ps/\r.assign=la.asg/\r.body=la.body/\r.tmps.size=la.n/\∀ s x,look la.e s=some x->entryOk w0 M w (r.tmps.getD s undef) x
 | some ks=>la.e=[]/\∃ es ck,w.heap[b]? = some (.map es ck)/\es.toList.map (·.key)=ks.map Value.string/\(∀ e∈es.toList,e.val = .agg #[])/\ks.Nodup
theorem LoopOk.isLoop {w0:World} {M:Mem} {w:World} {la:LoopA} {b:Nat} {r:Loop} (h:LoopOk w0 M w la b) (hr:w.heap[b]? = some (.loop r)) :
  la.keys=none/\r.state=la.st/\r.pending=la.pend/\r.params=la.ps/\r.assign=la.asg/\r.body=la.body/\r.tmps.size=la.n/\∀ s x,look la.e s=some x->entryOk w0 M w (r.tmps.getD s undef) x:=by
 unfold LoopOk at h
 split at h
 ·rename_i q
  obtain ⟨c,h1,a⟩:=h
  rw [hr] at h1
  cases h1
  exact ⟨q,a⟩
 ·obtain ⟨_,f,d,h1,_⟩:=h
  rw [hr] at h1
  cases h1
theorem LoopOk.loop {w0:World} {M:Mem} {w:World} {la:LoopA} {b:Nat} (h:LoopOk w0 M w la b) (hk:la.keys=none):∃ r:Loop,w.heap[b]? = some (.loop r)/\r.state=la.st/\r.pending=la.pend/\r.params=la.ps/\r.assign=la.asg/\r.body=la.body/\r.tmps.size=la.n/\∀ s x,look la.e s=some x->entryOk w0 M w (r.tmps.getD s undef) x:=by
 unfold LoopOk at h
 rw [hk] at h
 exact h
theorem LoopOk.ofLoop {w0:World} {M:Mem} {w:World} {la:LoopA} {b:Nat} (hk:la.keys=none) (h:∃ r:Loop,w.heap[b]? = some (.loop r)/\r.state=la.st/\r.pending=la.pend/\r.params=la.ps/\r.assign=la.asg/\r.body=la.body/\r.tmps.size=la.n/\∀ s x,look la.e s=some x->entryOk w0 M w (r.tmps.getD s undef) x):LoopOk w0 M w la b:=by
 unfold LoopOk
 rw [hk]
 exact h
theorem LoopOk.obj {w0:World} {M:Mem} {w:World} {la:LoopA} {b:Nat} (h:LoopOk w0 M w la b):∃ o,w.heap[b]? = some o/\o.isCells=false/\∀ d,o ≠ .deferred d:=by
 unfold LoopOk at h
 split at h
 ·obtain ⟨r,a,_⟩:=h;exact ⟨_,a,rfl,fun d q=>by cases q⟩
 ·obtain ⟨_,e,c,a,_⟩:=h;exact ⟨_,a,rfl,fun d q=>by cases q⟩
theorem LoopOk.lt {w0:World} {M:Mem} {w:World} {la:LoopA} {b:Nat} (h:LoopOk w0 M w la b):b<w.heap.size:=by
 obtain ⟨o,q,_⟩:=h.obj
 exact (Array.getElem?_eq_some_iff.1 q).1
theorem LoopOk.nodef {w0:World} {M:Mem} {w:World} {la:LoopA} {b:Nat} {d:Option (List Deferred)} {C:Prop} (h:LoopOk w0 M w la b) (hd:w.heap[b]? = some (.deferred d)):C:=by
 obtain ⟨o,q,_,q2⟩:=h.obj
 rw [hd] at q
 exact absurd (Option.some.inj q).symm (q2 d)
theorem LoopOk.map {w0:World} {M M':Mem} {w w':World} {la:LoopA} {b b':Nat} (h:LoopOk w0 M w la b) (hb:∀ o,w.heap[b]? = some o->o.isCells=false->w'.heap[b']? = some o) (he:∀ s x v,look la.e s=some x->entryOk w0 M w v x->entryOk w0 M' w' v x):LoopOk w0 M' w' la b':=by
 unfold LoopOk at h ⊢
 split at h
 ·obtain ⟨r,a,c,l,j,n,m,i,d⟩:=h
  exact ⟨r,hb _ a rfl,c,l,j,n,m,i,fun s x hs=>he s x _ hs (d s x hs)⟩
 ·obtain ⟨k,g,f,a,c⟩:=h
  exact ⟨k,g,f,hb _ a rfl,c⟩
theorem LoopOk.ent {w0:World} {M:Mem} {w:World} {la:LoopA} {b:Nat} (h:LoopOk w0 M w la b) (s:Nat) (x:Bool × AV) (hs:look la.e s=some x):∃ v,entryOk w0 M w v x:=by
 unfold LoopOk at h
 split at h
 ·obtain ⟨r,_,_,_,_,_,_,_,a⟩:=h;exact ⟨_,a s x hs⟩
 ·obtain ⟨c,_⟩:=h;rw [c] at hs;cases hs
structure LoopSt (w0:World) (M:Mem) (w:World) (ls:Aq):Prop where
 NL:M.NL=ls.length
 inj:∀ k k',k<M.NL->k'<M.NL->M.lb k=M.lb k'->k=k'
 record:∀ k la,ls[k]? = some la->w0.heap.size<=M.lb k/\LoopOk w0 M w la (M.lb k)
theorem entryOk.mono {w0:World} {M M':Mem} {w w':World} (hx:Ext w0 M w M' w') {v:Value} {x:Bool × AV} (h:entryOk w0 M w v x):entryOk w0 M' w' v x:=by
 unfold entryOk at *
 split
 ·rename_i c;rw [Ah c] at h;exact h.mono hx
 ·rename_i c;rw [Ai c] at h;exact h
theorem LoopSt.mono {w0:World} {M M':Mem} {w w':World} {ls:List LoopA} (h:LoopSt w0 M w ls) (hx:Ext w0 M w M' w') (hN:M'.NL=M.NL) (hk:KeepsObj w w'):LoopSt w0 M' w' ls where
 NL:=hN.trans h.NL
 inj:=fun k f c d e=>h.inj k f (hN▸c) (hN▸d) (by rw [hx.lb k (hN▸c),hx.lb f (hN▸d)] at e;exact e)
 record:=fun k g a=>by
  have b:k<M.NL:=by rw [h.NL];exact (Aj.1 a).1
  obtain ⟨a1,a2⟩:=h.record k g a
  rw [hx.lb k b]
  exact ⟨a1,a2.map (fun o q1 q2=>hk _ _ q1 q2) fun s x v _ i=>i.mono hx⟩
def RowOk (w0:World) (M:Mem) (w:World) (id:Nat):RowA->Prop
 | .grow n sz=>M.fr id=n/\M.rsz id=sz/\w0.heap.size<=M.blk id/\M.top (M.blk id)=n*sz/\(∀ l,l<M.N->M.bx l≠M.blk id)/\M.cap id<=maxLen/\n<=M.cap id /\
  ∃ c ty,w.heap[M.blk id]? = some (.cells c ty (0,0))/\c.size=M.cap id*sz
 | .vec ver sz cs=>M.fr id=ver/\M.rsz id=sz/\w0.heap.size<=M.blk id/\M.top (M.blk id)=0/\(∀ l,l<M.N->M.bx l≠M.blk id)/\M.cap id<=maxLen/\0<sz /\
  ∃ c ty,w.heap[M.blk id]? = some (.cells c ty (0,0))/\c.size=M.cap id*sz/\cs.length<=c.size/\(∀ x∈cs,x.one=true)/\∀ i (h1:i<c.size) (h2:i<cs.length),R w0 M w c[i] cs[i]
 | .dead ver=>M.fr id=ver/\w0.heap.size<=M.blk id/\(∀ l,l<M.N->M.bx l≠M.blk id)/\M.blk id<w.heap.size
theorem RowOk.base {w0:World} {M:Mem} {w:World} {id:Nat} {x:RowA} (h:RowOk w0 M w id x):w0.heap.size<=M.blk id:=by
 cases x with
 | grow n sz=>exact h.2.2.1
 | vec v sz cs=>exact h.2.2.1
 | dead v=>exact h.2.1
theorem RowOk.ne {w0:World} {M:Mem} {w:World} {id:Nat} {x:RowA} (h:RowOk w0 M w id x):∀ l,l<M.N->M.bx l≠M.blk id:=by
 cases x with
 | grow n sz=>exact h.2.2.2.2.1
 | vec v sz cs=>exact h.2.2.2.2.1
 | dead v=>exact h.2.2.1
theorem RowOk.lt {w0:World} {M:Mem} {w:World} {id:Nat} {x:RowA} (h:RowOk w0 M w id x):M.blk id<w.heap.size:=by
 cases x with
 | grow n sz=>obtain ⟨_,_,_,_,_,_,_,c,b,a,_⟩:=h;exact (Array.getElem?_eq_some_iff.1 a).1
 | vec v sz cs=>obtain ⟨_,_,_,_,_,_,_,c,b,a,_⟩:=h;exact (Array.getElem?_eq_some_iff.1 a).1
 | dead v=>exact h.2.2.2
theorem RowOk.keep {w0:World} {M M':Mem} {w w':World} {id:Nat} {x:RowA} (h:RowOk w0 M w id x) (hx:Ext w0 M w M' w') (e1:M'.fr id=M.fr id) (e2:M'.rsz id=M.rsz id) (e3:M'.blk id=M.blk id) (e4:M'.cap id=M.cap id)
  (e5:M'.top (M.blk id)=M.top (M.blk id)) (e6:∀ l,l<M'.N->M'.bx l≠M.blk id) (e7:w'.heap[M.blk id]? = w.heap[M.blk id]?):RowOk w0 M' w' id x:=by
 cases x with
 | grow n sz =>
  obtain ⟨a1,a2,a3,a4,a5,a6,a7,c,a,d,b⟩:=h
  simp only [RowOk,e1,e2,e3,e4,e5,e7]
  exact ⟨a1,a2,a3,a4,e6,a6,a7,c,a,d,b⟩
 | vec v sz cs =>
  obtain ⟨a1,a2,a3,a4,a5,a6,a7,c,a,d,b,j,k,e⟩:=h
  simp only [RowOk,e1,e2,e3,e4,e5,e7]
  exact ⟨a1,a2,a3,a4,e6,a6,a7,c,a,d,b,j,k,fun i f g=>(e i f g).mono hx⟩
 | dead v =>
  obtain ⟨a1,a2,a3,a4⟩:=h
  simp only [RowOk,e1,e3]
  exact ⟨a1,a2,e6,Nat.lt_of_lt_of_le a4 hx.size⟩
structure RelSt (w0:World) (M:Mem) (st:St) (w:World):Prop where
 below:Below w0.heap.size w0 w
 N:M.N=st.boxes.length
 NR:M.NR=st.rows.length
 top:∀ b,w.heap.size<=b->M.top b=0
 inj:∀ l l',l<M.N->l'<M.N->M.bx l=M.bx l'->l=l'
 box:∀ l cs,st.boxes[l]? = some cs->w0.heap.size<=M.bx l/\M.top (M.bx l)=0/\∃ c ty,w.heap[M.bx l]? = some (.cells c ty (0,0))/\c.size=cs.length/\(∀ x∈cs,x.one=true) /\
  ∀ i (h1:i<c.size) (h2:i<cs.length),R w0 M w c[i] cs[i]
 row:∀ id x,st.rows[id]? = some x->RowOk w0 M w id x
 rowinj:∀ i j,i<M.NR->j<M.NR->M.blk i=M.blk j->i=j
 loop:LoopSt w0 M w st.loops
structure Rel (w0:World) (n:Nat) (M:Mem) (e:Env) (st:St) (a:Act) (w:World):Prop where
 st:RelSt w0 M st w
 size:a.tmps.size=n
 env:∀ s x,look e s=some x->entryOk w0 M w (a.tmps.getD s undef) x
section
variable {P:Program} {w0:World} {n:Nat} {M:Mem} {e:Env} {st:St} {a:Act} {w:World}
theorem KW {t:TypeId} {s:Nat} {b:Bool} (h:GT P t=some (s,b)):∃ i d,P.info? t=some i/\i.size=s/\P.underlying t=some d/\(match d with | .struct _ | .array _ _=>true | _=>false)=b:=by
 unfold GT at h
 split at h
 ·rename_i i d h1 h2
  simp only [Option.some.injEq,Prod.mk.injEq] at h
  exact ⟨i,d,h1,h.1,h2,h.2⟩
 ·cases h
theorem BW {t:TypeId} {s:Nat} {b:Bool} (h:GT P t=some (s,b)) (w:World):(sizeOf t).run P w = .ok s w:=by
 obtain ⟨i,d,a,c,_,_⟩:=KW h
 simp [sizeOf,typeInfo,a,c]
theorem TV {t:TypeId} {s:Nat} {b:Bool} (h:GT P t=some (s,b)) (w:World):(isAgg t).run P w = .ok b w:=by
 obtain ⟨i,d,_,_,a,h4⟩:=KW h
 unfold isAgg
 rw [Sem.run_bind,run_underlying a w]
 subst h4
 cases d<;>rfl
theorem Wm {t:TypeId} {f o s:Nat} {b:Bool} (h:Ba P t f=some (o,s,b)):∃ fs x,P.underlying t=some (.struct fs)/\fs[f]? = some x/\x.offset=o/\GT P x.type=some (s,b):=by
 unfold Ba at h
 split at h
 ·rename_i fs h1
  split at h
  ·rename_i x h2
   obtain ⟨⟨e,d⟩,c,a⟩:=Option.map_eq_some_iff.1 h
   simp only [Prod.mk.injEq] at a
   obtain ⟨rfl,rfl,rfl⟩:=a
   exact ⟨fs,x,h1,h2,rfl,c⟩
  ·cases h
 ·cases h
theorem GM {t el:TypeId} {s by8:Nat} {b:Bool} (h:It P t=some (el,s,b,by8)):∃ i,P.underlying t=some (.slice el)/\P.info? el=some i/\i.bytes=by8/\GT P el=some (s,b):=by
 unfold It at h
 split at h
 ·rename_i e' h1
  split at h
  ·rename_i i s' b' h2 h3
   simp only [Option.some.injEq,Prod.mk.injEq] at h
   obtain ⟨rfl,rfl,rfl,rfl⟩:=h
   exact ⟨i,h1,h2,rfl,h3⟩
  ·cases h
 ·cases h
theorem RI {t:TypeId} {m s:Nat} {b:Bool} (h:Dk P t=some (m,s,b)):∃ el,P.underlying t=some (.array m el)/\GT P el=some (s,b):=by
 unfold Dk at h
 split at h
 ·rename_i m' el h1
  obtain ⟨⟨e,d⟩,c,a⟩:=Option.map_eq_some_iff.1 h
  simp only [Prod.mk.injEq] at a
  obtain ⟨rfl,rfl,rfl⟩:=a
  exact ⟨el,h1,c⟩
 ·cases h
theorem Gs {t:TypeId} (h:DU P t=true):P.underlying t=some .string:=by
 unfold DU at h
 split at h
 ·assumption
 ·cases h
theorem RD {t:TypeId} {k:IntKind} (h:Nj P t=some k):P.underlying t=some (.int k):=by
 unfold Nj at h
 split at h
 ·rename_i k' h1;cases h;exact h1
 ·cases h
theorem TP:R w0 M w undef .junk := .tup rfl (fun i a=>absurd a (by simp))
theorem YI {v:Value} (h:Ql v=true):R w0 M w v (Nc v):=by
 unfold Nc
 split
 ·exact .nil (fun id=>by simp)
 ·rename_i hne
  refine .flat ?_
  unfold Ql at h
  split at h
  ·exact absurd rfl hne
  ·exact h
theorem Zj {v:Value} (h:Ql v=true):(Nc v).one=true:=by
 unfold Nc
 split<;>rfl
theorem NK {v:Value} (h:OY v=true):R w0 M w v (I3 v):=by
 cases v with
 | agg cs =>
  have a:∀ x∈cs.toList,Ql x=true:=List.all_eq_true.1 h
  refine .agg (by simp) (fun x b=>?_) (fun i d e=>?_)
  ·obtain ⟨y,c,rfl⟩:=List.mem_map.1 b
   exact Zj (a y c)
  ·simp only [List.getElem_map,Array.getElem_toList]
   exact YI (a _ (by simp))
 | _=>exact YI h
theorem A5 (h:Rel w0 n M e st a w) {x:Operand} (ho:AN e true x):R w0 M w (a.eval x) (Az e x):=by
 cases x with
 | tmp t =>
  simp only [AN,Az] at *
  cases hl:look e t with
  | none=>simp [hl] at ho
  | some x =>
   obtain ⟨c,v⟩:=x
   simp only [hl] at ho ⊢
   have:=h.env t _ hl
   unfold entryOk at this
   rw [Ah (by simpa using ho)] at this
   exact this
 | const v=>exact NK ho
 | func f=>exact .clo rfl (fun i b=>absurd b (by simp))
 | global g=>exact ho.elim
theorem R.val_inv {v u:Value} (h:R w0 M w v (.val u)):v=u/\I2 u=true:=by cases h;exact ⟨rfl,‹_›⟩
theorem R.plain {v:Value} {x:AV} (h:R w0 M w v x) (hp:EV x=true):v=HI x/\I2 (HI x)=true/\x = .val (HI x):=by
 cases x with
 | val u=>obtain ⟨rfl,a⟩:=h.val_inv;exact ⟨rfl,a,rfl⟩
 | _=>cases hp
theorem R.int {v:Value} {x:AV} (h:R w0 M w v x) (hp:Ey x=true):v = .int (Ks x) (AX x)/\x = .val (.int (Ks x) (AX x)):=by
 cases x with
 | val u =>
  obtain ⟨rfl,a⟩:=h.val_inv
  cases v<;>first | exact ⟨rfl,rfl⟩ | cases hp
 | _=>cases hp
theorem R.bool {v:Value} {x:AV} (h:R w0 M w v x) (hp:TI x=true):v = .bool (JY x)/\x = .val (.bool (JY x)):=by
 cases x with
 | val u =>
  obtain ⟨rfl,a⟩:=h.val_inv
  cases v<;>first | exact ⟨rfl,rfl⟩ | cases hp
 | _=>cases hp
def Yields' (P:Program) (w0:World) (M:Mem) (st':St) (r:AV) (w:World) (s:Sem Next):Prop :=
 ∃ v w' M',(s.run P w = .ok (.value v) w'\/(s.run P w = .ok .skip w'/\v=undef))/\Ext w0 M w M' w'/\RelSt w0 M' st' w'/\R w0 M' w' v r
theorem LF (hst:RelSt w0 M st w) {s:Sem Next} {v:Value} {r:AV} (hs:s.run P w = .ok (.value v) w) (hr:R w0 M w v r):Yields' P w0 M st r w s :=
 ⟨v,w,M,.inl hs,Ext.refl _ _ _,hst,hr⟩
theorem MP {k:IntKind} {m:Int} (h:inK k m):k.wrap m=m:=by
 cases k<;>simp only [inK] at h<;>simp only [IntKind.wrap,IntKind.signed,IntKind.bits]<;>simp<;>omega
theorem PW (x y:ByteArray):(x.toList == y.toList)=MY x y:=by
 unfold MY
 rw [Lib.toList_data,Lib.toList_data]
theorem S5 {x:AV} (h:Vb x=true):∃ a,x=Ak a:=by
 unfold Vb at h
 split at h
 ·exact ⟨_,rfl⟩
 ·cases h
theorem ZG {op:BinOp} {e:Env} {a b:Int} {t:TypeId} {X Y:Operand} (h:wrapM op e=true) :
  (do eqGuard op t X Y (.int .i64 a) (.int .i64 b);binOp op t (.int .i64 a) (.int .i64 b):Sem Value).run P w = .ok (.int .i64 (Zc8 a b)) w:=by
 cases op with
 | sub=>simp [eqGuard,binOp,Op.intArith,Zc8]
 | _=>cases h
theorem XK {op:BinOp} {x y:Value} {t:TypeId} {X Y:Operand} (h:(evBin op x y).1) :
  (do eqGuard op t X Y x y;binOp op t x y:Sem Value).run P w = .ok (evBin op x y).2 w:=by
 unfold evBin at h ⊢
 split at h<;>simp only at h ⊢ <;> try exact h.elim
 case h_1 k a k' b=>obtain ⟨rfl,h⟩:=h;simp [eqGuard,binOp,Op.intArith,MP h]
 case h_2 k a k' b=>obtain ⟨rfl,h⟩:=h;simp [eqGuard,binOp,Op.intArith,MP h]
 case h_3 k a k' b=>obtain ⟨rfl,h⟩:=h;simp [eqGuard,binOp,Op.intArith,MP h]
 case h_4 k a k' b =>
  obtain ⟨rfl,c,h⟩:=h
  simp [eqGuard,binOp,Op.intDiv,c,MP h]
 case h_5 k a k' b =>
  obtain ⟨rfl,c⟩:=h
  simp [eqGuard,binOp,Op.intDiv,c]
 case h_6 k a k' b=>subst h;simp [eqGuard,binOp,Op.intCmp];rfl
 case h_7 k a k' b=>subst h;simp [eqGuard,binOp,Op.intCmp];rfl
 case h_8 k a k' b=>subst h;simp [eqGuard,binOp,Op.intCmp]
 case h_9 k a k' b=>subst h;simp [eqGuard,binOp,Op.intCmp]
 case h_10 k a k' b=>subst h;simp [eqGuard,binOp,Op.intCmp]
 case h_11 k a k' b=>subst h;simp [eqGuard,binOp,Op.intCmp]
 case h_12 x y =>
  have e:¬ (((x.size+y.size:Nat):Int) > IntKind.i64.max):=by simp [IntKind.max,IntKind.signed,IntKind.bits];omega
  simp only [eqGuard,binOp,Op.stringOp,Ai e]
  simp
 case h_13 x y=>simp [eqGuard,binOp,Op.stringOp,PW]
 case h_14 x y=>simp [eqGuard,binOp,Op.stringOp,PW]
 case h_15 x y=>simp [eqGuard,binOp,Op.stringOp,Lib.toList_data,sLt]
 case h_16 x y=>simp [eqGuard,binOp,Op.stringOp,Lib.toList_data,sLt,MY]
 case h_17 x y=>simp [eqGuard,binOp,Op.stringOp,Lib.toList_data,sLt,MY]
 case h_18 x y=>simp [eqGuard,binOp,Op.stringOp,Lib.toList_data,sLt]
 case h_19 k a k' b =>
  obtain ⟨rfl,h⟩:=h
  have e:Nat.min (Int.toNat 1) k.bits=1:=by cases k<;>rfl
  have d:min (Int.toNat 1) k.bits=1:=by cases k<;>rfl
  simp only [eqGuard,binOp,Op.shift,e,d]
  simp [Int.fdiv_eq_ediv_of_nonneg]
section
theorem WQ {d:Nat} {t:TypeId} {u v:Value} (h:KA P t (.val u) (.val v)):(Op.equalIn (d+1) t u v).run P w = .ok (eqCell (.val u) (.val v)) w:=by
 unfold KA at h
 split at h
 ·rename_i k a k' b e1 e2
  cases e1;cases e2
  obtain ⟨h1,rfl⟩:=h
  unfold Nj at h1
  split at h1
  ·rename_i k1 hk
   rw [run_equalIn_int w d t _ k1 a b hk];rfl
  ·cases h1
 ·rename_i a b e1 e2
  cases e1;cases e2
  unfold DU at h
  split at h
  ·rename_i hk
   rw [run_equalIn_string w d t a b hk,PW];rfl
  ·cases h
 ·rename_i a b e1 e2
  cases e1;cases e2
  unfold ML at h
  split at h
  ·rename_i hk
   rw [run_equalIn_bool' w d t a b hk];rfl
  ·cases h
 ·exact h.elim
theorem WM {t:TypeId} {x y:AV} (h:KA P t x y):∃ u v,x = .val u/\y = .val v:=by
 unfold KA at h
 split at h
 ·exact ⟨_,_,rfl,rfl⟩
 ·exact ⟨_,_,rfl,rfl⟩
 ·exact ⟨_,_,rfl,rfl⟩
 ·exact h.elim
theorem Yy {t:TypeId} (ht:GT P t=some (1,false)) {cs:Array Value} {i:Nat} {v:Value} (h:cs[i]? = some v):(part t cs i).run P w = .ok v w:=by
 obtain ⟨e,d,c,f,b,h4⟩:=KW ht
 have a:(isAgg t).run P w = .ok false w:=by
  simp only [isAgg,Sem.run_bind,run_underlying b,Result.andThen_ok]
  cases d<;>first | (cases h4;done) | rfl | (cases h4;rfl)
 simp [part,a,h]
theorem KL (d:Nat) {cs ds:Array Value}:∀ (fs:List Field) (i:Nat) (xs ys:List AV),Xc P fs i xs ys->(∀ j v,xs[j]? = some (.val v)->cs[i+j]? = some v)->(∀ j v,ys[j]? = some (.val v)->ds[i+j]? = some v) ->
  (Op.eqFields (d+1) cs ds fs).run P w = .ok (Q2 xs ys) w
 | [],_,[],[],_,_,_=>by simp [Op.eqFields,Q2]
 | f::fs,i,x::xs,y::ys,h,hx,hy=>by
  obtain ⟨k,rfl,e,b,l⟩:=h
  obtain ⟨u,v,rfl,rfl⟩:=WM b
  have g:=Yy (w:=w) e (hx 0 u rfl)
  have c:=Yy (w:=w) e (hy 0 v rfl)
  simp only [Nat.add_zero] at g c
  have ih:=KL d fs _ xs ys l (fun j v a=>by rw [Nat.add_assoc,Nat.add_comm 1 j];exact hx (j+1) v a) (fun j v a=>by rw [Nat.add_assoc,Nat.add_comm 1 j];exact hy (j+1) v a)
  simp only [Op.eqFields,Ah k,Sem.run_bind,g,c,Result.andThen_ok,WQ b,Q2]
  cases hc:eqCell (.val u) (.val v)
  ·simp
  ·simp [ih]
 | [],_,[],_::_,h,_,_=>h.elim
 | [],_,_::_,_,h,_,_=>h.elim
 | _::_,_,[],_,h,_,_=>h.elim
 | _::_,_,_::_,[],h,_,_=>h.elim
theorem Za1 {op:BinOp} {t:TypeId} {cs ds:Array Value} {xs ys:List AV} {X Y:Operand} (h:(S0 P op t xs ys).1) (hx:∀ (j:Nat) (v:Value),xs[j]? = some (.val v)->cs[j]? = some v) (hy:∀ (j:Nat) (v:Value),ys[j]? = some (.val v)->ds[j]? = some v) :
  (do eqGuard op t X Y (.agg cs) (.agg ds);binOp op t (.agg cs) (.agg ds):Sem Value).run P w = .ok (.bool (S0 P op t xs ys).2) w:=by
 unfold S0 at h ⊢
 unfold eqT at h ⊢
 cases hu:P.underlying t with
 | none=>rw [hu] at h;exact h.elim
 | some d =>
  cases d<;>(try (rw [hu] at h;exact h.elim))
  rename_i fs
  rw [hu] at h
  simp only at h ⊢
  by_cases hc:P.stoodInHeld t=false/\P.eqGuardType P.depth t=false
  ·rw [Ah hc] at h ⊢
   have c:P.fieldsOf t=fs:=by unfold Program.fieldsOf;rw [hu]
   have b:P.underlying t=some (.struct (P.fieldsOf t)):=by rw [c];exact hu
   cases op<;>simp only at h ⊢ <;> (try exact h.elim)
   ·have:=KL (P:=P) (w:=w) 9998 fs.toList 0 xs ys h (fun j v a=>by rw [Nat.zero_add];exact hx j v a) (fun j v a=>by rw [Nat.zero_add];exact hy j v a)
    simp only [Sem.run_bind,run_eqGuard_agg w _ t X Y cs ds hc.2,Result.andThen_ok,run_eql_struct,run_equalIn_agg w 9999 t cs ds b hc.1,c,this]
   ·have:=KL (P:=P) (w:=w) 9998 fs.toList 0 xs ys h (fun j v a=>by rw [Nat.zero_add];exact hx j v a) (fun j v a=>by rw [Nat.zero_add];exact hy j v a)
    simp only [Sem.run_bind,run_eqGuard_agg w _ t X Y cs ds hc.2,Result.andThen_ok,run_neq_struct,run_equalIn_agg w 9999 t cs ds b hc.1,c,this]
  ·rw [Ai hc] at h;exact h.elim
end
theorem R.aggC {w0:World} {M:Mem} {w:World} {v:Value} {x:AV} (h:R w0 M w v x) (hx:FZ x=true):∃ cs,v = .agg cs/\∀ (j:Nat) (u:Value),(MJ x)[j]? = some (.val u)->cs[j]? = some u:=by
 cases h with
 | @agg cs xs hl h1 h =>
  refine ⟨cs,rfl,fun j u d=>?_⟩
  replace d:xs[j]? = some (.val u):=d
  obtain ⟨b,c⟩:=Aj.1 d
  have hr:=h j (by omega) b
  have a:xs[j]'b = .val u:=c
  rw [a] at hr
  have e:j<cs.size:=by omega
  rw [Array.getElem?_eq_getElem e]
  generalize cs[j]=q at hr
  cases hr
  rfl
 | _=>cases hx
theorem Z5 {op:BinOp} {x y:Value} (h:(evBin op x y).1):I2 (evBin op x y).2=true:=by
 unfold evBin at h ⊢
 split at h<;>simp only at h ⊢ <;> try first | exact h.elim | rfl
 rename_i x y
 have e:(x++y).size=x.size+y.size:=ByteArray.size_append
 simp only [I2,maxLen,e]
 simp
 omega
theorem Ze {op:UnOp} {x:Value} (h:(evUn op x).1):(Op.unary op x).run P w = .ok (evUn op x).2 w:=by
 unfold evUn at h ⊢
 split at h<;>simp only at h ⊢ <;> try exact h.elim
 ·simp [Op.unary]
 ·have e:=MP h
  simp only [Op.unary,Op.intArith,e]
  rfl
theorem Zbh {op:UnOp} {x:Value} (h:(evUn op x).1):I2 (evUn op x).2=true:=by
 unfold evUn at h ⊢
 split at h<;>simp only at h ⊢ <;> first | exact h.elim | rfl
theorem EO (b o j:Nat):(⟨b,o,none⟩:Addr).add j=⟨b,o+j,none⟩:=by
 unfold Addr.add
 split
 ·subst j;rfl
 ·rfl
theorem Fo {rows:List RowA} {id ver sz:Nat} {cs:List AV} (h:ED rows id ver=some (sz,cs)):rows[id]? = some (.vec ver sz cs):=by
 unfold ED at h
 split at h
 ·rename_i v s c he
  split at h
  ·rename_i hv;cases h;rw [he,hv]
  ·cases h
 ·cases h
theorem SD {rows:List RowA} {id ver:Nat} (h:(ED rows id ver).isSome=true):∃ sz cs,ED rows id ver=some (sz,cs):=by
 obtain ⟨⟨a,b⟩,h⟩:=Option.isSome_iff_exists.1 h
 exact ⟨a,b,h⟩
theorem Ye (hst:RelSt w0 M st w) {v:Value} {x:AV} (h:R w0 M w v x) (hr:Dv st x=true) :
  ∃ b o,v = .pointer (some ⟨b,o+EE x,none⟩)/\(∀ c∈Bi st x,c.one=true)/\∀ j (hj:j<(Bi st x).length),∃ u,w.cell? ⟨b,o+j,none⟩=some u/\R w0 M w u (Bi st x)[j]:=by
 cases x with
 | box l off =>
  cases h with
  | box hl =>
   have i:l<st.boxes.length:=by simpa [Dv] using hr
   obtain ⟨cs,d⟩:∃ cs,st.boxes[l]? = some cs:=⟨_,List.getElem?_eq_getElem i⟩
   obtain ⟨_,_,c,m,z,r,s,g⟩:=hst.box l cs d
   have e:Bi st (.box l off)=cs:=by simp [Bi,List.getD,d]
   refine ⟨M.bx l,0,by simp [EE],by rw [e];exact s,fun j hj=>?_⟩
   simp only [e] at hj ⊢
   refine ⟨c[j]'(by omega),?_,g j (by omega) hj⟩
   rw [Nat.zero_add,cell_of_row w _ j c m _ z]
   exact Array.getElem?_eq_getElem (by omega)
 | elem y k =>
  cases h with
  | @elem b off x u k hcell hu =>
   obtain ⟨hs,g⟩:=hu.cells
   refine ⟨b,off,rfl,?_,fun j hj=>?_⟩
   ·refine hu.cellsOne (fun vs hv=>?_)
    subst hv
    simp [Dv] at hr
   ·have f:j<u.cells.size:=by rw [hs];exact hj
    refine ⟨u.cells[j],?_,g j f hj⟩
    rw [(hcell j f).2]
    exact Array.getElem?_eq_getElem f
 | vel id ver off =>
  cases h with
  | @vel _ _ _ a hi hv hh =>
   obtain ⟨sz,cs,d⟩:=SD (show (ED st.rows id ver).isSome=true from hr)
   obtain ⟨q,K,F,D,J,E,H,c,m,t,G,C,n,p⟩:=hst.row id _ (Fo d)
   have e:Bi st (.vel id ver off)=cs:=by simp [Bi,d]
   refine ⟨M.blk id,0,by rw [hh q.symm];simp [EE],by rw [e];exact n,fun j hj=>?_⟩
   simp only [e] at hj ⊢
   refine ⟨c[j]'(by omega),?_,p j (by omega) hj⟩
   rw [Nat.zero_add,cell_of_row w _ j c m _ t]
   exact Array.getElem?_eq_getElem (by omega)
 | _=>cases hr
theorem Yields'.value {s:Sem Value} {st':St} {r:AV} (h:∃ v w' M',s.run P w = .ok v w'/\Ext w0 M w M' w'/\RelSt w0 M' st' w'/\R w0 M' w' v r) :
  Yields' P w0 M st' r w (do pure (.value (<- s))):=by
 obtain ⟨v,w',M',hs,a,c,b⟩:=h
 exact ⟨v,w',M',.inl (by simp [hs]),a,c,b⟩
theorem Yields'.here (hst:RelSt w0 M st w) {s:Sem Value} {v:Value} {r:AV} (hs:s.run P w = .ok v w) (hr:R w0 M w v r) :
  Yields' P w0 M st r w (do pure (.value (<- s))) := .value ⟨v,w,M,hs,Ext.refl _ _ _,hst,hr⟩
theorem Zn {t:TypeId} (h:ML P t=true):P.underlying t=some .bool:=by
 unfold ML at h
 split at h
 ·assumption
 ·cases h
theorem ZcB {op:BinOp} {a b:Bool} {t:TypeId} {X Y:Operand} (ht:ML P t=true) (h:(evBB op a b).1):(do eqGuard op t X Y (.bool a) (.bool b);binOp op t (.bool a) (.bool b):Sem Value).run P w = .ok (.bool (evBB op a b).2) w:=by
 have c:=Zn ht
 cases op<;>try exact h.elim
 ·simp [eqGuard,binOp,run_equal_bool w t a b c,evBB]
 ·simp [eqGuard,binOp,run_equal_bool w t a b c,evBB];cases a<;>cases b<;>rfl
theorem To (d:Nat) (t:TypeId) (v:Value) {ms:Array (String × TypeId)} (hu:P.underlying t=some (.interface ms)) (hv:Wu v=true):(Op.equalIn (d+1) t v .nilIface).run P w = .ok (IQ v) w:=by
 cases v<;>first | cases hv | skip
 all_goals simp [Op.equalIn,run_underlying hu,IQ]
theorem Za2 {op:BinOp} {v:Value} {t:TypeId} {X Y:Operand} (ht:WR P t=true) (hy:Uw Y=true) (h:(TT op v).1):(do eqGuard op t X Y v .nilIface;binOp op t v .nilIface:Sem Value).run P w = .ok (.bool (TT op v).2) w:=by
 obtain ⟨ms,hu⟩:∃ ms,P.underlying t=some (.interface ms):=by
  unfold WR at ht
  split at ht
  ·exact ⟨_,‹_›⟩
  ·cases ht
 have b:∃ c,Y = .const c:=by
  cases Y<;>first | exact ⟨_,rfl⟩ | cases hy
 obtain ⟨c,rfl⟩:=b
 have a:∀ v,Wu v=true->(eqGuard op t X (.const c) v .nilIface).run P w = .ok () w/\(Op.equal t v .nilIface).run P w = .ok (IQ v) w:=by
  intro v hv
  cases v<;>first | cases hv | skip
  all_goals
   refine ⟨?_,To 9999 t _ hu rfl⟩
   cases op<;>cases X<;>simp [eqGuard]
 cases op<;>first | exact h.elim | skip
 all_goals
  obtain ⟨d,e⟩:=a v h
  simp only [Sem.run_bind,d,Result.andThen_ok]
  cases v<;>first | cases h | skip
  all_goals simp [binOp,e,TT]
theorem TQ (d:Nat) (t e:TypeId) (a:Addr) (n k n' k':Nat) (h:P.underlying t=some (.slice e)):(Op.equalIn (d+1) t (.slice (some a) n k) (.slice none n' k')).run P w = .ok false w:=by
 simp [Op.equalIn,run_underlying h]
theorem Ua (d:Nat) (t e:TypeId) (a:Addr) (h:P.underlying t=some (.pointer e)):(Op.equalIn (d+1) t (.pointer (some a)) (.pointer none)).run P w = .ok false w:=by
 simp [Op.equalIn,run_underlying h]
theorem ZY {op:BinOp} {v:Value} {x:AV} {t:TypeId} {X:Operand} {cv:Value} {M:Mem} {w0:World} (hr:R w0 M w v x) (hy:Ly cv=true) (ht:ZjZ P t cv=true) (hs:ZdJ cv x=true) (ho:(neB op).isSome=true):(do eqGuard op t X (.const cv) v cv;binOp op t v cv:Sem Value).run P w = .ok (.bool ((neB op).getD false)) w:=by
 have g:(eqGuard op t X (.const cv) v cv).run P w = .ok () w:=by
  cases cv<;>first | cases hy | skip
  all_goals cases op<;>cases X<;>cases v<;>simp [eqGuard]
 have run:(Op.equal t v cv).run P w = .ok false w:=by
  unfold ZjZ at ht
  split at ht
  ·rename_i p a b e hu
   obtain rfl:p=none:=by cases p<;>first | rfl | cases hy
   cases x<;>first | cases hs | skip
   rename_i l o
   cases l<;>first | cases hs | skip
   cases hr
   exact TQ 9999 t _ _ _ _ _ _ hu
  ·rename_i p e hu
   obtain rfl:p=none:=by cases p<;>first | rfl | cases hy
   cases x<;>first | cases hs | skip
   all_goals cases hr;exact Ua 9999 t _ _ hu
  ·cases ht
 simp only [Sem.run_bind,g,Result.andThen_ok]
 cases op<;>first | cases ho | skip
 all_goals
  cases cv<;>first | cases hy | skip
  all_goals cases v<;>simp [binOp,run,neB]
theorem Zds (h:Rel w0 n M e st a w) (op:BinOp) (t:TypeId) (x y:Operand) (u:TypeId) (hob:(A6 P e true st (.binOp op t x y u)).1) :
  Yields' P w0 M (A6 P e true st (.binOp op t x y u)).2.2 (A6 P e true st (.binOp op t x y u)).2.1 w (do pure (.value (<- (do eqGuard op t x y (a.eval x) (a.eval y);binOp op t (a.eval x) (a.eval y))))):=by
 simp only [A6] at hob ⊢
 by_cases hc:(TI (Az e x)&&TI (Az e y))=true
 ·rw [Ah hc] at hob ⊢
  simp only [Bool.and_eq_true] at hc
  obtain ⟨b,g,i,f⟩:=hob
  obtain ⟨d,_⟩:=(A5 h b).bool hc.1
  obtain ⟨c,_⟩:=(A5 h g).bool hc.2
  rw [d,c]
  exact .here h.st (ZcB i f) (.flat rfl)
 ·rw [Ai hc] at hob ⊢
  by_cases hg:(FZ (Az e x)&&FZ (Az e y))=true
  ·rw [Ah hg] at hob ⊢
   simp only [Bool.and_eq_true] at hg
   obtain ⟨b,g,f⟩:=hob
   obtain ⟨cs,d,l⟩:=(A5 h b).aggC hg.1
   obtain ⟨ds,c,k⟩:=(A5 h g).aggC hg.2
   rw [d,c]
   exact .here h.st (Za1 f l k) (.flat rfl)
  rw [Ai hg] at hob ⊢
  by_cases hn:Uw y=true
  ·rw [Ah hn] at hob ⊢
   obtain ⟨b,px,i,f⟩:=hob
   obtain ⟨d,_,_⟩:=(A5 h b).plain px
   have c:a.eval y = .nilIface:=by
    cases y with
    | const v=>cases v<;>first | rfl | cases hn
    | _=>cases hn
   rw [d,c]
   exact .here h.st (Za2 i hn f) (.flat rfl)
  rw [Ai hn] at hob ⊢
  by_cases hm:W7 y=true
  ·rw [Ah hm] at hob ⊢
   obtain ⟨b,i,hs,ho⟩:=hob
   have r:=A5 h b
   cases y with
   | const cv=>exact .here h.st (ZY (X:=x) r hm i hs ho) (.flat rfl)
   | _=>cases hm
  rw [Ai hm] at hob ⊢
  by_cases hw:wrapM op e=true
  ·rw [Ah hw] at hob ⊢
   obtain ⟨b,g,px,j⟩:=hob
   obtain ⟨p,m⟩:=S5 px
   obtain ⟨q,o⟩:=S5 j
   obtain ⟨d,_,_⟩:=(A5 h b).plain (by rw [m];rfl)
   obtain ⟨c,_,_⟩:=(A5 h g).plain (by rw [o];rfl)
   rw [d,c,m,o]
   exact .here h.st (ZG hw) (.flat rfl)
  rw [Ai hw] at hob ⊢
  obtain ⟨b,g,px,j,f⟩:=hob
  obtain ⟨d,_,_⟩:=(A5 h b).plain px
  obtain ⟨c,_,_⟩:=(A5 h g).plain j
  rw [d,c]
  exact .here h.st (XK f) (.flat (Z5 f))
theorem ZgO (h:Rel w0 n M e st a w) (op:UnOp) (t:TypeId) (x:Operand) (hob:(A6 P e true st (.unOp op t x)).1) :
  Yields' P w0 M st (.val (evUn op (HI (Az e x))).2) w (do pure (.value (<- Op.unary op (a.eval x)))):=by
 obtain ⟨c,px,b⟩:=hob
 obtain ⟨d,_,_⟩:=(A5 h c).plain px
 rw [d]
 exact .here h.st (Ze b) (.flat (Zbh b))
theorem Zlp {t:Bool} {u v:Value} {x y:AV} (hx:t=true->R w0 M w u x) (hy:t=false->R w0 M w v y):R w0 M w (if t then u else v) (AV.sel t x y):=by
 have a:AV.sel false x y=y:=by unfold AV.sel;split<;>rfl
 have b:AV.sel true x y=x:=by unfold AV.sel;split<;>rfl
 cases t
 ·rw [a];exact hy rfl
 ·rw [b];exact hx rfl
theorem ZhC (h:Rel w0 n M e st a w) (b x y:Operand) (hob:(A6 P e true st (.pick b x y)).1) :
  Yields' P w0 M st (AV.sel (JY (Az e b)) (Az e x) (Az e y)) w (do pure (.value (if <- asBool (a.eval b) then a.eval x else a.eval y))):=by
 obtain ⟨i,c,d,f⟩:=hob
 obtain ⟨g,_⟩:=(A5 h i).bool c
 refine LF h.st (v:=if JY (Az e b) then a.eval x else a.eval y) ?_ (Zlp (fun q=>A5 h (d rfl q)) (fun q=>A5 h (f rfl q)))
 rw [g]
 simp [asBool]
theorem QE {t:TypeId} {sz:Nat} {ag:Bool} (ht:GT P t=some (sz,ag)) {b o:Nat} {f:Nat->Value} (hc:∀ j,j<sz->w.cell? ⟨b,o+j,none⟩=some (f j)) (h1:ag=true\/sz=1) :
  (loadVar t ⟨b,o,none⟩).run P w = .ok (if ag then .agg ((List.range sz).map f).toArray else f 0) w:=by
 unfold loadVar
 rw [Sem.run_bind,TV ht]
 cases ag with
 | true =>
  simp only [Result.andThen_ok,if_true,Sem.run_bind,BW ht,run_loadCells w ⟨b,o,none⟩ sz f (fun j a=>by rw [EO];exact hc j a)]
  rfl
 | false =>
  have:sz=1:=by simpa using h1
  subst this
  have:=hc 0 (by omega)
  simp only [Nat.add_zero] at this
  simp [this]
theorem QF {cs:List AV} {f:Nat->Value} {o sz:Nat} {ag:Bool} (h1:∀ c∈cs,c.one=true) (ho:o+sz<=cs.length) (hs:ag=true\/sz=1)
  (hR:∀ j (hj:o+j<cs.length),R w0 M w (f j) cs[o+j]):R w0 M w (if ag then .agg ((List.range sz).map f).toArray else f 0) (PL ag cs o sz):=by
 unfold PL
 cases ag with
 | true =>
  simp only [if_true]
  refine .agg (by simp;omega) (fun x a=>h1 x (List.mem_of_mem_drop (List.mem_of_mem_take a))) (fun i a1 a2=>?_)
  simp only [List.getElem_take,List.getElem_drop,List.getElem_toArray,List.getElem_map,List.getElem_range]
  exact hR i (by simp at a1;omega)
 | false =>
  have:sz=1:=by simpa using hs
  subst this
  have:=hR 0 (by omega)
  simp only [Nat.add_zero] at this
  simpa [XG,List.getD,List.getElem?_eq_getElem (show o<cs.length by omega)] using this
theorem Zhb (h:Rel w0 n M e st a w) (t:TypeId) (x:Operand) (hob:(A6 P e true st (.load t x)).1) :
  Yields' P w0 M st (A6 P e true st (.load t x)).2.1 w (do pure (.value (<- Instr.loadAt t (a.eval x)))):=by
 unfold A6 at hob ⊢
 cases ht:GT P t with
 | none=>simp [ht] at hob
 | some p =>
  obtain ⟨sz,r⟩:=p
  simp only [ht] at hob ⊢
  obtain ⟨C,z,k,m⟩:=hob
  obtain ⟨b,o,ev,d,q⟩:=Ye h.st (A5 h C) z
  rw [ev]
  have g:∀ j,j<sz->∃ u,w.cell? ⟨b,o+EE (Az e x)+j,none⟩=some u/\∀ c,R w0 M w u ((Bi st (Az e x))[EE (Az e x)+j]'c):=by
   intro j c
   obtain ⟨u,D,y⟩:=q (EE (Az e x)+j) (by omega)
   exact ⟨u,by rw [<-D,Nat.add_assoc],fun _=>y⟩
  let f:Nat->Value:=fun j=>((w.cell? ⟨b,o+EE (Az e x)+j,none⟩).getD undef)
  have s:∀ j,j<sz->w.cell? ⟨b,o+EE (Az e x)+j,none⟩=some (f j):=fun j c=>by
   obtain ⟨u,i,_⟩:=g j c
   simp [f,i]
  refine .here h.st (v:=if r then .agg ((List.range sz).map f).toArray else f 0) ?_ (QF d k m (fun j c=>?_))
  ·simp only [Instr.loadAt,Instr.sureAddr,Sem.run_bind,Sem.run_pure,Result.andThen_ok]
   exact QE ht s m
  ·by_cases hjs:j<sz
   ·obtain ⟨u,i,l⟩:=g j hjs
    have:f j=u:=by simp [f,i]
    rw [this]
    exact l c
   ·obtain ⟨u,i,l⟩:=q (EE (Az e x)+j) c
    have:f j=u:=by simp [f,Nat.add_assoc,i]
    rw [this]
    exact l
theorem SE (hst:RelSt w0 M st w) {v:Value} {x:AV} (h:R w0 M w v x) (hr:Dv st x=true):∃ b o,v = .pointer (some ⟨b,o,none⟩)/\∀ k,R w0 M w (.pointer (some ⟨b,o+k,none⟩)) (Si x k):=by
 cases x with
 | box l off=>cases h with | box hl=>exact ⟨_,_,rfl,fun k => .box hl⟩
 | elem y k =>
  cases h with
  | @elem b off x u k hcell hu=>exact ⟨_,_,rfl,fun f=>by rw [Nat.add_assoc];exact .elem u (k+f) hcell hu⟩
 | vel id ver off =>
  cases h with
  | @vel _ _ _ a hi hv hh =>
   obtain ⟨sz,cs,c⟩:=SD (show (ED st.rows id ver).isSome=true from hr)
   have e:=(hst.row id _ (Fo c)).1
   have d:=hh e.symm
   exact ⟨M.blk id,off,by rw [d],fun k => .vel hi hv fun _=>rfl⟩
 | _=>cases hr
theorem XU (h:Rel w0 n M e st a w) (o:Oper) (x:Operand) (ho:o.op = .nilCheck x) (hob:(A6 P e true st (.nilCheck x)).1) :
  Yields' P w0 M st (Az e x) w (execOp a.eval o):=by
 obtain ⟨c,d⟩:=hob
 obtain ⟨b,o',ev,_⟩:=SE h.st (A5 h c) d
 refine LF h.st (v:=a.eval x) ?_ (A5 h c)
 simp only [execOp,ho,ev]
 rfl
theorem X9 (h:Rel w0 n M e st a w) (f:FuncId) (fi cap:Array Operand) (hob:(A6 P e true st (.makeFunc (.func f) fi cap)).1) :
  Yields' P w0 M (A6 P e true st (.makeFunc (.func f) fi cap)).2.2 (A6 P e true st (.makeFunc (.func f) fi cap)).2.1 w (do pure (.value (<- Instr.makeFunc (.func f) (fi.map a.eval) (cap.map a.eval)))):=by
 unfold A6 at hob ⊢
 by_cases h0:fi.size=0
 ·simp only [Ah h0] at hob ⊢
  refine .here h.st (v := .func (.func f) (fi.map a.eval) (cap.map a.eval)) rfl ?_
  have:fi.map a.eval = #[]:=by simp [Array.size_eq_zero_iff.1 h0]
  rw [this]
  refine .clo (by simp) (fun i b c=>?_)
  simp only [Array.getElem_map,List.getElem_map,Array.getElem_toList]
  exact A5 h (hob _ (by simp))
 ·simp only [Ai h0] at hob ⊢
  obtain ⟨g,d⟩:=hob
  refine .here h.st (v := .func (.func f) (fi.map a.eval) (cap.map a.eval)) rfl ?_
  have:cap.map a.eval = #[]:=by simp [Array.size_eq_zero_iff.1 g]
  rw [this]
  refine .bnd (by simp) (fun i b c=>?_)
  simp only [Array.getElem_map,List.getElem_map,Array.getElem_toList]
  exact A5 h (d _ (by simp))
theorem Xl (h:Rel w0 n M e st a w) (t:TypeId) (x:Operand) (f:Nat) (hob:(A6 P e true st (.fieldAddr t x f)).1) :
  Yields' P w0 M (A6 P e true st (.fieldAddr t x f)).2.2 (A6 P e true st (.fieldAddr t x f)).2.1 w (do pure (.value (<- Instr.fieldAt t (a.eval x) f))):=by
 unfold A6 at hob ⊢
 cases hf:Ba P t f with
 | none=>simp [hf] at hob
 | some p =>
  obtain ⟨o,sz,q⟩:=p
  simp only [hf] at hob ⊢
  obtain ⟨l,k,s⟩:=hob
  obtain ⟨r,y,j,m,i,d⟩:=Wm hf
  obtain ⟨b,o',ev,g⟩:=SE h.st (A5 h l) k
  refine .here h.st (v := .pointer (some ⟨b,o'+o,none⟩)) ?_ (g o)
  rw [ev]
  have c:¬ sz=0:=by omega
  simp [Instr.fieldAt,run_underlying j,m,Instr.sureAddr,fieldPlace,i,EO,BW d,c]
theorem VZ {t:TypeId} {sz:Nat} {ag:Bool} (ht:GT P t=some (sz,ag)) {cs:Array Value} {o:Nat} (ho:o+sz<=cs.size) (h1:ag=true\/sz=1) :
  (part t cs o).run P w = .ok (if ag then .agg ((List.range sz).map fun j=>cs.getD (o+j) undef).toArray else cs.getD o undef) w:=by
 unfold part
 rw [Sem.run_bind,TV ht]
 cases ag with
 | true =>
  simp only [Result.andThen_ok,if_true,Sem.run_bind,BW ht,Sem.run_pure]
  congr 2
  apply Array.ext
  ·simp;omega
  ·intro i h1 b
   simp at h1 b
   simp [show o+i<cs.size by omega]
 | false =>
  have:sz=1:=by simpa using h1
  subst this
  have a:o<cs.size:=by omega
  simp [a]
theorem R.agg_inv {v:Value} {x:AV} (h:R w0 M w v x) (ha:FZ x=true):∃ cs,v = .agg cs/\cs.size=x.cells.length/\(∀ y∈x.cells,y.one=true)/\∀ j (hj:j<x.cells.length),R w0 M w (cs.getD j undef) x.cells[j]:=by
 cases x with
 | agg xs =>
  cases h with
  | agg hl h1 hR =>
   rename_i cs
   refine ⟨cs,rfl,hl,h1,fun j hj=>?_⟩
   have a:j<cs.size:=by rw [hl];exact hj
   have e:cs.getD j undef=cs[j]:=by simp [a]
   rw [e]
   exact hR j a hj
 | _=>cases ha
theorem ZcX (h:Rel w0 n M e st a w) (t:TypeId) (x:Operand) (f:Nat) (hob:(A6 P e true st (.field t x f)).1) :
  Yields' P w0 M (A6 P e true st (.field t x f)).2.2 (A6 P e true st (.field t x f)).2.1 w (do pure (.value (<- Instr.field t (a.eval x) f))):=by
 unfold A6 at hob ⊢
 cases hf:Ba P t f with
 | none=>simp [hf] at hob
 | some p =>
  obtain ⟨o,sz,d⟩:=p
  simp only [hf] at hob ⊢
  obtain ⟨q,m,c,hs⟩:=hob
  obtain ⟨s,y,l,r,h3,k⟩:=Wm hf
  obtain ⟨cs,ev,u,b,i⟩:=(A5 h q).agg_inv m
  rw [ev]
  refine .here h.st (v:=if d then .agg ((List.range sz).map fun j=>cs.getD (o+j) undef).toArray else cs.getD o undef) ?_ (QF (f:=fun j=>cs.getD (o+j) undef) b c hs (fun j g=>i _ g))
  subst h3
  simp [Instr.field,run_underlying l,r,asAgg,VZ (w:=w) k (cs:=cs) (o:=y.offset) (by omega) hs]
theorem R.list_inv {v:Value} {x:AV} (h:R w0 M w v x) (hl:BK x=true) :
  (∃ a cap,v = .slice a (A0 x).length cap/\(a=none->A0 x=[]/\cap=0)/\(A0 x).length<=cap/\cap<=maxLen):=by
 cases x with
 | list xs o =>
  cases h with
  | nil ho=>exact ⟨none,0,rfl,fun _=>⟨rfl,rfl⟩,Nat.zero_le _,by simp [maxLen]⟩
  | emp ho=>exact ⟨_,0,rfl,fun e=>(by cases e),Nat.zero_le _,by simp [maxLen]⟩
  | list sz us hc hm hcell hu ho=>exact ⟨_,_,rfl,fun e=>(by cases e),hc,hm⟩
 | _=>cases hl
theorem R.list_elem {v:Value} {xs:List AV} {o:Own} (h:R w0 M w v (.list xs o)) {i:Nat} (hi:i<xs.length) {sz:Nat} (hsz:xs[i].cells.length=sz) :
  ∃ b off cap,v = .slice (some ⟨b,off,none⟩) xs.length cap/\R w0 M w (.pointer (some ⟨b,off+i*sz,none⟩)) (.elem xs[i] 0):=by
 cases h with
 | nil ho=>exact absurd hi (by simp)
 | emp ho=>exact absurd hi (by simp)
 | @list b off cap _ _ sz' us hc hm hcell hu ho =>
  obtain ⟨a,c⟩:=hcell i hi
  have e:sz'=sz:=by rw [<-a,(hu i hi).cells.1,hsz]
  subst e
  exact ⟨b,off,cap,rfl,.elem (us i) 0 (fun j d=>c j (by omega)) (hu i hi)⟩
theorem Ij {x:AV} (h:BK x=true):∃ xs o,x = .list xs o:=by
 cases x with
 | list xs o=>exact ⟨xs,o,rfl⟩
 | _=>cases h
theorem ZcM {l:List AV} {i:Nat} (h:i<l.length):XG l i=l[i]:=by simp [XG,List.getD,List.getElem?_eq_getElem h]
theorem Xp (h:Rel w0 n M e st a w) (t:TypeId) (x i:Operand) (hob:(A6 P e true st (.indexAddr t x i)).1) :
  Yields' P w0 M (A6 P e true st (.indexAddr t x i)).2.2 (A6 P e true st (.indexAddr t x i)).2.1 w (do pure (.value (<- Instr.indexAt t (a.eval x) (a.eval i)))):=by
 unfold A6 Uo at hob ⊢
 cases he:It P t with
 | some p =>
  obtain ⟨J,sz,U,Y⟩:=p
  simp only [he] at hob ⊢
  split at hob
  ·rename_i id ver o n' hx0
   cases hvr:ED st.rows id ver with
   | none=>simp [hvr] at hob
   | some p =>
    obtain ⟨F,cs⟩:=p
    simp only [hvr] at hob ⊢
    obtain ⟨g,y,c,s,z,rfl⟩:=hob
    obtain ⟨l,j,_,_,d⟩:=GM he
    obtain ⟨u,_⟩:=(A5 h y).int c
    have hR:=A5 h g
    rw [hx0] at hR
    generalize AX (Az e i)=m at *
    obtain ⟨k,rfl⟩:=Int.eq_ofNat_of_zero_le s
    have r:k<n':=by omega
    generalize hev:a.eval x=v at hR
    cases hR with
    | @vec _ _ _ _ p C hid hv hh =>
     obtain ⟨H,Z,_⟩:=h.st.row id _ (Fo hvr)
     obtain ⟨rfl,G,O⟩:=hh H.symm
     refine .here h.st (v := .pointer (some ⟨M.blk id,o*M.rsz id+k*F,none⟩)) ?_ ?_
     ·rw [u]
      simp [Instr.indexAt,asIntOf,run_underlying j,BW d,EO]
      omega
     ·refine .vel hid hv fun _=>?_
      rw [Z,Int.toNat_natCast,Nat.add_mul]
  rename_i hx0
  obtain ⟨g,y,K,c,s,z,f⟩:=hob
  obtain ⟨l,j,_,_,d⟩:=GM he
  obtain ⟨u,_⟩:=(A5 h y).int c
  have hR:=A5 h g
  obtain ⟨xs,o,D⟩:=Ij K
  rw [D] at hR z f ⊢
  simp only [A0] at z f ⊢
  generalize AX (Az e i)=m at *
  obtain ⟨k,rfl⟩:=Int.eq_ofNat_of_zero_le s
  have r:k<xs.length:=by omega
  simp only [Int.toNat_natCast] at f ⊢
  rw [ZcM r] at f ⊢
  obtain ⟨b,E,C,ev,N⟩:=hR.list_elem r f
  refine .here h.st (v := .pointer (some ⟨b,E+k*sz,none⟩)) ?_ N
  rw [ev,u]
  simp [Instr.indexAt,asIntOf,run_underlying j,BW d,EO]
  omega
 | none =>
  simp only [he] at hob ⊢
  cases ha:Dk P t with
  | none=>simp [ha] at hob
  | some p =>
   obtain ⟨m,sz,U⟩:=p
   simp only [ha] at hob ⊢
   obtain ⟨g,y,Q,c,s,z⟩:=hob
   obtain ⟨J,j,d⟩:=RI ha
   obtain ⟨u,_⟩:=(A5 h y).int c
   obtain ⟨b,o',ev,r⟩:=SE h.st (A5 h g) Q
   generalize AX (Az e i)=q at *
   obtain ⟨k,rfl⟩:=Int.eq_ofNat_of_zero_le s
   have V:k<m:=by omega
   refine .here h.st (v := .pointer (some ⟨b,o'+k*sz,none⟩)) ?_ (by simpa using r (k*sz))
   rw [ev,u]
   simp [Instr.indexAt,asIntOf,run_underlying j,BW d,Instr.sureAddr,EO]
   omega
theorem getElem?_get! (s:ByteArray) (k:Nat) (hk:k<s.size):s[k]? = some (s.get! k):=by
 rw [getElem?_pos s k hk]
 congr 1
 simp only [ByteArray.get!]
 have:k<s.data.size:=hk
 rw [getElem!_pos s.data k this]
 rfl
theorem Zdx (h:Rel w0 n M e st a w) (t:TypeId) (x i:Operand) (hob:(A6 P e true st (.index t x i)).1) :
  Yields' P w0 M (A6 P e true st (.index t x i)).2.2 (A6 P e true st (.index t x i)).2.1 w (do pure (.value (<- Instr.index t (a.eval x) (a.eval i)))):=by
 unfold A6 Uo at hob ⊢
 simp only at hob ⊢
 split at hob
 ·rename_i s hx0
  obtain ⟨hs,y,E,d,C,N⟩:=hob
  obtain ⟨D,_⟩:=(A5 h E).int d
  have o:=A5 h y
  rw [hx0] at o
  obtain ⟨ev,_⟩:=o.val_inv
  generalize AX (Az e i)=q at *
  obtain ⟨k,rfl⟩:=Int.eq_ofNat_of_zero_le C
  have z:k<s.size:=by omega
  refine .here h.st (v := .int .u8 (s.get! k).toNat) ?_ (.flat rfl)
  rw [ev,D]
  have H:s[k]? = some (s.get! k):=getElem?_get! s k z
  simp [Instr.index,asIntOf,run_underlying (Gs hs),H]
 ·rename_i cs hx0
  cases ha:Dk P t with
  | none=>simp [ha] at hob
  | some p =>
   obtain ⟨m,sz,J⟩:=p
   simp only [ha] at hob ⊢
   obtain ⟨y,E,d,C,N,G,hs⟩:=hob
   obtain ⟨O,F,u⟩:=RI ha
   obtain ⟨D,_⟩:=(A5 h E).int d
   have o:=A5 h y
   rw [hx0] at o
   obtain ⟨c,ev,r,b,l⟩:=o.agg_inv rfl
   simp only [AV.cells] at r b l
   generalize AX (Az e i)=q at *
   obtain ⟨k,rfl⟩:=Int.eq_ofNat_of_zero_le C
   have z:k<m:=by omega
   have g:k*sz+sz<=cs.length:=by rw [G,<-Nat.succ_mul];exact Nat.mul_le_mul_right _ z
   refine .here h.st (v:=if J then .agg ((List.range sz).map fun j=>c.getD (k*sz+j) undef).toArray else c.getD (k*sz) undef) ?_ ?_
   ·rw [ev,D]
    simp only [Instr.index,asIntOf,Sem.run_bind,Sem.run_pure,Result.andThen_ok,run_underlying F]
    rw [Ah ⟨by omega,by omega⟩]
    simp only [Sem.run_bind,BW u,Result.andThen_ok,Int.toNat_natCast]
    exact VZ u (by rw [r];exact g) hs
   ·simp only [Int.toNat_natCast]
    exact QF (f:=fun j=>c.getD (k*sz+j) undef) b g hs (fun j K=>l _ K)
 ·exact hob.elim
theorem Z6 (h:Rel w0 n M e st a w) (x:Operand) (i:Nat) (hob:(A6 P e true st (.extract x i)).1) :
  Yields' P w0 M (A6 P e true st (.extract x i)).2.2 (A6 P e true st (.extract x i)).2.1 w (do pure (.value (<- Instr.extract (a.eval x) i))):=by
 unfold A6 Uo at hob ⊢
 simp only at hob ⊢
 split at hob
 ·rename_i vs hx0
  obtain ⟨c,b⟩:=hob
  have hR:=A5 h c
  rw [hx0] at hR
  generalize a.eval x=v at hR ⊢
  cases hR with
  | tup hl hR =>
   rename_i cs
   rw [ZcM b]
   refine .here h.st (v:=cs[i]'(by omega)) ?_ (hR i (by omega) b)
   simp [Instr.extract,show i<cs.size by omega]
 ·exact hob.elim
theorem ZjX (h:Rel w0 n M e st a w) (x:Operand) (t ty:TypeId) (hx:AN e true x) (hob:(SQ P t (Az e x)).1) :
  Yields' P w0 M st (SQ P t (Az e x)).2 w (do pure (.value (<- Builtin.len_ #[t] ty #[a.eval x]))):=by
 have hR:=A5 h hx
 unfold SQ at hob ⊢
 split at hob
 ·rename_i s hx0
  rw [hx0] at hR
  obtain ⟨ev,_⟩:=hR.val_inv
  refine .here h.st (v := .int .i64 s.size) ?_ (.flat rfl)
  rw [ev]
  simp [Builtin.len_,run_underlying (Gs hob),goInt]
 ·rename_i xs o hx0
  rw [hx0] at hR
  obtain ⟨b,c,ev,_⟩:=hR.list_inv rfl
  simp only [A0] at ev
  obtain ⟨p,d⟩:=Option.isSome_iff_exists.1 hob
  obtain ⟨k,sz,j,g⟩:=p
  obtain ⟨i,f,_⟩:=GM d
  refine .here h.st (v := .int .i64 xs.length) ?_ (.flat rfl)
  rw [ev]
  simp [Builtin.len_,run_underlying f,goInt]
 ·rename_i id ver o n' hx0
  rw [hx0] at hR
  obtain ⟨p,d⟩:=Option.isSome_iff_exists.1 hob
  obtain ⟨k,sz,j,g⟩:=p
  obtain ⟨i,f,_⟩:=GM d
  generalize hev:a.eval x=v at hR
  cases hR with
  | @vec _ _ _ _ p c hid hv hh =>
   refine .here h.st (v := .int .i64 n') ?_ (.flat rfl)
   simp [Builtin.len_,run_underlying f,goInt]
 ·exact hob.elim
theorem EL {v:Value} {k:IntKind} {q:Nat} {y:Nat} {code:BoundsCode} (hv:v = .int k q) (h:q<=y) (w:World):(Instr.sliceBound v y code).run P w = .ok q w:=by
 subst hv
 simp [Instr.sliceBound,asIntOf]
 omega
theorem Qi (h:Rel w0 n M e st a w) (isl:Bool) (len cap:Nat) (hlc:len<=cap) {lo hi:Option Operand} (hlo:NW e true lo) (hhi:NW e true hi)
  {l u:Nat} (el:DC e 0 lo=l) (eu:DC e len hi=u) (h1:l<=u) (h2:u<=len) :
  (Instr.sliceBounds isl len cap (lo.map a.eval) (hi.map a.eval) none).run P w = .ok (l,u,cap) w:=by
 have H:∀ (y:Operand),(AN e true y/\Ey (Az e y)=true)->∃ k,a.eval y = .int k (AX (Az e y)):=fun y d=>⟨_,((A5 h d.1).int d.2).1⟩
 cases hi with
 | none =>
  simp only [DC] at eu
  have eu':u=len:=by omega
  subst eu'
  cases lo with
  | none =>
   simp only [DC] at el
   have el':l=0:=by omega
   subst el'
   simp [Instr.sliceBounds]
  | some y =>
   obtain ⟨k,b⟩:=H y hlo
   simp only [DC] at el
   rw [el] at b
   simp [Instr.sliceBounds,EL b h1]
 | some z =>
  obtain ⟨g,c⟩:=H z hhi
  simp only [DC] at eu
  rw [eu] at c
  have f:u<=cap:=by omega
  cases lo with
  | none =>
   simp only [DC] at el
   have el':l=0:=by omega
   subst el'
   simp [Instr.sliceBounds,EL c f]
  | some y =>
   obtain ⟨k,b⟩:=H y hlo
   simp only [DC] at el
   rw [el] at b
   simp [Instr.sliceBounds,EL c f,EL b h1]
theorem R.empty (b off cap:Nat) (hm:cap<=maxLen):R w0 M w (.slice (some ⟨b,off,none⟩) 0 cap) (.list [] .none) :=
 R.list (xs:=[]) 0 (fun _=>undef) (Nat.zero_le _) hm (fun i a=>absurd a (by simp)) (fun i a=>absurd a (by simp)) trivial
theorem R.sub {b off cap : Nat} {xs : List AV} {o : Own} (h : R w0 M w (.slice (some ⟨b, off, none⟩) xs.length cap) (.list xs o)) {l u sz : Nat} (hl : l ≤ u) (hu : u ≤ xs.length) (hsz : l = 0 ∨ ∀ y ∈ xs, y.cells.length = sz) (hne : cap ≠ l) :
    R w0 M w (.slice (some ⟨b, off + l * sz, none⟩) (u - l) (cap - l)) (.list ((xs.take u).drop l) .none) := by
  generalize hv : Value.slice (some ⟨b, off, none⟩) xs.length cap = v at h
  cases h with
  | nil ho => cases hv
  | emp ho => cases hv; simp at hu; subst hu; have : l = 0 := by omega
              subst this; exact absurd rfl hne
  | @list b' off' cap' _ _ sz' us hc hm hcell hus ho =>
    cases hv
    have hlen : ((xs.take u).drop l).length = u - l := by simp; omega
    rw [← hlen]
    have eo : ∀ i, i < u - l → off + l * sz + i * sz' = off + (l + i) * sz' := by
      intro i hi
      rcases hsz with rfl | hsz
      · simp
      · have e : sz' = sz := by
          have h1 : (us i).cells.size = sz' := (hcell i (by omega)).1
          rw [← h1, (hus i (by omega)).cells.1, hsz _ (List.getElem_mem _)]
        rw [e, Nat.add_mul]; omega
    refine .list sz' (fun i => us (l + i)) (by rw [hlen]; omega) (by omega) (fun i hi => ?_) (fun i hi => ?_) trivial
    · rw [hlen] at hi
      obtain ⟨h1, h2⟩ := hcell (l + i) (by omega)
      refine ⟨h1, fun j hj => ?_⟩
      rw [eo i hi]
      exact h2 j hj
    · rw [hlen] at hi
      simp only [List.getElem_drop, List.getElem_take]
      exact hus (l + i) (by omega)
theorem ZeB (h:Rel w0 n M e st a w) (t:TypeId) (x:Operand) (lo hi mx:Option Operand) (hob:(A6 P e true st (.slice t x lo hi mx)).1) :
  Yields' P w0 M (A6 P e true st (.slice t x lo hi mx)).2.2 (A6 P e true st (.slice t x lo hi mx)).2.1 w (do pure (.value (<- Instr.sliceAt t (a.eval x) (lo.map a.eval) (hi.map a.eval) (mx.map a.eval)))):=by
 unfold A6 at hob ⊢
 simp only at hob ⊢
 split at hob
 ·rename_i id ver o n' hx0
  cases hp:It P t with
  | none=>simp [hp] at hob
  | some p =>
  obtain ⟨el,sz,ag,aa⟩:=p
  cases hvr:ED st.rows id ver with
  | none=>simp [hp,hvr] at hob
  | some q =>
  obtain ⟨J,cs⟩:=q
  simp only [hp,hvr] at hob ⊢
  obtain ⟨G,j,l,hm,E,D,N,V,rfl⟩:=hob
  have hR:=A5 h G
  rw [hx0] at hR
  obtain ⟨i,O,_,_,u⟩:=GM hp
  cases mx with
  | some _=>cases hm
  | none =>
   obtain ⟨d,f⟩:=Int.eq_ofNat_of_zero_le E
   obtain ⟨C,g⟩:=Int.eq_ofNat_of_zero_le (Int.le_trans E D)
   rw [f,g] at D
   rw [g] at N
   rw [f] at V
   rw [f,g]
   simp only [Int.toNat_natCast]
   generalize hev:a.eval x=v at hR
   cases hR with
   | @vec _ _ _ _ p c hid hv hh =>
    obtain ⟨f1,f2,_⟩:=h.st.row id _ (Fo hvr)
    obtain ⟨rfl,af,ae⟩:=hh f1.symm
    have K:=Qi (P:=P) h true n' c ae j l f g (by omega) (by omega)
    refine .here h.st (v := .slice (if c=d then some ⟨M.blk id,o*M.rsz id,none⟩ else (some (⟨M.blk id,o*M.rsz id,none⟩:Addr)).map (·.add (d*J))) (C-d) (c-d)) ?_ ?_
    ·simp only [Instr.sliceAt,Instr.slice,Sem.run_bind,run_underlying O,Result.andThen_ok,Option.map_none,K,BW u,Sem.run_pure]
    ·refine .vec hid hv fun _=>⟨?_,by omega,by omega⟩
     by_cases hcl:c=d
     ·have:d=0:=by omega
      rw [Ah hcl,this];simp
     ·rw [Ai hcl]
      simp only [Option.map_some,EO]
      rw [f2,Nat.add_mul]
 ·rename_i s hx0
  obtain ⟨hs,G,j,l,hm,E,D,N⟩:=hob
  have hR:=A5 h G
  rw [hx0] at hR
  obtain ⟨ev,hf⟩:=hR.val_inv
  cases mx with
  | some _=>cases hm
  | none =>
   have K:=Qi (P:=P) h false s.size s.size (Nat.le_refl _) j l (Int.toNat_of_nonneg E).symm (Int.toNat_of_nonneg (Int.le_trans E D)).symm (by omega) (by omega)
   refine .here h.st (v := .string (s.extract (DC e 0 lo).toNat (DC e s.size hi).toNat)) ?_ (.flat ?_)
   ·rw [ev]
    simp only [Instr.sliceAt,Instr.slice,Sem.run_bind,run_underlying (Gs hs),Result.andThen_ok,Option.map_none,Option.isSome_none,Bool.false_eq_true,if_false,K,Sem.run_pure]
   ·simp only [I2,decide_eq_true_eq] at hf ⊢
    simp only [ByteArray.size_extract]
    omega
 ·rename_i xs o hx0
  cases hp:It P t with
  | none=>simp [hp] at hob
  | some p =>
   obtain ⟨el,sz,ag,aa⟩:=p
   simp only [hp] at hob ⊢
   cases mx with
   | some m =>
    simp only at hob ⊢
    obtain ⟨G,j,l,hm,E,D,N⟩:=hob
    have hR:=A5 h G
    rw [hx0] at hR
    obtain ⟨i,O,_,_,u⟩:=GM hp
    have H:∀ (y:Operand),(AN e true y/\Ey (Az e y)=true)->∃ k,a.eval y = .int k (AX (Az e y)):=fun y hy=>⟨_,((A5 h hy.1).int hy.2).1⟩
    cases hi with
    | none=>simp [DC] at D
    | some z =>
     obtain ⟨k2,kz⟩:=H z l
     obtain ⟨k3,km⟩:=H m hm
     simp only [DC] at D N
     rw [D] at kz
     rw [N] at km
     have K:∀ (ln c:Nat),ln<=c->(Instr.sliceBounds true ln c (lo.map a.eval) ((some z).map a.eval) ((some m).map a.eval)).run P w = .ok (0,0,0) w:=by
      intro ln c U
      have e1:=EL (P:=P) (k:=k3) (q:=0) (y:=c) (code := .slice3Acap) km (Nat.zero_le _) w
      have e2:=EL (P:=P) (k:=k2) (q:=0) (y:=0) (code := .slice3B) kz (Nat.zero_le _) w
      cases lo with
      | none=>simp [Instr.sliceBounds,e1,e2]
      | some y =>
       obtain ⟨k,ky⟩:=H y j
       simp only [DC] at E
       rw [E] at ky
       have e3:=EL (P:=P) (k:=k) (q:=0) (y:=0) (code := .slice3C) ky (Nat.zero_le _) w
       simp [Instr.sliceBounds,e1,e2,e3]
     obtain ⟨v,hv⟩:∃ v,a.eval x=v:=⟨_,rfl⟩
     rw [hv] at hR
     have fin:∀ (r:Option Addr) (ln c:Nat),ln<=c->v = .slice r ln c->R w0 M w (.slice r 0 0) (.list [] .full) ->
       Yields' P w0 M st (.list [] .full) w (do pure (.value (<- Instr.sliceAt t (a.eval x) (lo.map a.eval) (Option.map a.eval (some z)) (Option.map a.eval (some m))))):=by
      intro r ln c U e1 hr
      refine .here h.st ?_ hr
      rw [hv,e1]
      simp only [Instr.sliceAt,Instr.slice,Sem.run_bind,run_underlying O,Result.andThen_ok,K ln c U,BW u,Sem.run_pure]
      simp
     cases hR with
     | nil ho=>exact fin none 0 0 (Nat.le_refl _) rfl (by simpa using R.nil (fun id=>by simp))
     | @emp r _ ho=>exact fin (some r) 0 0 (Nat.le_refl _) rfl (.emp (fun id=>by simp))
     | @list b off c _ _ J us hc hm' hcell hu' ho =>
      exact fin _ _ c hc rfl (R.list (xs:=[]) 0 (fun _=>undef) (Nat.zero_le _) (Nat.zero_le _) (fun i hi=>absurd hi (by simp)) (fun i hi=>absurd hi (by simp)) rfl)
   | none =>
   obtain ⟨G,j,l,E,D,N,V⟩:=hob
   have hR:=A5 h G
   rw [hx0] at hR
   obtain ⟨i,O,_,_,u⟩:=GM hp
   ·obtain ⟨d,f⟩:=Int.eq_ofNat_of_zero_le E
    obtain ⟨C,g⟩:=Int.eq_ofNat_of_zero_le (Int.le_trans E D)
    rw [f,g] at D
    rw [g] at N
    rw [f] at V
    rw [f,g]
    have Q:d<=C:=by omega
    have F:C<=xs.length:=by omega
    simp only [Int.toNat_natCast]
    have ab:d=0\/∀ y∈xs,y.cells.length=sz:=V.imp (fun q=>by omega) id
    have go:∀ (r:Option Addr) (c:Nat),xs.length<=c->a.eval x = .slice r xs.length c ->
      R w0 M w (.slice (if c=d then r else r.map (·.add (d*sz))) (C-d) (c-d)) (.list ((xs.take C).drop d) .none) ->
      Yields' P w0 M st (.list ((xs.take C).drop d) .none) w (do pure (.value (<- Instr.sliceAt t (a.eval x) (lo.map a.eval) (hi.map a.eval) (Option.map a.eval none)))):=by
     intro r c Y ev hr
     have K:=Qi (P:=P) h true xs.length c Y j l f g Q F
     refine .here h.st ?_ hr
     rw [ev]
     simp only [Instr.sliceAt,Instr.slice,Sem.run_bind,run_underlying O,Result.andThen_ok,Option.map_none,K,BW u,Sem.run_pure]
    generalize hv:a.eval x=v at hR go
    have Z:=hR
    cases hR with
    | nil ho =>
     have e1:C=0:=by simpa using F
     have e2:d=0:=by omega
     subst e1;subst e2
     refine go none 0 (Nat.le_refl _) rfl ?_
     simpa using (R.nil (w0:=w0) (M:=M) (w:=w) (o := .none) (fun id=>by simp))
    | @emp r _ ho =>
     have e1:C=0:=by simpa using F
     have e2:d=0:=by omega
     subst e1;subst e2
     refine go (some r) 0 (Nat.le_refl _) rfl ?_
     simpa using (R.emp (w0:=w0) (M:=M) (w:=w) (a:=r) (o := .none) (fun id=>by simp))
    | @list b off c _ _ J us hc hm' hcell hu' ho =>
     refine go (some ⟨b,off,none⟩) c hc rfl ?_
     by_cases hcl:c=d
     ·have e1:C=d:=by omega
      have:(xs.take C).drop d=[]:=by rw [e1];simp
      rw [this,Ah hcl,e1,Nat.sub_self]
      exact R.empty _ _ _ (by omega)
     ·rw [Ai hcl]
      simp only [Option.map_some,EO]
      exact Z.sub Q F ab hcl
 ·exact hob.elim
theorem ZjJ (h:Rel w0 n M e st a w) (x y:Operand) (ts:Array TypeId) (t:TypeId) (hx:AN e true x) (hy:AN e true y) (ix:Ey (Az e x)=true) (iy:Ey (Az e y)=true) :
  Yields' P w0 M st (.val (.int (Ks (Az e x)) (if AX (Az e y)<AX (Az e x) then AX (Az e y) else AX (Az e x)))) w (do pure (.value (<- Builtin.min_ ts t #[a.eval x,a.eval y]))):=by
 rw [((A5 h hx).int ix).1,((A5 h hy).int iy).1]
 exact .here h.st (by simp [Builtin.min_,Builtin.min2]) (.flat rfl)
theorem ZjY (h:Rel w0 n M e st a w) (x y:Operand) (ts:Array TypeId) (t:TypeId) (hx:AN e true x) (hy:AN e true y) (ix:Ey (Az e x)=true) (iy:Ey (Az e y)=true) :
  Yields' P w0 M st (.val (.int (Ks (Az e x)) (if AX (Az e x)<AX (Az e y) then AX (Az e y) else AX (Az e x)))) w (do pure (.value (<- Builtin.max_ ts t #[a.eval x,a.eval y]))):=by
 rw [((A5 h hx).int ix).1,((A5 h hy).int iy).1]
 exact .here h.st (by simp [Builtin.max_,Builtin.max2]) (.flat rfl)
end
section
variable {P:Program} {w0:World} {n:Nat} {M:Mem} {e:Env} {st:St} {a:Act} {w:World}
theorem RelSt.box_lt (h:RelSt w0 M st w) {l:Nat} (hl:l<M.N):M.bx l<w.heap.size:=by
 have a:l<st.boxes.length:=by rw [<-h.N];exact hl
 obtain ⟨_,_,c,d,b,_⟩:=h.box l _ (List.getElem?_eq_getElem a)
 exact (Array.getElem?_eq_some_iff.1 b).1
theorem RelSt.row_lt (h:RelSt w0 M st w) {i:Nat} (hi:i<M.NR):M.blk i<w.heap.size:=by
 have a:i<st.rows.length:=by rw [<-h.NR];exact hi
 exact (h.row i _ (List.getElem?_eq_getElem a)).lt
theorem RelSt.base_le (h:RelSt w0 M st w):w0.heap.size<=w.heap.size:=h.below.size
theorem RelSt.drew (h:RelSt w0 M st w):RelSt w0 M st w.drew/\Ext w0 M w M w.drew :=
 have b:Ext w0 M w M w.drew:=⟨Nat.le_refl _,fun _ _=>rfl,Nat.le_refl _,fun _ _=>⟨Nat.le_refl _,fun _=>⟨rfl,rfl,rfl⟩⟩,fun _ _ _ e k=>⟨k,e⟩,Nat.le_refl _,Nat.le_refl _,fun _ _=>rfl,fun _ _ _=>by omega,fun _ _ h _ _=>h,fun _ _ h=>⟨rfl,h,rfl⟩⟩
 ⟨⟨h.below.drew,h.N,h.NR,h.top,h.inj,fun l cs j=>by
   obtain ⟨a1,a2,c,d,a3,a4,a5,a6⟩:=h.box l cs j
   exact ⟨a1,a2,c,d,a3,a4,a5,fun i f g=>(a6 i f g).mono b⟩,fun id x a=>(h.row id x a).keep b rfl rfl rfl rfl rfl (h.row id x a).ne rfl,h.rowinj,h.loop.mono b rfl fun _ _ h _=>h⟩,b⟩
def Mem.newTop (M:Mem) (b k:Nat):Mem:={ M with top:=fun x=>if x=b then k else M.top x }
theorem OZ (M':Mem) (o:Obj) (hN:M'.N=M.N\/M'.N=M.N+1) (hb:∀ l,l<M.N->M'.bx l=M.bx l) (hNR:M.NR<=M'.NR)
  (hr:∀ id,id<M.NR->M.fr id<=M'.fr id/\(M'.fr id=M.fr id->M'.blk id=M.blk id/\M'.cap id=M.cap id/\M'.rsz id=M.rsz id)) (ht:∀ b,b<w.heap.size->M'.top b=M.top b) (hf:∀ b,b<w.heap.size->M.foreign b->M'.foreign b) (hNL:M'.NL=M.NL:=by rfl) (hlb:M'.lb=M.lb:=by rfl) :
  Ext w0 M w M' (w.alloc o) :=
 ⟨by omega,hb,hNR,hr,fun b f v hi e=>by
  have a:=World.block_lt_of_cell? w _ e
  refine ⟨by rw [World.cell?_alloc_lt _ _ _ a];exact e,?_⟩
  rcases hi with hi | hi
  ·exact .inl hi
  ·exact .inr (by rw [ht b a];exact hi),by simp,by omega,fun _ _=>by rw [hlb],fun _ _ _=>by omega,fun b o' c d _=>KeepsObj.alloc w o b o' c d,fun b c d=>⟨Below.heap_alloc w o b c,hf b c d,ht b c⟩⟩
theorem A3 (w:World) (o:Obj) {k:Nat} (h:k<w.heap.size):(w.alloc o).heap[k]? = w.heap[k]? := Below.heap_alloc w o k h
theorem RelSt.newTop (h:RelSt w0 M st w) (cs:Array Value) (ty:TypeId) (k:Nat) :
  RelSt w0 (M.newTop w.heap.size k) st (w.alloc (.cells cs ty))/\Ext w0 M w (M.newTop w.heap.size k) (w.alloc (.cells cs ty)):=by
 have g:∀ b,b<w.heap.size->(M.newTop w.heap.size k).top b=M.top b:=fun b j=>by simp [Mem.newTop];omega
 have e:Ext w0 M w (M.newTop w.heap.size k) (w.alloc (.cells cs ty)) :=
  OZ _ _ (.inl rfl) (fun _ _=>rfl) (Nat.le_refl _) (fun _ _=>⟨Nat.le_refl _,fun _=>⟨rfl,rfl,rfl⟩⟩) g (fun _ _ h=>h)
 refine ⟨⟨h.below.alloc h.base_le _,h.N,h.NR,fun b j=>?_,h.inj,fun l c o=>?_,fun id x a=>(h.row id x a).keep e rfl rfl rfl rfl (g _ (h.row id x a).lt) (h.row id x a).ne (A3 _ _ (h.row id x a).lt),h.rowinj,h.loop.mono e rfl (KeepsObj.alloc _ _)⟩,e⟩
 ·simp at j
  have:(M.newTop w.heap.size k).top b=M.top b:=by simp [Mem.newTop];omega
  rw [this]
  exact h.top b (by omega)
 ·obtain ⟨a1,a2,p,f,a3,a4,a5,a6⟩:=h.box l c o
  have d:=(Array.getElem?_eq_some_iff.1 a3).1
  exact ⟨a1,by rw [show (M.newTop w.heap.size k).bx l=M.bx l from rfl,g _ d];exact a2,p,f,by rw [show (M.newTop w.heap.size k).bx l=M.bx l from rfl,A3 _ _ d];exact a3,a4,a5,fun i m n=>(a6 i m n).mono e⟩
theorem RelSt.later (h:RelSt w0 M st w) {w':World} (hb:Below w.heap.size w w') (b k:Nat) (hw:w.heap.size<=b) (hk:b<w'.heap.size\/k=0) :
  RelSt w0 (M.newTop b k) st w'/\Ext w0 M w (M.newTop b k) w':=by
 have p:∀ x,x<w.heap.size->(M.newTop b k).top x=M.top x:=fun x m=>by simp [Mem.newTop];omega
 have n:∀ x,x<w.heap.size->w'.heap[x]? = w.heap[x]? := hb.block
 have j:KeepsObj w w':=fun x o d _=>(n x (Array.getElem?_eq_some_iff.1 d).1).trans d
 have m:Ext w0 M w (M.newTop b k) w' :=
  ⟨Nat.le_refl _,fun _ _=>rfl,Nat.le_refl _,fun _ _=>⟨Nat.le_refl _,fun _=>⟨rfl,rfl,rfl⟩⟩,fun x t v y r=>by
   have a:=World.block_lt_of_cell? w _ r
   refine ⟨?_,y.imp id fun q=>by rw [p x a];exact q⟩
   unfold World.cell? at r ⊢
   simp only [n x a] at r ⊢
   exact r,hb.size,Nat.le_refl _,fun _ _=>rfl,fun _ d g=>absurd g (Nat.not_lt.2 d),fun x o d g _=>j x o d g,fun x d g=>⟨n x d,g,p x d⟩⟩
 refine ⟨⟨h.below.trans (hb.mono h.base_le),h.N,h.NR,fun x u=>?_,h.inj,fun l c z=>?_,fun id x f=>(h.row id x f).keep m rfl rfl rfl rfl (p _ (h.row id x f).lt) (h.row id x f).ne (n _ (h.row id x f).lt),h.rowinj,h.loop.mono m rfl j⟩,m⟩
 ·have:=hb.size
  by_cases c:x=b
  ·have e:(M.newTop b k).top x=k:=by simp [Mem.newTop,c]
   rw [e]
   rcases hk with hk | hk
   ·omega
   ·exact hk
  ·have e:(M.newTop b k).top x=M.top x:=by simp [Mem.newTop,c]
   rw [e]
   exact h.top x (by omega)
 ·obtain ⟨a1,a2,C,s,a3,a4,a5,a6⟩:=h.box l c z
  have a:=(Array.getElem?_eq_some_iff.1 a3).1
  exact ⟨a1,by rw [show (M.newTop b k).bx l=M.bx l from rfl,p _ a];exact a2,C,s,by rw [show (M.newTop b k).bx l=M.bx l from rfl,n _ a];exact a3,a4,a5,fun i d g=>(a6 i d g).mono m⟩
def Mem.newBox (M:Mem) (b:Nat):Mem:={ M with N:=M.N+1,bx:=fun l=>if l=M.N then b else M.bx l }
theorem RelSt.newBox (h:RelSt w0 M st w) (v:Value) (x:AV) (ty:TypeId) (hR:R w0 M w v x) (hn:AP x=true) :
  RelSt w0 (M.newBox w.heap.size) { st with boxes:=st.boxes++[x.cells] } (w.alloc (.cells v.cells ty))/\Ext w0 M w (M.newBox w.heap.size) (w.alloc (.cells v.cells ty)) /\
   R w0 (M.newBox w.heap.size) (w.alloc (.cells v.cells ty)) (.pointer (some ⟨w.heap.size,0,none⟩)) (.box st.boxes.length 0):=by
 have a:∀ l,l<M.N->(M.newBox w.heap.size).bx l=M.bx l:=fun l hl=>by simp [Mem.newBox];omega
 have hnew:(M.newBox w.heap.size).bx M.N=w.heap.size:=by simp [Mem.newBox]
 have k:Ext w0 M w (M.newBox w.heap.size) (w.alloc (.cells v.cells ty)) :=
  OZ _ _ (.inr rfl) a (Nat.le_refl _) (fun _ _=>⟨Nat.le_refl _,fun _=>⟨rfl,rfl,rfl⟩⟩) (fun _ _=>rfl) (fun b p q=>⟨fun l hl=>by
   by_cases c:l=M.N
   ·subst c;rw [hnew];omega
   ·rw [a l (by simp only [Mem.newBox] at hl;omega)];exact q.1 l (by simp only [Mem.newBox] at hl;omega),q.2⟩)
 have o:=hR.mono k
 refine ⟨⟨h.below.alloc h.base_le _,by simp [Mem.newBox,h.N],h.NR,fun b p=>h.top b (by simp at p;omega),fun l j hl d e=>?_,fun l c hl=>?_,fun id x g=>?_,h.rowinj,h.loop.mono k rfl (KeepsObj.alloc _ _)⟩,k,?_⟩
 ·have n:(M.newBox w.heap.size).N=M.N+1:=rfl
  rw [n] at hl d
  by_cases e1:l=M.N
  ·by_cases e2:j=M.N
   ·omega
   ·subst e1
    rw [hnew,a j (by omega)] at e
    have:=h.box_lt (l:=j) (by omega)
    omega
  ·by_cases e2:j=M.N
   ·subst e2
    rw [hnew,a l (by omega)] at e
    have:=h.box_lt (l:=l) (by omega)
    omega
   ·rw [a l (by omega),a j (by omega)] at e
    exact h.inj l j (by omega) (by omega) e
 ·by_cases e1:l=M.N
  ·subst e1
   simp only [h.N,List.getElem?_concat_length,Option.some.injEq] at hl
   subst hl
   rw [hnew]
   obtain ⟨hs,hc⟩:=o.cells
   refine ⟨h.base_le,h.top _ (Nat.le_refl _),v.cells,ty,heap_alloc_new w _,hs,hR.cellsOne (fun vs e=>by subst e;cases hn),hc⟩
  ·have d:l<M.N:=by
    have:l<(st.boxes++[x.cells]).length:=(Aj.1 hl).1
    have n:=h.N
    simp at this
    omega
   rw [List.getElem?_append_left (by rw [<-h.N];exact d)] at hl
   obtain ⟨a1,a2,t,m,a3,a4,a5,a6⟩:=h.box l c hl
   have f:=(Array.getElem?_eq_some_iff.1 a3).1
   rw [a l d]
   exact ⟨a1,a2,t,m,by rw [A3 _ _ f];exact a3,a4,a5,fun i r s=>(a6 i r s).mono k⟩
 ·have f:=(h.row id x g).lt
  refine (h.row id x g).keep k rfl rfl rfl rfl rfl (fun l hl=>?_) (A3 _ _ f)
  by_cases e1:l=M.N
  ·subst e1
   rw [hnew]
   show w.heap.size≠M.blk id
   omega
  ·have n:(M.newBox w.heap.size).N=M.N+1:=rfl
   rw [a l (by omega)]
   exact (h.row id x g).ne l (by omega)
 ·have:=R.box (w0:=w0) (M:=M.newBox w.heap.size) (w:=w.alloc (.cells v.cells ty)) (l:=st.boxes.length) (off:=0) (by rw [<-h.N];exact Nat.lt_succ_self _)
  rwa [<-h.N,hnew,h.N] at this
theorem ER {t:TypeId} {z:List AV} (h:Bn P t=some z):∃ i v,P.info? t=some i/\i.zero=some v/\OY v=true/\v.cells.size=i.size/\z=(I3 v).cells:=by
 unfold Bn at h
 split at h
 ·rename_i i hi
  split at h
  ·rename_i v hv
   split at h
   ·rename_i hc
    simp only [Bool.and_eq_true,beq_iff_eq] at hc
    exact ⟨i,v,hi,hv,hc.1,hc.2,(Option.some.inj h).symm⟩
   ·cases h
  ·cases h
 ·cases h
theorem J4 {v:Value} (h:OY v=true):AP (I3 v)=true:=by
 have hc:∀ u,AP (Nc u)=true:=fun u=>by unfold Nc;split<;>rfl
 cases v<;>first | rfl | exact hc _
theorem Zd1 (h:Rel w0 n M e st a w) (t:TypeId) (hob:(A6 P e true st (.alloc t)).1) :
  Yields' P w0 M (A6 P e true st (.alloc t)).2.2 (A6 P e true st (.alloc t)).2.1 w (do pure (.value (<- Instr.alloc t true (.tuple #[])))):=by
 unfold A6 at hob ⊢
 cases hz:Bn P t with
 | none=>simp [hz] at hob
 | some z =>
  simp only [hz]
  obtain ⟨i,v,d,hv,b,hs,rfl⟩:=ER hz
  obtain ⟨f,g,c⟩:=h.st.newBox v (I3 v) t (NK b) (J4 b)
  refine .value ⟨_,_,_,?_,g,f,c⟩
  simp [Instr.alloc,zeroValue,typeInfo,d,hv,newVar,newRow]
theorem ZiN (h:Rel w0 n M e st a w) (t:TypeId) (x:Operand) (hob:(A6 P e true st (.box t x)).1) :
  Yields' P w0 M (A6 P e true st (.box t x)).2.2 (A6 P e true st (.box t x)).2.1 w (do pure (.value (<- Instr.box t (a.eval x)))):=by
 obtain ⟨_,f,b⟩:=hob
 obtain ⟨d,g,c⟩:=h.st.newBox (a.eval x) (Az e x) t (A5 h f) b
 refine .value ⟨_,_,_,?_,g,d,c⟩
 simp [Instr.box,newVar,newRow]
theorem Wl (vs:List Value):∀ (k:Nat) (cs:Array Value) (off:Nat),off+k+vs.length<=cs.size ->
  ((vs.zipIdx k).foldl (fun cs (x:Value × Nat)=>cs.setIfInBounds (off+x.2) x.1) cs).size=cs.size /\
  ∀ j,((vs.zipIdx k).foldl (fun cs (x:Value × Nat)=>cs.setIfInBounds (off+x.2) x.1) cs)[j]? = if off+k<=j/\j<off+k+vs.length then vs[j-(off+k)]? else cs[j]? := by
 induction vs with
 | nil=>intro k cs off h;exact ⟨rfl,fun j=>by simp;omega⟩
 | cons v vs ih =>
  intro k cs off h
  simp only [List.length_cons] at h
  simp only [List.zipIdx_cons,List.foldl_cons,List.length_cons]
  obtain ⟨b,c⟩:=ih (k+1) (cs.setIfInBounds (off+k) v) off (by simp;omega)
  refine ⟨by rw [b];simp,fun j=>?_⟩
  rw [c j]
  by_cases c1:off+(k+1)<=j/\j<off+(k+1)+vs.length
  ·rw [Ah c1,Ab,show j-(off+k)=(j-(off+(k+1)))+1 from by omega]
   simp
  ·rw [Ai c1]
   by_cases c2:j=off+k
   ·subst c2
    have a:off+k<cs.size:=by omega
    rw [Ab]
    simp [a]
   ·rw [Aa,Array.getElem?_setIfInBounds_ne (by omega)]
theorem Me {l xs:List AV} {off:Nat} (h:off+xs.length<=l.length):(Bt l off xs).length=l.length:=by
 simp [Bt];omega
theorem Z0 {l xs:List AV} {off:Nat} (h:off+xs.length<=l.length) (j:Nat):(Bt l off xs)[j]? = if off<=j/\j<off+xs.length then xs[j-off]? else l[j]? := by
 unfold Bt
 rw [List.append_assoc,List.getElem?_append]
 simp only [List.length_take]
 have e:min off l.length=off:=by omega
 rw [e]
 by_cases c1:j<off
 ·rw [Ah c1,Aa,List.getElem?_take,Ah c1]
 ·rw [Ai c1,List.getElem?_append]
  by_cases c2:j-off<xs.length
  ·rw [Ah c2,Ab]
  ·rw [Ai c2,Aa,List.getElem?_drop]
   congr 1
   omega
theorem Qj {l xs:List AV} {off:Nat} (h1:∀ x∈l,x.one=true) (h2:∀ x∈xs,x.one=true):∀ x∈Bt l off xs,x.one=true:=by
 intro x hx
 simp only [Bt,List.mem_append] at hx
 rcases hx with (hx | hx) | hx
 ·exact h1 x (List.mem_of_mem_take hx)
 ·exact h2 x hx
 ·exact h1 x (List.mem_of_mem_drop hx)
def RowR (w0:World) (M:Mem) (w:World) (cs:Array Value) (l:List AV):Prop:=cs.size=l.length/\∀ i (h1:i<cs.size) (h2:i<l.length),R w0 M w cs[i] l[i]
theorem RowR.get {cs:Array Value} {l:List AV} (h:RowR w0 M w cs l) {i:Nat} {v:Value} {x:AV} (hv:cs[i]? = some v) (hx:l[i]? = some x):R w0 M w v x:=by
 obtain ⟨a1,rfl⟩:=Array.getElem?_eq_some_iff.1 hv
 obtain ⟨a2,rfl⟩:=Aj.1 hx
 exact h.2 i a1 a2
theorem RowR.mk {cs:Array Value} {l:List AV} (hs:cs.size=l.length) (h:∀ (i:Nat) (v:Value) (x:AV),cs[i]? = some v->l[i]? = some x->R w0 M w v x):RowR w0 M w cs l :=
 ⟨hs,fun i a b=>h i _ _ (Array.getElem?_eq_getElem a) (List.getElem?_eq_getElem b)⟩
theorem RowR.put {cs cs':Array Value} {l:List AV} (h:RowR w0 M w cs l) {v:Value} {x:AV} (hR:R w0 M w v x) {off:Nat} (hoff:off+x.cells.length<=l.length) (hs:cs'.size=cs.size)
  (hg:∀ j,cs'[j]? = if off<=j/\j<off+v.cells.toList.length then v.cells.toList[j-off]? else cs[j]?):RowR w0 M w cs' (Bt l off x.cells):=by
 obtain ⟨d,e⟩:=hR.cells
 refine .mk (by rw [hs,Me hoff];exact h.1) (fun i u y a b=>?_)
 rw [hg i] at a
 rw [Z0 hoff] at b
 simp only [Array.length_toList] at a
 rw [<-d] at b
 by_cases c:off<=i/\i<off+v.cells.size
 ·rw [Ah c] at a b
  rw [Array.getElem?_toList] at a
  exact RowR.get ⟨d,e⟩ a b
 ·rw [Ai c] at a b
  exact h.get a b
theorem WC (t:TypeId) (pl:Nat->Option (Nat × Nat)) (hpl:∀ i o s,J1 P t i=some (o,s)->pl i=some (o,s)) :
  ∀ (vs:List (Nat × Value)) (xs:List (Nat × AV)) (cs:Array Value) (l:List AV),vs.length=xs.length->(∀ (k:Nat) (p:Nat × Value) (q:Nat × AV),vs[k]? = some p->xs[k]? = some q->p.1=q.1/\R w0 M w p.2 q.2/\AP q.2=true) ->
   RowR w0 M w cs l->(∀ y∈l,y.one=true)->OA P t l.length xs->∃ cs',Instr.fill pl cs vs=some cs'/\RowR w0 M w cs' (QS P t l xs)/\(∀ y∈QS P t l xs,y.one=true)
 | [],[],cs,l,_,_,h,h1,_=>⟨cs,rfl,h,h1⟩
 | [],_::_,_,_,hl,_,_,_,_=>by cases hl
 | _::_,[],_,_,hl,_,_,_,_=>by cases hl
 | (i,v)::vs,(i',x)::xs,cs,l,hl,hp,h,h1,hf=>by
  obtain ⟨rfl,g,hn⟩:=hp 0 _ _ rfl rfl
  simp only at g hn
  simp only [OA] at hf
  obtain ⟨d,m⟩:=hf
  simp only [Instr.fill,QS]
  cases hpp:J1 P t i with
  | none=>simp [hpp] at d
  | some p =>
   obtain ⟨o,s⟩:=p
   simp only [hpp] at d ⊢
   obtain ⟨a1,a2⟩:=d
   obtain ⟨C,z⟩:=g.cells
   rw [hpl i o s hpp]
   have u:(decide (v.cells.size≠s)||decide (o+v.cells.size > cs.size))=false:=by have:=h.1;simp;omega
   simp only [u,Bool.false_eq_true,if_false]
   have a:=Wl v.cells.toList 0 cs o (by simp;have:=h.1;omega)
   have b:(v.cells.zipIdx.foldl (fun cs (c,j)=>cs.setIfInBounds (o+j) c) cs)=(v.cells.toList.zipIdx 0).foldl (fun cs (x:Value × Nat)=>cs.setIfInBounds (o+x.2) x.1) cs:=by
    rw [<-Array.foldl_toList]
    simp
   rw [b]
   simp only [Nat.add_zero] at a
   have f:=h.put g (off:=o) (by omega) a.1 a.2
   refine WC t pl hpl vs xs _ _ (by simpa using hl) (fun k p q n r=>hp (k+1) p q (by simpa using n) (by simpa using r)) f (Qj h1 (g.cellsOne (fun vs e=>by subst e;cases hn))) ?_
   rw [Me (by omega)]
   exact m
theorem Yx {α β:Type} (f:α->Sem β) (g:α->β):∀ (l:List α),(∀ x∈l,∀ w,(f x).run P w = .ok (g x) w)->∀ w,(l.mapM f).run P w = .ok (l.map g) w
 | [],_,w=>by simp
 | x::l,h,w=>by simp [h x (by simp),Yx f g l (fun y a=>h y (by simp [a])) w]
theorem ZaZ {α β:Type} (f:α->Sem β) (g:α->β) (xs:Array α) (h:∀ x∈xs.toList,∀ w,(f x).run P w = .ok (g x) w) (w:World):(xs.mapM f).run P w = .ok (xs.map g) w:=by
 rw [Array.mapM_eq_mapM_toList]
 simp only [Sem.run_map,Yx f g xs.toList h w,Result.andThen_ok]
 congr 1
 apply Array.ext'
 simp
theorem PN:∀ (fs:List Field) (l:List (Nat × Nat)),Qy P fs=some l ->
  l=fs.map (fun f=>(f.offset,P.cellsOf f.type))/\∀ f∈fs,∀ w,(sizeOf f.type).run P w = .ok (P.cellsOf f.type) w
 | [],l,h=>by cases h;exact ⟨rfl,fun f hf=>by cases hf⟩
 | f::fs,l,h=>by
  simp only [Qy] at h
  split at h
  ·rename_i i r hi hr
   cases h
   obtain ⟨c,b⟩:=PN fs r hr
   have a:P.cellsOf f.type=i.size:=by simp [Program.cellsOf,hi]
   refine ⟨by simp [a,<-c],fun g hg w=>?_⟩
   rcases List.mem_cons.1 hg with rfl | hg
   ·simp [sizeOf,typeInfo,hi,a]
   ·exact b g hg w
  ·cases h
theorem Zc4 (h:Rel w0 n M e st a w) (t:TypeId) (ps:Array (Nat × Operand)) (hob:(A6 P e true st (.build t ps)).1) :
  Yields' P w0 M (A6 P e true st (.build t ps)).2.2 (A6 P e true st (.build t ps)).2.1 w (do pure (.value (<- Instr.build t (ps.map fun (i,x)=>(i,a.eval x))))):=by
 unfold A6 at hob ⊢
 cases hz:Bn P t with
 | none=>simp [hz] at hob
 | some z =>
  simp only [hz] at hob ⊢
  obtain ⟨G,y,E⟩:=hob
  obtain ⟨i,v,V,hv,U,hs,rfl⟩:=ER hz
  have u:R w0 M w v (I3 v):=NK U
  have c:RowR w0 M w v.cells (I3 v).cells:=u.cells
  have d:=u.cellsOne (fun vs e=>by have:=J4 U;rw [e] at this;cases this)
  have j:∀ (k:Nat) (p:Nat × Value) (q:Nat × AV),((ps.map fun (i,x)=>(i,a.eval x)).toList)[k]? = some p->(ps.toList.map fun p=>(p.1,Az e p.2))[k]? = some q->p.1=q.1/\R w0 M w p.2 q.2/\AP q.2=true:=by
   intro k p q g O
   simp only [Array.toList_map,List.getElem?_map,Option.map_eq_some_iff] at g O
   obtain ⟨N,Q,rfl⟩:=g
   obtain ⟨q0,h2,rfl⟩:=O
   rw [Q] at h2
   cases h2
   have D:N∈ps.toList:=List.mem_of_getElem? Q
   exact ⟨rfl,A5 h (y N D).1,(y N D).2⟩
  have r:((ps.map fun (i,x)=>(i,a.eval x)).toList).length=(ps.toList.map fun p=>(p.1,Az e p.2)).length:=by simp
  cases hpp:BD P t with
  | some l =>
   unfold BD at hpp
   split at hpp
   ·rename_i fs hu
    obtain ⟨Y,Z⟩:=PN _ _ hpp
    have b:∀ i o s,J1 P t i=some (o,s)->((fs.map fun f=>(f.offset,P.cellsOf f.type))[·]?) i=some (o,s):=by
     intro i o s g
     simp only [J1,BD,hu,hpp] at g
     rw [Y] at g
     simpa using g
    obtain ⟨cs',F,C,H⟩:=WC t _ b _ _ v.cells _ r j c d E
    refine .here h.st (v := .agg cs') ?_ (.agg C.1 H C.2)
    have D:=ZaZ (P:=P) (fun (f:Field)=>(do pure (f.offset,<-sizeOf f.type):Sem (Nat × Nat))) (fun f=>(f.offset,P.cellsOf f.type)) fs (fun f E w=>by simp [Z f E]) w
    simp only [Instr.build,zeroValue,typeInfo,Sem.run_bind,run_program,Result.andThen_ok,V,hv,Sem.run_pure,run_underlying hu,D,F]
   ·cases hpp
  | none =>
   cases ha:Dk P t with
   | none=>simp [hpp,ha] at G
   | some p =>
    obtain ⟨m,s,ag⟩:=p
    obtain ⟨el,hu,K⟩:=RI ha
    have b:∀ i o J,J1 P t i=some (o,J)->(fun i=>some (i*s,s)) i=some (o,J):=by
     intro i o J g
     simpa [J1,hpp,ha] using g
    obtain ⟨cs',F,C,H⟩:=WC t _ b _ _ v.cells _ r j c d E
    refine .here h.st (v := .agg cs') ?_ (.agg C.1 H C.2)
    simp only [Instr.build,zeroValue,typeInfo,Sem.run_bind,run_program,Result.andThen_ok,V,hv,Sem.run_pure,run_underlying hu,BW K,F]
theorem UY (sz:Nat):∀ (vals:List Value) (k:Nat) (cs:Array Value),(∀ v∈vals,v.cells.size=sz)->(k+vals.length)*sz<=cs.size ->
  ∃ cs',Instr.fill (fun i=>some (i*sz,sz)) cs ((vals.zipIdx k).map fun x=>(x.2,x.1))=some cs'/\cs'.size=cs.size/\(∀ j,j<k*sz->cs'[j]? = cs[j]?) /\
   ∀ i v,vals[i]? = some v->∀ j,j<sz->cs'[(k+i)*sz+j]? = v.cells[j]?
 | [],k,cs,_,_=>⟨cs,rfl,rfl,fun _ _=>rfl,fun i v h=>by simp at h⟩
 | v::vals,k,cs,hv,hl=>by
  have f:=hv v (by simp)
  simp only [List.length_cons] at hl
  have d:(k+1)*sz<=cs.size:=Nat.le_trans (Nat.mul_le_mul_right _ (by omega)) hl
  rw [Nat.succ_mul] at d
  simp only [List.zipIdx_cons,List.map_cons,Instr.fill]
  have g:(decide (v.cells.size≠sz)||decide (k*sz+v.cells.size > cs.size))=false:=by simp;omega
  simp only [g,Bool.false_eq_true,if_false]
  have b:(v.cells.zipIdx.foldl (fun cs (c,j)=>cs.setIfInBounds (k*sz+j) c) cs)=(v.cells.toList.zipIdx 0).foldl (fun cs (x:Value × Nat)=>cs.setIfInBounds (k*sz+x.2) x.1) cs:=by
   rw [<-Array.foldl_toList]
   simp
  have a:=Wl v.cells.toList 0 cs (k*sz) (by simp;omega)
  rw [b]
  simp only [Nat.add_zero,Array.length_toList,f] at a
  obtain ⟨cs',a1,a2,a3,a4⟩:=UY sz vals (k+1) ((v.cells.toList.zipIdx 0).foldl (fun cs (x:Value × Nat)=>cs.setIfInBounds (k*sz+x.2) x.1) cs) (fun u hu=>hv u (by simp [hu])) (by rw [a.1];rw [show k+1+vals.length=k+(vals.length+1) from by omega];exact hl)
  refine ⟨cs',a1,by rw [a2,a.1],fun j e=>?_,fun i u hu j e=>?_⟩
  ·rw [a3 j (by rw [Nat.succ_mul];omega),a.2 j,Aa]
  ·cases i with
   | zero =>
    simp only [List.getElem?_cons_zero,Option.some.injEq] at hu
    subst hu
    simp only [Nat.add_zero]
    rw [a3 _ (by rw [Nat.succ_mul];omega),a.2,Ab,Array.getElem?_toList]
    congr 1
    omega
   | succ i =>
    have:=a4 i u (by simpa using hu) j e
    rw [<-this,show k+(i+1)=k+1+i from by omega]
theorem V6 {ps:List (Nat × Operand)} {m:Nat} (h:ps.map (·.1)=List.range m) (f:Operand->Value) :
  (ps.map fun p=>(p.1,f p.2))=((ps.map fun p=>f p.2).zipIdx 0).map fun x=>(x.2,x.1):=by
 have a:ps.length=m:=by simpa using congrArg List.length h
 apply List.ext_getElem?
 intro i
 simp only [List.getElem?_map,List.getElem?_zipIdx]
 cases hp:ps[i]? with
 | none=>simp
 | some p =>
  have b:i<m:=by rw [<-a];exact (Aj.1 hp).1
  have:=congrArg (·[i]?) h
  simp [hp,b] at this
  simp [this]
theorem R.row {cs:Array Value} {ty:TypeId} {xs:List AV} {sz k:Nat} (us:Nat->Value) (hu:∀ i (hi:i<xs.length),(us i).cells.size=sz/\R w0 M w (us i) xs[i])
  (hc:∀ i,i<xs.length->∀ j,j<sz->cs[i*sz+j]? = (us i).cells[j]?) {cap:Nat} (hcap:xs.length<=cap) (hm:cap<=maxLen) {o:Own} (hk:xs.length*sz<=k) (M':Mem) (hM:M'.top w.heap.size=k)
  (hx:Ext w0 M w M' (w.alloc (.cells cs ty))) (ho:ZaD M' w.heap.size 0 cap xs.length sz o) :
  R w0 M' (w.alloc (.cells cs ty)) (.slice (some ⟨w.heap.size,0,none⟩) xs.length cap) (.list xs o):=by
 refine .list sz us hcap hm (fun i hi=>⟨(hu i hi).1,fun j a=>⟨.inr ?_,?_⟩⟩) (fun i hi=>((hu i hi).2).mono hx) ho
 ·rw [hM]
  have:(i+1)*sz<=xs.length*sz:=Nat.mul_le_mul_right _ hi
  rw [Nat.succ_mul] at this
  omega
 ·rw [Nat.zero_add,World.cell?_alloc_new]
  exact hc i hi j a
theorem VN (h:Rel w0 n M e st a w) (t:TypeId) (m:Nat) (ps:Array (Nat × Operand)) (hmk:II e t=false) (hob:(A6 P e true st (.buildSlice t m ps)).1) :
  Yields' P w0 M (A6 P e true st (.buildSlice t m ps)).2.2 (A6 P e true st (.buildSlice t m ps)).2.1 w (do pure (.value (<- Instr.buildSlice t m (ps.map fun (i,x)=>(i,a.eval x))))):=by
 unfold A6 at hob ⊢
 cases he:It P t with
 | none=>simp [he] at hob
 | some p =>
  obtain ⟨G,sz,Z,Y⟩:=p
  simp only [he,hmk] at hob ⊢
  obtain ⟨g,N,O,s,Q,C⟩:=hob
  obtain ⟨i,hu,hi,_,l⟩:=GM he
  obtain ⟨z,D⟩:=Option.isSome_iff_exists.1 Q
  obtain ⟨i',v,F,hv,hc,hs,rfl⟩:=ER D
  have K:ps.toList.length=m:=by simpa using congrArg List.length N
  have c:∀ p∈ps.toList,(a.eval p.2).cells.size=sz:=fun p y=>by
   rw [(A5 h (g p y)).cells.1]
   exact C _ (List.mem_map.2 ⟨p,y,rfl⟩)
  obtain ⟨zc,hzc⟩:∃ zc:Array Value,if m*sz=0 then zc = #[] else zc=v.cells:=by
   by_cases h0:m*sz=0
   ·exact ⟨#[],by rw [Ah h0]⟩
   ·exact ⟨v.cells,by rw [Ai h0]⟩
  obtain ⟨cs',a1,a2,a3,a4⟩:=UY sz (ps.toList.map fun p=>a.eval p.2) 0 ((Array.range (m*sz)).map (zc[· % zc.size]!)) (fun u hu=>by obtain ⟨p,y,rfl⟩:=List.mem_map.1 hu;exact c p y) (by simp [K])
  obtain ⟨r,J⟩:=h.st.newTop cs' G (m*sz)
  have b:((ps.toList.map fun p=>Az e p.2).map AV.pub).length=m:=by simp [<-K]
  have f:=R.row (us:=fun i=>((ps.toList.map fun p=>a.eval p.2).getD i undef)) (xs:=(ps.toList.map fun p=>Az e p.2).map AV.pub) (cs:=cs') (ty:=G) (sz:=sz) (k:=m*sz) (cap:=m) (o := .full) ?hu ?hc (by rw [b];exact Nat.le_refl _) ?hm (by rw [b];exact Nat.le_refl _) (M.newTop w.heap.size (m*sz)) (by simp [Mem.newTop]) J b
  case hu =>
   intro k E
   have d:k<ps.toList.length:=by simpa using E
   have V:(ps.toList.map fun p=>a.eval p.2).getD k undef=a.eval (ps.toList[k]).2:=by simp [List.getD,List.getElem?_eq_getElem d]
   rw [V]
   refine ⟨c _ (List.getElem_mem _),?_⟩
   simp only [List.getElem_map]
   exact (A5 h (g _ (List.getElem_mem _))).pub
  case hc =>
   intro k E j U
   have d:k<ps.toList.length:=by simpa using E
   have:=a4 k (a.eval (ps.toList[k]).2) (by simp [List.getElem?_eq_getElem d]) j U
   rw [Nat.zero_add] at this
   rw [this]
   simp [List.getD,List.getElem?_eq_getElem d]
  case hm =>
   have:m*1<=m*sz:=Nat.mul_le_mul_left _ s
   simp [maxLen]
   omega
  rw [b] at f
  refine .value ⟨_,_,_,?_,J,r,f⟩
  have H:¬ (m*sz > 2 ^ 24):=by omega
  have q:(ps.map fun (i,x)=>(i,a.eval x)).toList=((ps.toList.map fun p=>a.eval p.2).zipIdx 0).map fun x=>(x.2,x.1):=by
   rw [Array.toList_map]
   exact V6 N a.eval
  by_cases h0:m*sz=0
  ·rw [Ah h0] at hzc
   subst hzc
   simp only [Instr.buildSlice,Sem.run_bind,run_underlying hu,Result.andThen_ok,BW l,Ai H,Ah h0,Sem.run_pure,q,a1,newRow,run_newObj]
   rfl
  ·rw [Ai h0] at hzc
   subst hzc
   simp only [Instr.buildSlice,Sem.run_bind,run_underlying hu,Result.andThen_ok,BW l,Ai H,Ai h0,Sem.run_pure,zeroValue,typeInfo,run_program,F,hv,q,a1,newRow,run_newObj]
   rfl
theorem Below.setRow {B:Nat} {x y:World} (h:Below B x y) {g:Nat} (hg:B<=g) (cs:Array Value):Below B x (y.setRow g cs) :=
 h.trans ⟨rfl,rfl,rfl,by simp,fun k a=>setRow_other y g k cs (by omega)⟩
theorem KeepsObj.setRow {g:Nat} {c:Array Value} {ty:TypeId} (hg:w.heap[g]? = some (.cells c ty (0,0))) (c':Array Value):KeepsObj w (w.setRow g c'):=by
 intro b o h1 h2
 by_cases q:b=g
 ·subst q;rw [hg] at h1;cases h1;cases h2
 ·rw [setRow_other w g b c' q];exact h1
theorem Ih (M':Mem) (hN:M'.N=M.N) (hb:∀ l,l<M.N->M'.bx l=M.bx l) (hNR:M'.NR=M.NR)
  (hr:∀ id,id<M.NR->M.fr id<=M'.fr id/\(M'.fr id=M.fr id->M'.blk id=M.blk id/\M'.cap id=M.cap id/\M'.rsz id=M.rsz id)) (ht:∀ b,M.top b<=M'.top b)
  {g:Nat} {c c':Array Value} {ty:TypeId} (hg:w.heap[g]? = some (.cells c ty (0,0))) (hg0:w0.heap.size<=g) (hkeep:∀ j,j<M.top g->c'[j]? = c[j]?) (hown:¬ M.foreign g) (hfo:∀ b,M.foreign b->M'.foreign b/\M'.top b=M.top b) (hNL:M'.NL=M.NL:=by rfl) (hlb:M'.lb=M.lb:=by rfl) :
  Ext w0 M w M' (w.setRow g c') :=
 ⟨by omega,hb,by omega,hr,fun b a v h f=>by
  refine ⟨?_,h.imp id (fun q=>Nat.lt_of_lt_of_le q (ht b))⟩
  by_cases hbg:b=g
  ·subst hbg
   have k:a<M.top b:=h.resolve_left (by omega)
   rw [cell_of_row w b a c ty _ hg] at f
   rw [cell_of_row _ b a c' ty _ (setRow_heap w b c c' ty _ hg),hkeep a k]
   exact f
  ·rw [cell_setRow_other w g c' ⟨b,a,none⟩ hbg]
   exact f,by simp,by omega,fun _ _=>by rw [hlb],fun _ _ _=>by omega,fun b o i d _=>KeepsObj.setRow hg c' b o i d,fun b i d=>⟨setRow_other w g b c' (fun e=>hown (e▸d)),hfo b d⟩⟩
theorem ZdA (h:Rel w0 n M e st a w) (t:TypeId) (x v:Operand) (hob:(A6 P e true st (.store t x v)).1) :
  Yields' P w0 M (A6 P e true st (.store t x v)).2.2 (A6 P e true st (.store t x v)).2.1 w (do Instr.storeAt t (a.eval x) (a.eval v);pure .skip):=by
 unfold A6 at hob ⊢
 cases ht:GT P t with
 | none=>simp [ht] at hob
 | some p =>
  obtain ⟨sz,ag⟩:=p
  simp only [ht] at hob ⊢
  obtain ⟨_,g,hv,hbx,hr,hn,hl,hle⟩:=hob
  have hRx:=A5 h g
  have m:=A5 h hv
  generalize Az e x=X at hRx hbx hr hle ⊢
  generalize a.eval x=vx at hRx ⊢
  cases X with
  | box l off =>
   cases hRx with
   | box hlN =>
    have aa:l<st.boxes.length:=by simpa [Dv] using hr
    obtain ⟨cs,hcs⟩:∃ cs,st.boxes[l]? = some cs:=⟨_,List.getElem?_eq_getElem aa⟩
    have af:st.boxes.getD l []=cs:=by simp [List.getD,hcs]
    obtain ⟨K,Z,c,O,E,b4,b5,b6⟩:=h.st.box l cs hcs
    simp only [Bi,EE,af] at hle
    simp only [US,af]
    obtain ⟨v1,v2⟩:=m.cells
    have Y:=m.cellsOne (fun vs e=>by rw [e] at hn;cases hn)
    have r:∀ u∈(a.eval v).cells.toList,u.oneCell'=true:=by
     intro u hu
     obtain ⟨k,G,rfl⟩:=List.getElem_of_mem hu
     simp only [Array.length_toList] at G
     rw [Array.getElem_toList]
     exact (v2 k G (by omega)).oneCell (Y _ (List.getElem_mem _))
    have hst:=run_storeCells_at P (M.bx l) off O (a.eval v).cells.toList 0 c w E (by simp;omega) r
    simp only [Nat.add_zero] at hst
    generalize hc':(c.toList.take off++(a.eval v).cells.toList++c.toList.drop (off+(a.eval v).cells.toList.length)).toArray=c' at hst
    have s:c'.size=c.size:=by rw [<-hc'];simp;omega
    have y:∀ j,c'[j]? = if off<=j/\j<off+(a.eval v).cells.toList.length then (a.eval v).cells.toList[j-off]? else c[j]? := by
     intro j
     rw [<-hc',List.getElem?_toArray,List.append_assoc,List.getElem?_append]
     simp only [List.length_take,Array.length_toList]
     have e:min off c.size=off:=by omega
     rw [e]
     by_cases c1:j<off
     ·rw [Ah c1,Aa,List.getElem?_take,Ah c1,Array.getElem?_toList]
     ·rw [Ai c1,List.getElem?_append]
      simp only [Array.length_toList]
      by_cases c2:j-off<(a.eval v).cells.size
      ·rw [Ah c2,Ab]
      ·rw [Ai c2,Aa,List.getElem?_drop,Array.getElem?_toList]
       congr 1
       omega
    have g:Ext w0 M w M (w.setRow (M.bx l) c'):=Ih M rfl (fun _ _=>rfl) rfl (fun _ _=>⟨Nat.le_refl _,fun _=>⟨rfl,rfl,rfl⟩⟩) (fun _=>Nat.le_refl _) E K (fun j hj=>by rw [Z] at hj;omega) (fun q=>q.1 l (by assumption) rfl) (fun _ q=>⟨q,rfl⟩)
    have f:RowR w0 M w c' (Bt cs off (Az e v).cells):=RowR.put ⟨b4,b6⟩ m (by omega) s y
    refine ⟨undef,_,M,.inr ⟨?_,rfl⟩,g,⟨Below.setRow h.st.below K _,by simp [h.st.N],h.st.NR,fun b hb=>h.st.top b (by simpa using hb),h.st.inj,fun D cs' hl'=>?_,fun id x C=>(h.st.row id x C).keep g rfl rfl rfl rfl rfl (h.st.row id x C).ne (setRow_other w _ _ _ (Ne.symm ((h.st.row id x C).ne l hlN))),h.st.rowinj,h.st.loop.mono g rfl (KeepsObj.setRow E _)⟩,TP⟩
    ·have e0:¬ ((a.eval v).cells.size≠sz):=by omega
     simp only [Instr.storeAt,Instr.sureAddr,Sem.run_bind,Sem.run_pure,Result.andThen_ok,storeVar,BW ht,Ai e0,hst]
    ·by_cases ell:D=l
     ·subst ell
      rw [List.getElem?_set_self aa] at hl'
      cases hl'
      exact ⟨K,Z,c',O,setRow_heap w _ c c' O _ E,f.1,Qj b5 Y,fun i Q F=>(f.2 i Q F).mono g⟩
     ·rw [List.getElem?_set_ne (Ne.symm ell)] at hl'
      obtain ⟨d1,d2,d,H,d3,d4,d5,d6⟩:=h.st.box D cs' hl'
      have z:D<M.N:=by rw [h.st.N];exact (Aj.1 hl').1
      have U:M.bx D≠M.bx l:=fun q=>ell (h.st.inj D l z hlN q)
      exact ⟨d1,d2,d,H,by rw [setRow_other w _ _ _ U];exact d3,d4,d5,fun i Q F=>(d6 i Q F).mono g⟩
  | vel id ver off =>
   cases hRx with
   | @vel _ _ _ ad C hver hh =>
    obtain ⟨aj,cs,V⟩:=SD (show (ED st.rows id ver).isSome=true from hr)
    have f:=Fo V
    obtain ⟨f1,f2,K,Z,f5,f6,f7,c,O,E,b4,ak,b5,b6⟩:=h.st.row id _ f
    have had:=hh f1.symm
    subst had
    simp only [Bi,EE,V] at hle
    simp only [US,V]
    obtain ⟨v1,v2⟩:=m.cells
    have Y:=m.cellsOne (fun vs e=>by rw [e] at hn;cases hn)
    have r:∀ u∈(a.eval v).cells.toList,u.oneCell'=true:=by
     intro u hu
     obtain ⟨k,G,rfl⟩:=List.getElem_of_mem hu
     simp only [Array.length_toList] at G
     rw [Array.getElem_toList]
     exact (v2 k G (by omega)).oneCell (Y _ (List.getElem_mem _))
    have hst:=run_storeCells_at P (M.blk id) off O (a.eval v).cells.toList 0 c w E (by simp;omega) r
    simp only [Nat.add_zero] at hst
    generalize hc':(c.toList.take off++(a.eval v).cells.toList++c.toList.drop (off+(a.eval v).cells.toList.length)).toArray=c' at hst
    have s:c'.size=c.size:=by rw [<-hc'];simp;omega
    have y:∀ j,c'[j]? = if off<=j/\j<off+(a.eval v).cells.toList.length then (a.eval v).cells.toList[j-off]? else c[j]? := by
     intro j
     rw [<-hc',List.getElem?_toArray,List.append_assoc,List.getElem?_append]
     simp only [List.length_take,Array.length_toList]
     have e:min off c.size=off:=by omega
     rw [e]
     by_cases c1:j<off
     ·rw [Ah c1,Aa,List.getElem?_take,Ah c1,Array.getElem?_toList]
     ·rw [Ai c1,List.getElem?_append]
      simp only [Array.length_toList]
      by_cases c2:j-off<(a.eval v).cells.size
      ·rw [Ah c2,Ab]
      ·rw [Ai c2,Aa,List.getElem?_drop,Array.getElem?_toList]
       congr 1
       omega
    have g:Ext w0 M w M (w.setRow (M.blk id) c'):=Ih M rfl (fun _ _=>rfl) rfl (fun _ _=>⟨Nat.le_refl _,fun _=>⟨rfl,rfl,rfl⟩⟩) (fun _=>Nat.le_refl _) E K (fun j hj=>by rw [Z] at hj;omega) (fun q=>q.2.1 id (by assumption) rfl) (fun _ q=>⟨q,rfl⟩)
    have ab:id<st.rows.length:=(Aj.1 f).1
    have ai:=Me (l:=cs) (xs:=(Az e v).cells) (off:=off) (by omega)
    refine ⟨undef,_,M,.inr ⟨?_,rfl⟩,g,⟨Below.setRow h.st.below K _,h.st.N,by simp [h.st.NR],fun b hb=>h.st.top b (by simpa using hb),h.st.inj,fun D cs' hl'=>?_,fun o x hid'=>?_,h.st.rowinj,h.st.loop.mono g rfl (KeepsObj.setRow E _)⟩,TP⟩
    ·have e0:¬ ((a.eval v).cells.size≠sz):=by omega
     simp only [Instr.storeAt,Instr.sureAddr,Sem.run_bind,Sem.run_pure,Result.andThen_ok,storeVar,BW ht,Ai e0,hst]
    ·obtain ⟨d1,d2,d,H,d3,d4,d5,d6⟩:=h.st.box D cs' hl'
     have z:D<M.N:=by rw [h.st.N];exact (Aj.1 hl').1
     exact ⟨d1,d2,d,H,by rw [setRow_other w _ _ _ (f5 D z)];exact d3,d4,d5,fun i Q F=>(d6 i Q F).mono g⟩
    ·by_cases ell:o=id
     ·subst ell
      rw [List.getElem?_set_self ab] at hid'
      cases hid'
      refine ⟨f1,f2,K,Z,f5,f6,f7,c',O,setRow_heap w _ c c' O _ E,s.trans b4,by omega,Qj b5 Y,fun i Q F=>?_⟩
      have ae:RowR w0 M w (c'.extract 0 cs.length) (Bt cs off (Az e v).cells):=by
       have ah:RowR w0 M w (c.extract 0 cs.length) cs:=⟨by simp;omega,fun i Q F=>by rw [Array.getElem_extract];simp only [Nat.zero_add];exact b6 i (by omega) F⟩
       refine RowR.put ah m (by omega) (by simp;omega) (fun j=>?_)
       simp only [Array.getElem?_extract,Nat.zero_add,y]
       by_cases q1:j<min cs.length c'.size
       ·rw [Ab]
        by_cases q2:off<=j/\j<off+(a.eval v).cells.toList.length
        ·rw [Ah q2,Ah q2]
        ·rw [Ai q2,Ai q2,Ab]
       ·rw [Aa,Ai (by simp;omega),Aa]
      have h3:i<(c'.extract 0 cs.length).size:=by simp;omega
      have:=(ae.2 i h3 F).mono g
      rw [Array.getElem_extract] at this
      simpa using this
     ·rw [List.getElem?_set_ne (Ne.symm ell)] at hid'
      have G:=h.st.row o x hid'
      have J:o<M.NR:=by rw [h.st.NR];exact (Aj.1 hid').1
      have U:M.blk o≠M.blk id:=fun q=>ell (h.st.rowinj o id J C q)
      exact G.keep g rfl rfl rfl rfl rfl G.ne (setRow_other w _ _ _ U)
  | _=>cases hbx
end
section
variable {P:Program} {w0:World} {n:Nat} {M:Mem} {e:Env} {st:St} {a:Act} {w:World}
def TX (M:Mem) (w w':World):Prop:=(∀ (b off:Nat) (v:Value),w.cell? ⟨b,off,none⟩=some v->w'.cell? ⟨b,off,none⟩=some v)/\∀ (b:Nat) (es:Array MapEntry) (ck:Nat),w.heap[b]? = some (.map es ck)->(∀ k,k<M.NL->M.lb k≠b)->w'.heap[b]? = some (.map es ck)
theorem R.same {M:Mem} {w w':World} (hs:TX M w w') {v:Value} {x:AV} (h:R w0 M w v x):R w0 M w' v x:=by
 induction h with
 | flat h=>exact .flat h
 | agg hl h1 _ ih=>exact .agg hl h1 ih
 | tup hl _ ih=>exact .tup hl ih
 | nil ho=>exact .nil ho
 | emp ho=>exact .emp ho
 | @list b off cap xs o sz us hc hm hcell _ ho ih =>
  refine .list sz us hc hm (fun i a=>⟨(hcell i a).1,fun j c=>⟨((hcell i a).2 j c).1,?_⟩⟩) ih ho
  obtain ⟨v,hv⟩:=Px (u:=us i) (j:=j) (by rw [(hcell i a).1];exact c)
  exact (hs.1 _ _ _ ((((hcell i a).2 j c).2).trans hv)).trans hv.symm
 | @elem b off x u k hcell _ ih =>
  refine .elem u k (fun j c=>⟨(hcell j c).1,?_⟩) ih
  obtain ⟨v,hv⟩:=Px (u:=u) (j:=j) c
  exact (hs.1 _ _ _ ((hcell j c).2.trans hv)).trans hv.symm
 | box hl=>exact .box hl
 | clo hl _ ih=>exact .clo hl ih
 | bnd hl _ ih=>exact .bnd hl ih
 | yld hk=>exact .yld hk
 | mp hk=>exact .mp hk
 | tab h hk hn=>exact .tab (hs.2 _ _ _ h hn) hk hn
 | vec a hv h=>exact .vec a hv h
 | vel a hv h=>exact .vel a hv h
theorem LI {w:World} {D:Nat} {o o':Obj} (hD:w.heap[D]? = some o) (ho:o.isCells=false) {b off:Nat} {v:Value} (h:w.cell? ⟨b,off,none⟩=some v):(w.putObj D o').cell? ⟨b,off,none⟩=some v:=by
 by_cases c:b=D
 ·subst c
  unfold World.cell? at h
  simp only [hD] at h
  cases o with
  | cells c ty fz=>simp [Obj.isCells] at ho
  | _=>simp at h
 ·unfold World.cell? at h ⊢
  simp only [World.putObj_heap_other c] at h ⊢
  exact h
theorem entryOk.same {M:Mem} {w w':World} (hs:TX M w w') {v:Value} {x:Bool × AV} (h:entryOk w0 M w v x):entryOk w0 M w' v x:=by
 unfold entryOk at *
 split
 ·rename_i c;rw [Ah c] at h;exact h.same hs
 ·rename_i c;rw [Ai c] at h;exact h
theorem RowOk.same {M:Mem} {w w':World} {id:Nat} {x:RowA} (h:RowOk w0 M w id x) (hs:TX M w w')
  (hc:∀ {b:Nat} {c:Array Value} {ty:TypeId},w.heap[b]? = some (.cells c ty (0,0))->w'.heap[b]? = some (.cells c ty (0,0))) (hz:w.heap.size<=w'.heap.size):RowOk w0 M w' id x:=by
 cases x with
 | grow n sz =>
  obtain ⟨a1,a2,a3,a4,a5,a6,a7,c,ty,d,a⟩:=h
  exact ⟨a1,a2,a3,a4,a5,a6,a7,c,ty,hc d,a⟩
 | vec v sz cs =>
  obtain ⟨a1,a2,a3,a4,a5,a6,a7,c,ty,d,a,j,k,e⟩:=h
  exact ⟨a1,a2,a3,a4,a5,a6,a7,c,ty,hc d,a,j,k,fun i f g=>(e i f g).same hs⟩
 | dead v =>
  obtain ⟨a1,a2,a3,a4⟩:=h
  exact ⟨a1,a2,a3,Nat.lt_of_lt_of_le a4 hz⟩
theorem Below.putObj {B D:Nat} {x y:World} (h:Below B x y) (hD:B<=D) (o:Obj):Below B x (y.putObj D o) :=
 h.trans ⟨rfl,rfl,rfl,by simp,fun k a=>World.putObj_heap_other (by omega)⟩
theorem RelSt.putObj {M:Mem} {w:World} (h:RelSt w0 M st w) {D:Nat} {d:Option (List Deferred)} (o':Obj) (hD:w.heap[D]? = some (.deferred d)) (h0:w0.heap.size<=D) (hl:∀ k,k<M.NL->M.lb k≠D):RelSt w0 M st (w.putObj D o'):=by
 have hs:TX M w (w.putObj D o'):=⟨fun b p v=>LI hD rfl,fun b z y hb _=>by rw [World.putObj_heap_other (fun e=>by subst e;rw [hD] at hb;cases hb)];exact hb⟩
 have m:∀ {b:Nat} {c:Array Value} {a:TypeId},w.heap[b]? = some (.cells c a (0,0))->(w.putObj D o').heap[b]? = some (.cells c a (0,0)):=by
  intro b c a hb
  rw [World.putObj_heap_other (fun e=>by subst e;rw [hD] at hb;cases hb)]
  exact hb
 refine ⟨Below.putObj h.below h0 _,h.N,h.NR,fun b hb=>h.top b (by simpa using hb),h.inj,fun l cs j=>?_,fun id x f=>(h.row id x f).same hs m (by simp),h.rowinj,⟨h.loop.NL,h.loop.inj,fun k n f=>?_⟩⟩
 ·obtain ⟨a1,a2,c,a,a3,a4,a5,a6⟩:=h.box l cs j
  exact ⟨a1,a2,c,a,m a3,a4,a5,fun i r u=>(a6 i r u).same hs⟩
 ·have g:k<M.NL:=by rw [h.loop.NL];exact (Aj.1 f).1
  obtain ⟨a1,a2⟩:=h.loop.record k n f
  exact ⟨a1,a2.map (fun o q _=>by rw [World.putObj_heap_other (hl k g)];exact q) fun s x v _ t=>t.same hs⟩
def Mem.newMap (M:Mem) (b:Nat):Mem:={ M with NL:=M.NL+1,lb:=fun k=>if k=M.NL then b else M.lb k }
theorem RelSt.newMap (h:RelSt w0 M st w) :
  RelSt w0 (M.newMap w.heap.size) { st with loops:=st.loops++[Za7 []] } (w.alloc (.map #[] 0))/\Ext w0 M w (M.newMap w.heap.size) (w.alloc (.map #[] 0)):=by
 have f:KeepsObj w (w.alloc (.map #[] 0)):=KeepsObj.alloc _ _
 have g:∀ (b e:Nat) (v:Value),w.cell? ⟨b,e,none⟩=some v->(w.alloc (.map #[] 0)).cell? ⟨b,e,none⟩=some v:=by
  intro b e v hv
  rw [World.cell?_alloc_lt _ _ _ (World.block_lt_of_cell? w _ hv)]
  exact hv
 have a:∀ k,k<M.NL->(M.newMap w.heap.size).lb k=M.lb k:=fun k hk=>by simp [Mem.newMap];omega
 have hnew:(M.newMap w.heap.size).lb M.NL=w.heap.size:=by simp [Mem.newMap]
 have r:Ext w0 M w (M.newMap w.heap.size) (w.alloc (.map #[] 0)) :=
  ⟨Nat.le_refl _,fun _ _=>rfl,Nat.le_refl _,fun _ _=>⟨Nat.le_refl _,fun _=>⟨rfl,rfl,rfl⟩⟩,fun b e v t p=>⟨g b e v p,t⟩,by simp,Nat.le_succ _,a,fun k t p=>by
   have:k=M.NL:=by simp only [Mem.newMap] at p;omega
   rw [this,hnew];exact Nat.le_refl _,fun b o t p _=>f b o t p,fun b q1 q=>⟨A3 _ _ q1,⟨q.1,q.2.1,fun k hk=>by
    by_cases c:k=M.NL
    ·subst c;rw [hnew];omega
    ·have d:k<M.NL:=by simp only [Mem.newMap] at hk;omega
     rw [a k d];exact q.2.2 k d⟩,rfl⟩⟩
 have z:∀ {b:Nat},b<w.heap.size->(w.alloc (.map #[] 0)).heap[b]? = w.heap[b]? := fun {b} y=>A3 _ _ y
 have n:∀ j,j<M.NL->M.lb j<w.heap.size:=fun j G=>(h.loop.record j _ (List.getElem?_eq_getElem (by rw [<-h.loop.NL];exact G))).2.lt
 refine ⟨⟨h.below.alloc h.base_le _,h.N,h.NR,fun b y=>h.top b (by simp at y;omega),h.inj,fun l cs D=>?_,fun id x u=>(h.row id x u).keep r rfl rfl rfl rfl rfl (h.row id x u).ne (z (h.row id x u).lt),h.rowinj,
  ⟨by simp [Mem.newMap,h.loop.NL],fun k m hk d q=>?_,fun k C hk=>?_⟩⟩,r⟩
 ·obtain ⟨a1,a2,c,H,a3,a4,a5,a6⟩:=h.box l cs D
  exact ⟨a1,a2,c,H,by rw [show (M.newMap w.heap.size).bx l=M.bx l from rfl,z (Array.getElem?_eq_some_iff.1 a3).1];exact a3,a4,a5,fun i F E=>(a6 i F E).mono r⟩
 ·simp only [Mem.newMap] at hk d
  by_cases c:k=M.NL
  ·by_cases c':m=M.NL
   ·omega
   ·subst c
    rw [hnew,a m (by omega)] at q
    have:=n m (by omega)
    omega
  ·by_cases c':m=M.NL
   ·subst c'
    rw [hnew,a k (by omega)] at q
    have:=n k (by omega)
    omega
   ·rw [a k (by omega),a m (by omega)] at q
    exact h.loop.inj k m (by omega) (by omega) q
 ·by_cases c:k=st.loops.length
  ·subst c
   simp only [List.getElem?_concat_length,Option.some.injEq] at hk
   subst hk
   rw [<-h.loop.NL,hnew]
   exact ⟨h.base_le,rfl,#[],0,World.alloc_heap_new w _,rfl,by simp,.nil⟩
  ·have d:k<st.loops.length:=by
    have:=(Aj.1 hk).1
    simp at this;omega
   simp only at hk
   rw [List.getElem?_append_left d] at hk
   obtain ⟨a1,a2⟩:=h.loop.record k C hk
   rw [a k (by rw [h.loop.NL];exact d)]
   exact ⟨a1,a2.map (fun o q1 q2=>f _ _ q1 q2) fun s x v _ J=>J.mono r⟩
theorem RelSt.setMap (h:RelSt w0 M st w) {k:Nat} {la:LoopA} (hk:st.loops[k]? = some la) {ks':List ByteArray} {es es':Array MapEntry} {ck ck':Nat} (hr:w.heap[M.lb k]? = some (.map es ck))
  (h1:es'.toList.map (·.key)=ks'.map Value.string) (h2:∀ e∈es'.toList,e.val = .agg #[]) (h3:ks'.Nodup) :
  RelSt w0 M { st with loops:=st.loops.set k (Za7 ks') } (w.putObj (M.lb k) (.map es' ck'))/\Ext w0 M w M (w.putObj (M.lb k) (.map es' ck')):=by
 have d:k<st.loops.length:=(Aj.1 hk).1
 have a:k<M.NL:=by rw [h.loop.NL];exact d
 have m:M.lb k<w.heap.size:=(Array.getElem?_eq_some_iff.1 hr).1
 obtain ⟨g0,_⟩:=h.loop.record k la hk
 have hs:TX M w (w.putObj (M.lb k) (.map es' ck')):=⟨fun b g v=>LI hr rfl,fun b es ck hb u=>by rw [World.putObj_heap_other (fun e=>u k a e.symm)];exact hb⟩
 have r:∀ {b:Nat} {c:Array Value} {f:TypeId},w.heap[b]? = some (.cells c f (0,0))->(w.putObj (M.lb k) (.map es' ck')).heap[b]? = some (.cells c f (0,0)):=by
  intro b c f hb
  rw [World.putObj_heap_other (fun e=>by subst e;rw [hr] at hb;cases hb)]
  exact hb
 refine ⟨⟨Below.putObj h.below g0 _,h.N,h.NR,fun b hb=>h.top b (by simpa using hb),h.inj,fun l cs n=>?_,fun id x t=>(h.row id x t).same hs r (by simp),h.rowinj,⟨by simp [h.loop.NL],h.loop.inj,fun j D hj=>?_⟩⟩,
  ⟨Nat.le_refl _,fun _ _=>rfl,Nat.le_refl _,fun _ _=>⟨Nat.le_refl _,fun _=>⟨rfl,rfl,rfl⟩⟩,fun b g v h1 h2=>⟨hs.1 b g v h2,h1⟩,by simp,Nat.le_refl _,fun _ _=>rfl,fun _ _ _=>by omega,fun b o h1 _ h3=>?_,fun b _ q=>⟨World.putObj_heap_other (fun e=>q.2.2 k a e.symm),q,rfl⟩⟩⟩
 ·obtain ⟨a1,a2,c,f,a3,a4,a5,a6⟩:=h.box l cs n
  exact ⟨a1,a2,c,f,r a3,a4,a5,fun i y E=>(a6 i y E).same hs⟩
 ·by_cases q:j=k
  ·subst q
   simp only at hj
   rw [List.getElem?_set_self d] at hj
   cases hj
   exact ⟨g0,rfl,es',ck',World.putObj_heap_same m,h1,h2,h3⟩
  ·simp only at hj
   rw [List.getElem?_set_ne (Ne.symm q)] at hj
   have p:j<M.NL:=by rw [h.loop.NL];exact (Aj.1 hj).1
   obtain ⟨a1,a2⟩:=h.loop.record j D hj
   exact ⟨a1,a2.map (fun o z _=>by rw [World.putObj_heap_other (fun e=>q (h.loop.inj j k p a e))];exact z) fun s x v _ C=>C.same hs⟩
 ·rw [World.putObj_heap_other (fun e=>h3 k a e.symm)]
  exact h1
theorem Zc5 {v:Value} {k:Nat} (h:R w0 M w v (.mp k)):v = .map (some (M.lb k))/\k<M.NL:=by cases h;exact ⟨rfl,‹_›⟩
theorem Zdh {v:Value} (h:R w0 M w v (.agg [])):v = .agg #[]:=by
 cases h with
 | agg hl _ _=>rw [Array.eq_empty_of_size_eq_zero hl]
theorem Wg {t:TypeId} (h:Zg3 P t=true):∃ kt et,P.underlying t=some (.map kt et)/\P.underlying kt=some .string/\Bn P et=some []:=by
 unfold Zg3 at h
 split at h
 ·rename_i kt et hu
  simp only [Bool.and_eq_true] at h
  obtain ⟨h1,h2⟩:=h
  refine ⟨kt,et,hu,?_,?_⟩
  ·unfold DU at h1
   split at h1
   ·assumption
   ·cases h1
  ·split at h2
   ·assumption
   ·cases h2
 ·cases h
theorem XI {ks:List ByteArray} {es:Array MapEntry} (he:es.toList.map (·.key)=ks.map Value.string) (hv:∀ e∈es.toList,e.val = .agg #[]) (s:ByteArray) :
  (Instr.findNow .string (.string s) es.toList 0=some none/\(∀ x∈es.toList,x.key ≠ .string s)/\s ∉ ks)\/∃ j e,Instr.findNow .string (.string s) es.toList 0=some (some (j,.agg #[]))/\es[j]? = some e/\e.key = .string s/\s∈ks:=by
 have b:∀ x∈es.toList,MapKept.IsKey .string x.key:=fun x c=>by
  have:x.key∈ks.map Value.string:=by rw [<-he];exact List.mem_map_of_mem c
  obtain ⟨y,_,f⟩:=List.mem_map.1 this
  rw [<-f];trivial
 rcases MapKept.findNow_spec (d := .string) (k := .string s) trivial es.toList 0 b with ⟨h1,h2⟩ | ⟨j,e,h1,h2,h3⟩
 ·refine .inl ⟨h1,h2,fun g=>?_⟩
  have:Value.string s∈es.toList.map (·.key):=by rw [he];exact List.mem_map_of_mem g
  obtain ⟨x,c,q⟩:=List.mem_map.1 this
  exact h2 x c q
 ·have a:e∈es.toList:=List.mem_of_getElem? h2
  refine .inr ⟨j,e,by rw [h1,hv e a,Nat.zero_add],by simpa using h2,h3,?_⟩
  have:Value.string s∈ks.map Value.string:=by rw [<-he,<-h3];exact List.mem_map_of_mem a
  obtain ⟨y,f,q⟩:=List.mem_map.1 this
  cases q
  exact f
theorem QP {ks:List ByteArray} {s:ByteArray}:Yh ks s=true<->s∈ks:=by
 unfold Yh
 rw [List.any_eq_true]
 constructor
 ·rintro ⟨x,a,q⟩
  have:x=s:=by
   obtain ⟨⟨x⟩⟩:=x
   obtain ⟨⟨s⟩⟩:=s
   simp only [MY,beq_iff_eq] at q
   rw [show x=s from q]
  exact this▸a
 ·exact fun h=>⟨s,h,by simp [MY]⟩
theorem Zt (h:Rel w0 n M e st a w) (t:TypeId) (r:Option Operand) (hob:(A6 P e true st (.makeMap t r)).1) :
  Yields' P w0 M (A6 P e true st (.makeMap t r)).2.2 (A6 P e true st (.makeMap t r)).2.1 w (do pure (.value (<- Instr.makeMap t (r.map a.eval)))):=by
 obtain ⟨_,d⟩:=hob
 obtain rfl:r=none:=Option.isNone_iff_eq_none.1 d
 obtain ⟨c,f⟩:=h.st.newMap
 refine ⟨.map (some w.heap.size),w.alloc (.map #[] 0),_,.inl rfl,f,c,?_⟩
 have b:=h.st.loop.NL
 have g:(M.newMap w.heap.size).lb st.loops.length=w.heap.size:=by simp [Mem.newMap,b]
 have:=R.mp (w0:=w0) (M:=M.newMap w.heap.size) (w:=w.alloc (.map #[] 0)) (k:=st.loops.length) (by simp [Mem.newMap,b])
 rw [g] at this
 exact this
theorem Wx {t:TypeId} (h:Zbo P t=true):∃ kt et iz,P.underlying t=some (.map kt et)/\P.underlying kt=some (.int .i64)/\P.info? et=some iz/\iz.zero=some .nilFunc:=by
 unfold Zbo at h
 split at h
 ·rename_i kt et hu
  simp only [Bool.and_eq_true] at h
  obtain ⟨h1,h2⟩:=h
  split at h2
  ·rename_i iz hz
   refine ⟨kt,et,iz,hu,?_,hz,?_⟩
   ·split at h1
    ·assumption
    ·cases h1
   ·split at h2
    ·assumption
    ·cases h2
  ·cases h2
 ·cases h
theorem Vu (i:Int):∀ (es:List MapEntry) (l:List (Int × FuncId)) (n:Nat),es.map (fun e=>(e.key,e.val))=l.map (fun x=>(Value.int .i64 x.1,Value.func (.func x.2) #[] #[])) ->
  (Instr.findNow (.int .i64) (.int .i64 i) es n=some none/\PH l i=(.val .nilFunc,false))\/∃ j f,Instr.findNow (.int .i64) (.int .i64 i) es n=some (some (j,.func (.func f) #[] #[]))/\PH l i=(.clo f [],true)
 | [],[],_,_ => .inl ⟨rfl,rfl⟩
 | [],_::_,_,h=>by cases h
 | _::_,[],_,h=>by cases h
 | e::es,(k,f)::l,n,h=>by
  simp only [List.map_cons,List.cons.injEq,Prod.mk.injEq] at h
  obtain ⟨⟨m,t⟩,s⟩:=h
  have c:MapKept.IsKey (.int .i64) e.key:=by rw [m];rfl
  obtain ⟨r,o,b⟩:=MapKept.sameNow_of_keys (d := .int .i64) (a := .int .i64 i) rfl c
  cases r with
  | true =>
   have q:=b.1 rfl
   rw [m] at q
   cases q
   exact .inr ⟨n,f,by simp [Instr.findNow,o,t],by simp [PH]⟩
  | false =>
   have p:k≠i:=fun q=>by have:=b.2 (by rw [m,q]);cases this
   have u:PH ((k,f)::l) i=PH l i:=by rw [PH,Ai p]
   rw [u]
   rcases Vu i es l (n+1) s with ⟨q1,q2⟩ | ⟨j,g,q1,q2⟩
   ·exact .inl ⟨by simp [Instr.findNow,o,q1],q2⟩
   ·exact .inr ⟨j,g,by simp [Instr.findNow,o,q1],q2⟩
theorem Y1 (h:Rel w0 n M e st a w) (t:TypeId) (m k:Operand) {l:List (Int × FuncId)} {i:Int} (em:Az e m = .tab l) (ek:Az e k=Ak i) (hmt:Zbo P t=true) (hm:AN e true m) (hk:AN e true k) :
  Yields' P w0 M st (.tup [(PH l i).1,.val (.bool (PH l i).2)]) w (do pure (.value (<- Instr.lookup t (a.eval m) (a.eval k) true))):=by
 obtain ⟨b,es,ck,vm,g1,g2⟩:∃ b es ck,a.eval m = .map (some b)/\w.heap[b]? = some (.map es ck)/\es.toList.map (fun e=>(e.key,e.val))=l.map (fun x=>(Value.int .i64 x.1,Value.func (.func x.2) #[] #[])):=by
  have:=em▸A5 h hm
  generalize a.eval m=v at this ⊢
  cases this with
  | tab d o h3=>exact ⟨_,_,_,rfl,d,o⟩
 obtain ⟨u,_⟩:=(ek▸A5 h hk:R w0 M w (a.eval k) (Ak i)).val_inv
 obtain ⟨C,y,z,p,g,r,s⟩:=Wx hmt
 rw [vm,u]
 have q:MapKept.IsKey (.int .i64) (.int .i64 i):=rfl
 have fin:∀ (v:Value) (x:AV) (c:Bool),R w0 M w v x->R w0 M w (.tuple #[v,.bool c]) (.tup [x,.val (.bool c)]):=fun v x c hv => .tup rfl fun i d o=>by
  match i,d,o with
  | 0,_,_=>exact hv
  | 1,_,_=>exact .flat rfl
 rcases Vu i es.toList l 0 g2 with ⟨f1,f2⟩ | ⟨j,f,f1,f2⟩
 ·rw [f2]
  refine ⟨_,w,M,.inl ?_,Ext.refl _ _ _,h.st,fin .nilFunc _ false (.flat rfl)⟩
  simp [Instr.lookup,run_underlying p,MapKept.run_getObj_map g1,MapKept.run_checkKey g q,MapKept.run_findKey g f1,zeroValue,typeInfo,r,s,Result.andThen]
 ·rw [f2]
  refine ⟨_,w,M,.inl ?_,Ext.refl _ _ _,h.st,fin _ _ true (.clo (f:=f) (cs := #[]) (xs:=[]) rfl (fun i d=>absurd d (by simp)))⟩
  simp [Instr.lookup,run_underlying p,MapKept.run_getObj_map g1,MapKept.run_checkKey g q,MapKept.run_findKey g f1,Result.andThen]
theorem Za3 (h:Rel w0 n M e st a w) (t:TypeId) (m k:Operand) (ok:Bool) (hob:(A6 P e true st (.lookup t m k ok)).1) :
  Yields' P w0 M (A6 P e true st (.lookup t m k ok)).2.2 (A6 P e true st (.lookup t m k ok)).2.1 w (do pure (.value (<- Instr.lookup t (a.eval m) (a.eval k) ok))):=by
 simp only [A6] at hob ⊢
 split at hob
 ·rename_i l i em ek
  obtain ⟨c,f,p,rfl⟩:=hob
  exact Y1 h t m k em ek c f p
 rotate_left
 ·exact hob.elim
 rename_i i s em ek
 cases hks:PZ st i with
 | none=>simp only [hks] at hob
 | some ks =>
  simp only [hks] at hob ⊢
  obtain ⟨c,f,p,rfl⟩:=hob
  obtain ⟨F,_⟩:=Zc5 (em▸A5 h f)
  obtain ⟨G,_⟩:=(ek▸A5 h p:R w0 M w (a.eval k) (.val (.string s))).val_inv
  obtain ⟨D,o,y⟩:=SO hks
  obtain ⟨g0,g⟩:=h.st.loop.record i D o
  unfold LoopOk at g
  rw [y] at g
  obtain ⟨_,Z,U,g1,g2,g3,g4⟩:=g
  obtain ⟨kt,Y,C,d,E⟩:=Wg c
  rw [F,G]
  have r:∀ z:World,R w0 M z (.agg #[]) (.agg []):=fun z => .agg rfl (by simp) (fun i u=>absurd u (by simp))
  have fin:∀ (b:Bool),R w0 M w (.tuple #[.agg #[],.bool b]) (.tup [.agg [],.val (.bool b)]):=fun b => .tup rfl fun i u O=>by
   match i,u,O with
   | 0,_,_=>exact r w
   | 1,_,_=>exact .flat rfl
  rcases XI g2 g3 s with ⟨f1,_,f3⟩ | ⟨j,e',f1,_,_,f4⟩
  ·obtain ⟨V,v,J,N,K,Q,H⟩:=ER E
   have hv:v = .agg #[]:=by
    have z6:v.cells.size=0:=by
     have:=(NK (w0:=w0) (M:=M) (w:=w) K).cells.1
     rw [<-H] at this;exact this
    cases v with
    | agg cs=>rw [Array.eq_empty_of_size_eq_zero (show cs.size=0 from z6)]
    | _=>cases z6
   have x:Yh ks s=false:=Bool.eq_false_iff.2 fun q=>f3 (QP.1 q)
   rw [x]
   refine ⟨_,w,M,.inl ?_,Ext.refl _ _ _,h.st,fin false⟩
   simp [Instr.lookup,run_underlying C,MapKept.run_getObj_map g1,MapKept.run_checkKey d (show MapKept.IsKey .string (.string s) from trivial),MapKept.run_findKey d f1,zeroValue,typeInfo,J,N,hv,Result.andThen]
  ·have x:Yh ks s=true:=QP.2 f4
   rw [x]
   refine ⟨_,w,M,.inl ?_,Ext.refl _ _ _,h.st,fin true⟩
   simp [Instr.lookup,run_underlying C,MapKept.run_getObj_map g1,MapKept.run_checkKey d (show MapKept.IsKey .string (.string s) from trivial),MapKept.run_findKey d f1,Result.andThen]
theorem W4 (h:Rel w0 n M e st a w) (t:TypeId) (m k v:Operand) (hob:(A6 P e true st (.mapUpdate t m k v)).1) :
  Yields' P w0 M (A6 P e true st (.mapUpdate t m k v)).2.2 (A6 P e true st (.mapUpdate t m k v)).2.1 w (do Instr.mapUpdate t (a.eval m) (a.eval k) (a.eval v);pure .skip):=by
 simp only [A6] at hob ⊢
 split at hob
 rotate_left
 ·exact hob.elim
 rename_i i s em ek ev
 cases hks:PZ st i with
 | none=>simp only [hks] at hob
 | some ks =>
  simp only [hks] at hob ⊢
  obtain ⟨_,C,J,O,hv⟩:=hob
  obtain ⟨K,_⟩:=Zc5 (em▸A5 h J)
  obtain ⟨N,_⟩:=(ek▸A5 h O:R w0 M w (a.eval k) (.val (.string s))).val_inv
  have Q:=Zdh (ev▸A5 h hv)
  obtain ⟨H,c,F⟩:=SO hks
  obtain ⟨g0,o⟩:=h.st.loop.record i H c
  unfold LoopOk at o
  rw [F] at o
  obtain ⟨_,z,p,g1,g2,g3,g4⟩:=o
  obtain ⟨kt,Y,G,g,V⟩:=Wg C
  rw [K,N,Q]
  have r:MapKept.IsKey .string (.string s):=trivial
  rcases XI g2 g3 s with ⟨f1,f2,f3⟩ | ⟨j,e',f1,f2,f3,f4⟩
  ·have u:Yh ks s=false:=Bool.eq_false_iff.2 fun q=>f3 (QP.1 q)
   have E:ZcU ks s=ks++[s]:=by unfold ZcU;rw [u];rfl
   rw [E]
   obtain ⟨l,D⟩:=h.st.setMap c g1 (es':=z.push { key := .string s,val := .agg #[],born:=p }) (ck':=p+1) (ks':=ks++[s]) (by simp [g2]) (fun e d=>by
    simp only [Array.toList_push,List.mem_append,List.mem_singleton] at d
    rcases d with d | rfl
    ·exact g3 e d
    ·rfl) (List.nodup_append.2 ⟨g4,by simp,fun x hx y hy q=>by rw [List.mem_singleton] at hy;subst hy;subst q;exact f3 hx⟩)
   refine ⟨undef,_,M,.inr ⟨?_,rfl⟩,D,l,TP⟩
   simp [Instr.mapUpdate,run_underlying G,MapKept.run_getObj_map g1,MapKept.run_checkKey g r,MapKept.run_findKey g f1,MapKept.run_setObj_map _ g1,Result.andThen,World.putObj]
  ·have u:Yh ks s=true:=QP.2 f4
   have E:ZcU ks s=ks:=by unfold ZcU;rw [u];rfl
   rw [E]
   have f:∀ b,z[j]? = some b->({ b with key := .string s,val := .agg #[] }:MapEntry).key=b.key:=fun b he'=>by rw [f2] at he';cases he';exact f3.symm
   obtain ⟨l,D⟩:=h.st.setMap c g1 (es':=z.modify j fun e=>{ e with key := .string s,val := .agg #[] }) (ck':=p) (ks':=ks) (by rw [MapKept.modify_keys j _ f];exact g2) (fun e d=>by
    obtain ⟨Z,U,rfl⟩:=List.mem_iff_getElem.1 d
    simp only [Array.getElem_toList,Array.getElem_modify]
    split
    ·rfl
    ·exact g3 _ (by simp)) g4
   refine ⟨undef,_,M,.inr ⟨?_,rfl⟩,D,l,TP⟩
   simp [Instr.mapUpdate,run_underlying G,MapKept.run_getObj_map g1,MapKept.run_checkKey g r,MapKept.run_findKey g f1,f2,f3,MapKept.run_keyThatStays r,MapKept.run_setObj_map _ g1,Result.andThen,World.putObj]
theorem Zdc (h:Rel w0 n M e st a w) (x:Operand) (t ty:TypeId) {el sz by8:Nat} {ag:Bool} (he:It P t=some (el,sz,ag,by8)) {id ver o n' sz':Nat} {cs:List AV} (ex:Az e x = .vec id ver o n') (hvr:ED st.rows id ver=some (sz',cs))
  (hx:AN e true x) (hs:sz'=sz) (hz:(Bn P el).isSome=true) (hn:0<n') :
  Yields' P w0 M { st with rows:=st.rows.set id (.vec ver sz (cs.take (o*sz))) } (.tup []) w (do pure (.value (<- Builtin.clear_ #[t] ty #[a.eval x]))):=by
 subst hs
 have hR:=ex▸A5 h hx
 generalize a.eval x=vx at hR ⊢
 obtain ⟨i,hu,hi,_,ad⟩:=GM he
 obtain ⟨zz,aa⟩:=Option.isSome_iff_exists.1 hz
 obtain ⟨i',z,Z,ah,Q,af,_⟩:=ER aa
 have s:=Fo hvr
 obtain ⟨f1,f2,b1,b2,f5,f6,f7,c,y,b3,b4,am,b5,b6⟩:=h.st.row id _ s
 cases hR with
 | @vec _ _ _ _ p cap hid hver hh =>
  obtain ⟨rfl,aj,ak⟩:=hh f1.symm
  rw [f2]
  have ae:z.cells.size=sz':=by
   obtain ⟨i2,_,q1,q2,_⟩:=KW ad
   rw [af]
   rw [Z] at q1
   cases q1
   exact q2
  generalize hl:(Builtin.zeroCells z.cells n').toList=l
  have Y:l.length=n'*sz':=by rw [<-hl,<-ae];simp [Builtin.zeroCells]
  have f:(o+n')*sz'<=c.size:=by rw [b4];exact Nat.mul_le_mul_right _ (by omega)
  have G:∀ u∈l,u.oneCell'=true:=by
   intro u r
   rw [<-hl] at r
   simp only [Builtin.zeroCells,Array.toList_map,List.mem_map,Array.mem_toList_iff,Array.mem_range] at r
   obtain ⟨j,D,rfl⟩:=r
   have v:j % z.cells.size<z.cells.size:=Nat.mod_lt _ (Nat.pos_of_ne_zero fun q=>by rw [q] at D;simp at D)
   rw [getElem!_pos z.cells _ v]
   have E:=NK (w0:=w0) (M:=M) (w:=w) Q
   have ab:=E.cellsOne (fun vs q=>by have:=J4 Q;rw [q] at this;cases this)
   have:=E.cells
   exact (this.2 _ v (by rw [<-this.1];exact v)).oneCell (ab _ (List.getElem_mem _))
  have hst:=run_storeCells_at P (M.blk id) (o*sz') y l 0 c w b3 (by rw [Y];rw [Nat.add_mul] at f;omega) G
  simp only [Nat.add_zero] at hst
  generalize hc':(c.toList.take (o*sz')++l++c.toList.drop (o*sz'+l.length)).toArray=c' at hst
  have K:c'.size=c.size:=by rw [<-hc'];rw [Nat.add_mul] at f;simp;omega
  have U:∀ j,j<o*sz'->c'[j]? = c[j]? := by
   intro j D
   rw [<-hc',List.getElem?_toArray,List.append_assoc,List.getElem?_append_left (by rw [Nat.add_mul] at f;simp;omega),List.getElem?_take,Ah D,Array.getElem?_toList]
  have k:Ext w0 M w M (w.setRow (M.blk id) c'):=Ih M rfl (fun _ _=>rfl) rfl (fun _ _=>⟨Nat.le_refl _,fun _=>⟨rfl,rfl,rfl⟩⟩) (fun _=>Nat.le_refl _) b3 b1 (fun j D=>by rw [b2] at D;omega) (Mem.own_row hid) (fun _ q=>⟨q,rfl⟩)
  have H:id<st.rows.length:=(Aj.1 s).1
  refine ⟨.tuple #[],_,M,.inl ?_,k,⟨Below.setRow h.st.below b1 _,h.st.N,by simp [h.st.NR],fun b hb=>h.st.top b (by simpa using hb),h.st.inj,fun l' cs' J=>?_,fun g x hid'=>?_,h.st.rowinj,h.st.loop.mono k rfl (KeepsObj.setRow b3 _)⟩,.tup rfl (fun i O=>absurd O (by simp))⟩
  ·obtain ⟨m,rfl⟩:∃ m,n'=m+1:=⟨n'-1,by omega⟩
   simp [Builtin.clear_,run_underlying hu,zeroValue,typeInfo,Z,ah,hl,hst]
  ·obtain ⟨d1,d2,d,F,d3,d4,d5,d6⟩:=h.st.box l' cs' J
   have V:l'<M.N:=by rw [h.st.N];exact (Aj.1 J).1
   exact ⟨d1,d2,d,F,by rw [setRow_other w _ _ _ (f5 l' V)];exact d3,d4,d5,fun i O h2=>(d6 i O h2).mono k⟩
  ·by_cases ell:g=id
   ·subst ell
    simp only at hid'
    rw [List.getElem?_set_self H] at hid'
    cases hid'
    refine ⟨f1,f2,b1,b2,f5,f6,f7,c',y,setRow_heap w _ c c' y _ b3,K.trans b4,by rw [List.length_take];omega,fun u r=>b5 u (List.mem_of_mem_take r),fun i O h2=>?_⟩
    have h3:i<o*sz'/\i<cs.length:=by rw [List.length_take] at h2;omega
    have:=U i h3.1
    rw [Array.getElem?_eq_getElem O,Array.getElem?_eq_getElem (by omega)] at this
    rw [Option.some.inj this,List.getElem_take]
    exact (b6 i (by omega) h3.2).mono k
   ·simp only at hid'
    rw [List.getElem?_set_ne (Ne.symm ell)] at hid'
    have hk:=h.st.row g x hid'
    have C:g<M.NR:=by rw [h.st.NR];exact (Aj.1 hid').1
    have ai:M.blk g≠M.blk id:=fun q=>ell (h.st.rowinj g id C hid q)
    exact hk.keep k rfl rfl rfl rfl rfl hk.ne (setRow_other w _ _ _ ai)
end
end Go.Ev
