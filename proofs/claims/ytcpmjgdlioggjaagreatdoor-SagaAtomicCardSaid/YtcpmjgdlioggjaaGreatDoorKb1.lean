/-
  Part 1 of the proof: rules and walks that the claim's last text uses.
-/
import Derived.Below
import Derived.Laws.Rows
import Derived.Laws.Small
import Derived.Laws.StructEq
import Derived.Lib.SliceRun
import Derived.Lib.Strings
import Derived.MapKept
import Derived.Orders
import Derived.RangeFuncNested
import Derived.RangeFuncRecord
import Derived.WalkKit
set_option linter.unusedSimpArgs false
set_option linter.unusedVariables false
set_option maxRecDepth 100000
set_option maxHeartbeats 4000000
namespace Go
theorem Aa.{u} {c:Prop} {h:Decidable c} {α:Sort u} {t e:α} (hc:¬c:=by omega):ite c t e=e:=if_neg hc
theorem Ab.{u} {c:Prop} {h:Decidable c} {α:Sort u} {t e:α} (hc:c:=by omega):ite c t e=t:=if_pos hc
theorem Ac {a b:Prop} (h:a) (k:b):a/\b:=⟨h,k⟩
theorem Ad.{u} {c:Prop} {h:Decidable c} (hc:c) {α:Sort u} {t e:α}:ite c t e=t:=if_pos hc
theorem Ae.{u} {c:Prop} {h:Decidable c} (hc:¬c) {α:Sort u} {t e:α}:ite c t e=e:=if_neg hc
theorem Af.{u} {α:Type u} {a:α} {l:List α} {i:Nat}:l[i]?=some a<->∃ h:i<l.length,l[i]=a:=List.getElem?_eq_some_iff
end Go
namespace Go.Ev
open Go Go.RowKit
inductive Own where
 | none | full | seed | row (id:Nat)
 deriving DecidableEq
inductive AV where
 | val (v:Value)
 | list (xs:List AV) (o:Own)
 | elem (x:AV) (off:Nat)
 | box (l off:Nat)
 | clo (f:FuncId) (caps:List AV)
 | bnd (f:FuncId) (caps:List AV)
 | agg (cs:List AV)
 | tup (vs:List AV)
 | yld (k:Nat)
 | vec (id ver o n:Nat)
 | vel (id ver off:Nat)
 | mp (k:Nat)
 | tab (l:List (Int × FuncId))
abbrev Ag (x:Int):AV := .val (.int .i64 x)
abbrev AV.junk:AV := .tup []
instance:Inhabited AV:=⟨.junk⟩
def AV.cells:AV->List AV
 | .agg cs=>cs
 | x=>[x]
def AV.one:AV->Bool
 | .agg _ | .tup _=>false
 | _=>true
def HF:Value->Bool
 | .bool _ | .int _ _ | .float _ _ | .pointer none | .nilFunc | .nilIface | .iface _ _ | .map none=>true
 | .string s=>decide (s.size<=maxLen)
 | _=>false
structure LoopA where
 e:List (Nat × Bool × AV)
 n:Nat
 ps:Array Tmp
 asg:Code
 body:Code
 st:LoopState
 pend:Option Code
 keys:Option (List ByteArray)
inductive RowA where
 | grow (n sz:Nat)
 | vec (ver sz:Nat) (cells:List AV)
 | dead (ver:Nat)
structure St where
 boxes:List (List AV)
 rows:List RowA
 loops:List LoopA
abbrev Aj:=List (List AV)
abbrev Am:=List RowA
abbrev An:=List LoopA
structure Mem where
 N:Nat
 NR:Nat
 bx:Nat->Nat
 top:Nat->Nat
 fr:Nat->Nat
 blk:Nat->Nat
 cap:Nat->Nat
 rsz:Nat->Nat
 NL:Nat
 lb:Nat->Nat
def Mem.imm (M:Mem) (w0:World) (b off:Nat):Prop:=b<w0.heap.size\/off<M.top b
def ZbI (M:Mem) (b off cap n sz:Nat):Own->Prop
 | .none=>True
 | .full | .seed=>n=cap
 | .row id=>id<M.NR/\n<=M.fr id/\(n=M.fr id->b=M.blk id/\off=0/\cap=M.cap id/\sz=M.rsz id)
inductive R (w0:World) (M:Mem) (w:World):Value->AV->Prop
 | flat {v:Value} (h:HF v=true):R w0 M w v (.val v)
 | agg {cs:Array Value} {xs:List AV} (hl:cs.size=xs.length) (h1:∀ x∈xs,x.one=true) (h:∀ i (h1:i<cs.size) (h2:i<xs.length),R w0 M w cs[i] xs[i]):R w0 M w (.agg cs) (.agg xs)
 | tup {cs:Array Value} {xs:List AV} (hl:cs.size=xs.length) (h:∀ i (h1:i<cs.size) (h2:i<xs.length),R w0 M w cs[i] xs[i]):R w0 M w (.tuple cs) (.tup xs)
 | nil {o:Own} (ho:∀ id,o ≠ .row id):R w0 M w (.slice none 0 0) (.list [] o)
 | emp {a:Addr} {o:Own} (ho:∀ id,o ≠ .row id):R w0 M w (.slice (some a) 0 0) (.list [] o)
 | list {b off cap:Nat} {xs:List AV} {o:Own} (sz:Nat) (us:Nat->Value) (hc:xs.length<=cap) (hm:cap<=maxLen)
   (hcell:∀ i,i<xs.length->(us i).cells.size=sz/\∀ j,j<sz->M.imm w0 b (off+i*sz+j)/\w.cell? ⟨b,off+i*sz+j,none⟩=(us i).cells[j]?)
   (hu:∀ i (hi:i<xs.length),R w0 M w (us i) xs[i]) (ho:ZbI M b off cap xs.length sz o):R w0 M w (.slice (some ⟨b,off,none⟩) xs.length cap) (.list xs o)
 | elem {b off:Nat} {x:AV} (u:Value) (k:Nat) (hcell:∀ j,j<u.cells.size->M.imm w0 b (off+j)/\w.cell? ⟨b,off+j,none⟩=u.cells[j]?) (hu:R w0 M w u x) :
   R w0 M w (.pointer (some ⟨b,off+k,none⟩)) (.elem x k)
 | box {l off:Nat} (hl:l<M.N):R w0 M w (.pointer (some ⟨M.bx l,off,none⟩)) (.box l off)
 | clo {f:FuncId} {cs:Array Value} {xs:List AV} (hl:cs.size=xs.length) (h:∀ i (h1:i<cs.size) (h2:i<xs.length),R w0 M w cs[i] xs[i]):R w0 M w (.func (.func f) #[] cs) (.clo f xs)
 | bnd {f:FuncId} {cs:Array Value} {xs:List AV} (hl:cs.size=xs.length) (h:∀ i (h1:i<cs.size) (h2:i<xs.length),R w0 M w cs[i] xs[i]):R w0 M w (.func (.func f) cs #[]) (.bnd f xs)
 | yld {k:Nat} (hk:k<M.NL):R w0 M w (.func (.yield (M.lb k)) #[] #[]) (.yld k)
 | vec {id ver o n:Nat} {p:Option Addr} {cap:Nat} (hi:id<M.NR) (hv:ver<=M.fr id) (h:ver=M.fr id->p=some ⟨M.blk id,o*M.rsz id,none⟩/\cap+o=M.cap id/\n<=cap):R w0 M w (.slice p n cap) (.vec id ver o n)
 | vel {id ver off:Nat} {a:Addr} (hi:id<M.NR) (hv:ver<=M.fr id) (h:ver=M.fr id->a=⟨M.blk id,off,none⟩):R w0 M w (.pointer (some a)) (.vel id ver off)
 | mp {k:Nat} (hk:k<M.NL):R w0 M w (.map (some (M.lb k))) (.mp k)
 | tab {b:Nat} {es:Array MapEntry} {ck:Nat} {l:List (Int × FuncId)} (h:w.heap[b]? = some (.map es ck)) (hk:es.toList.map (fun e=>(e.key,e.val))=l.map fun x=>(Value.int .i64 x.1,Value.func (.func x.2) #[] #[])) (hn:∀ k,k<M.NL->M.lb k≠b):R w0 M w (.map (some b)) (.tab l)
def Mem.foreign (M:Mem) (b:Nat):Prop:=(∀ l,l<M.N->M.bx l≠b)/\(∀ i,i<M.NR->M.blk i≠b)/\∀ k,k<M.NL->M.lb k≠b
theorem Mem.own_row {M:Mem} {i:Nat} (h:i<M.NR):¬ M.foreign (M.blk i):=fun q=>q.2.1 i h rfl
structure Ext (w0:World) (M:Mem) (w:World) (M':Mem) (w':World):Prop where
 N:M.N<=M'.N
 bx:∀ l,l<M.N->M'.bx l=M.bx l
 NR:M.NR<=M'.NR
 rows:∀ id,id<M.NR->M.fr id<=M'.fr id/\(M'.fr id=M.fr id->M'.blk id=M.blk id/\M'.cap id=M.cap id/\M'.rsz id=M.rsz id)
 cell:∀ b off v,M.imm w0 b off->w.cell? ⟨b,off,none⟩=some v->w'.cell? ⟨b,off,none⟩=some v/\M'.imm w0 b off
 size:w.heap.size<=w'.heap.size
 NL:M.NL<=M'.NL
 lb:∀ k,k<M.NL->M'.lb k=M.lb k
 lnew:∀ k,M.NL<=k->k<M'.NL->w.heap.size<=M'.lb k
 objs:∀ b o,w.heap[b]? = some o->o.isCells=false->(∀ k,k<M.NL->M.lb k≠b)->w'.heap[b]? = some o
 keep:∀ b,b<w.heap.size->M.foreign b->w'.heap[b]? = w.heap[b]? /\ M'.foreign b/\M'.top b=M.top b
def KeepsObj (w w':World):Prop:=∀ (b:Nat) (o:Obj),w.heap[b]? = some o->o.isCells=false->w'.heap[b]? = some o
theorem KeepsObj.refl (w:World):KeepsObj w w:=fun _ _ h _=>h
theorem KeepsObj.trans {a b c:World} (h:KeepsObj a b) (k:KeepsObj b c):KeepsObj a c:=fun i o e d=>k i o (h i o e d) d
theorem KeepsObj.alloc (w:World) (o:Obj):KeepsObj w (w.alloc o):=fun b _ h _=>(Below.heap_alloc w o b (Array.getElem?_eq_some_iff.1 h).1).trans h
theorem Ext.refl (w0:World) (M:Mem) (w:World):Ext w0 M w M w :=
 ⟨Nat.le_refl _,fun _ _=>rfl,Nat.le_refl _,fun _ _=>⟨Nat.le_refl _,fun _=>⟨rfl,rfl,rfl⟩⟩,fun _ _ _ h k=>⟨k,h⟩,Nat.le_refl _,Nat.le_refl _,fun _ _=>rfl,fun _ _ _=>by omega,fun _ _ h _ _=>h,fun _ _ h=>⟨rfl,h,rfl⟩⟩
theorem Ext.trans {w0:World} {M1 M2 M3:Mem} {w1 w2 w3:World} (h:Ext w0 M1 w1 M2 w2) (k:Ext w0 M2 w2 M3 w3):Ext w0 M1 w1 M3 w3 where
 N:=Nat.le_trans h.N k.N
 bx:=fun l p=>(k.bx l (Nat.lt_of_lt_of_le p h.N)).trans (h.bx l p)
 NR:=Nat.le_trans h.NR k.NR
 rows:=fun id j=>by
  obtain ⟨a1,a2⟩:=h.rows id j
  obtain ⟨n,m⟩:=k.rows id (Nat.lt_of_lt_of_le j h.NR)
  refine ⟨Nat.le_trans a1 n,fun e=>?_⟩
  have r:M2.fr id=M1.fr id:=by omega
  have E:M3.fr id=M2.fr id:=by omega
  obtain ⟨D,F,C⟩:=a2 r
  obtain ⟨w,t,s⟩:=m E
  exact ⟨w.trans D,t.trans F,s.trans C⟩
 cell:=fun b g v f x=>by
  obtain ⟨u,y⟩:=h.cell b g v f x
  exact k.cell b g v y u
 size:=Nat.le_trans h.size k.size
 NL:=Nat.le_trans h.NL k.NL
 lb:=fun i f=>(k.lb i (Nat.lt_of_lt_of_le f h.NL)).trans (h.lb i f)
 lnew:=fun i a d=>by
  by_cases c:i<M2.NL
  ·rw [k.lb i c];exact h.lnew i a c
  ·exact Nat.le_trans h.size (k.lnew i (by omega) d)
 objs:=fun b o a d q=>k.objs b o (h.objs b o a d q) d fun i f=>by
  by_cases c:i<M1.NL
  ·rw [h.lb i c];exact q i c
  ·have:=h.lnew i (by omega) f
   have:=(Array.getElem?_eq_some_iff.1 a).1
   omega
 keep:=fun b a d=>by
  obtain ⟨a1,a2,a3⟩:=h.keep b a d
  obtain ⟨n,m,z⟩:=k.keep b (Nat.lt_of_lt_of_le a h.size) a2
  exact ⟨n.trans a1,m,z.trans a3⟩
theorem Og {u:Value} {j:Nat} (h:j<u.cells.size):∃ v,u.cells[j]? = some v:=⟨_,Array.getElem?_eq_getElem h⟩
theorem R.mono {w0:World} {M M':Mem} {w w':World} (hx:Ext w0 M w M' w') {v:Value} {x:AV} (h:R w0 M w v x):R w0 M' w' v x:=by
 induction h with
 | flat h=>exact .flat h
 | agg hl t _ ih=>exact .agg hl t ih
 | tup hl _ ih=>exact .tup hl ih
 | nil ho=>exact .nil ho
 | emp ho=>exact .emp ho
 | @list b off cap xs o sz us hc hm hcell _ ho ih =>
  refine .list sz us hc hm (fun i d=>⟨(hcell i d).1,fun j r=>?_⟩) ih ?_
  ·obtain ⟨g,f⟩:=(hcell i d).2 j r
   obtain ⟨v,hv⟩:=Og (u:=us i) (j:=j) (by rw [(hcell i d).1];exact r)
   obtain ⟨z,y⟩:=hx.cell _ _ v g (f.trans hv)
   exact ⟨y,z.trans hv.symm⟩
  ·cases o with
   | none=>trivial
   | full=>exact ho
   | seed=>exact ho
   | row id =>
    obtain ⟨t,C,E⟩:=ho
    obtain ⟨m,s⟩:=hx.rows id t
    refine ⟨Nat.lt_of_lt_of_le t hx.NR,Nat.le_trans C m,fun e=>?_⟩
    have D:M'.fr id=M.fr id:=by omega
    obtain ⟨a,b,c⟩:=s D
    rw [a,b,c]
    exact E (by omega)
 | @elem b off x u k hcell _ ih =>
  refine .elem u k (fun j r=>?_) ih
  obtain ⟨g,f⟩:=hcell j r
  obtain ⟨v,hv⟩:=Og (u:=u) (j:=j) r
  obtain ⟨z,y⟩:=hx.cell _ _ v g (f.trans hv)
  exact ⟨y,z.trans hv.symm⟩
 | box hl=>rw [<-hx.bx _ hl];exact .box (Nat.lt_of_lt_of_le hl hx.N)
 | clo hl _ ih=>exact .clo hl ih
 | bnd hl _ ih=>exact .bnd hl ih
 | yld hk=>rw [<-hx.lb _ hk];exact .yld (Nat.lt_of_lt_of_le hk hx.NL)
 | mp hk=>rw [<-hx.lb _ hk];exact .mp (Nat.lt_of_lt_of_le hk hx.NL)
 | @tab b es ck l h hk hn =>
  refine .tab (hx.objs _ _ h rfl hn) hk fun k q=>?_
  by_cases c:k<M.NL
  ·rw [hx.lb k c];exact hn k c
  ·have t:=hx.lnew k (by omega) q
   have C:=(Array.getElem?_eq_some_iff.1 h).1
   omega
 | @vec id ver o n p cap d hv h =>
  obtain ⟨m,s⟩:=hx.rows id d
  refine .vec (Nat.lt_of_lt_of_le d hx.NR) (Nat.le_trans hv m) (fun e=>?_)
  obtain ⟨q1,q2,q3⟩:=s (by omega)
  rw [q1,q2,q3]
  exact h (by omega)
 | @vel id ver off a d hv h =>
  obtain ⟨m,s⟩:=hx.rows id d
  refine .vel (Nat.lt_of_lt_of_le d hx.NR) (Nat.le_trans hv m) (fun e=>?_)
  obtain ⟨q1,q2,q3⟩:=s (by omega)
  rw [q1]
  exact h (by omega)
theorem R.cells {w0:World} {M:Mem} {w:World} {v:Value} {x:AV} (h:R w0 M w v x) :
  v.cells.size=x.cells.length/\∀ i (h1:i<v.cells.size) (h2:i<x.cells.length),R w0 M w v.cells[i] x.cells[i]:=by
 have one:∀ (u:Value) (y:AV),u.cells = #[u]->y.cells=[y]->R w0 M w u y ->
   u.cells.size=y.cells.length/\∀ i (h1:i<u.cells.size) (h2:i<y.cells.length),R w0 M w u.cells[i] y.cells[i]:=by
  intro u y a b c
  rw [a,b]
  refine ⟨rfl,fun i h1 h2=>?_⟩
  have:i=0:=by simp at h2;exact h2
  subst this
  exact c
 cases h with
 | agg hl _ h=>exact ⟨hl,h⟩
 | flat hf=>exact one _ _ (by cases v<;>first | rfl | simp [HF] at hf) rfl (.flat hf)
 | tup hl h=>exact one _ _ rfl rfl (.tup hl h)
 | nil ho=>exact one _ _ rfl rfl (.nil ho)
 | emp ho=>exact one _ _ rfl rfl (.emp ho)
 | list sz us hc hm hcell a ho=>exact one _ _ rfl rfl (.list sz us hc hm hcell a ho)
 | elem u k hcell a=>exact one _ _ rfl rfl (.elem u k hcell a)
 | box hl=>exact one _ _ rfl rfl (.box hl)
 | clo hl h=>exact one _ _ rfl rfl (.clo hl h)
 | bnd hl h=>exact one _ _ rfl rfl (.bnd hl h)
 | yld hk=>exact one _ _ rfl rfl (.yld hk)
 | mp hk=>exact one _ _ rfl rfl (.mp hk)
 | tab h hk hn=>exact one _ _ rfl rfl (.tab h hk hn)
 | vec hi hv h=>exact one _ _ rfl rfl (.vec hi hv h)
 | vel hi hv h=>exact one _ _ rfl rfl (.vel hi hv h)
theorem R.oneCell {w0:World} {M:Mem} {w:World} {v:Value} {x:AV} (h:R w0 M w v x) (hx:x.one=true):v.oneCell'=true:=by
 cases h with
 | agg=>cases hx
 | flat hf=>cases v<;>first | rfl | simp [HF] at hf
 | tup=>cases hx
 | _=>rfl
theorem R.cellsOne {w0:World} {M:Mem} {w:World} {v:Value} {x:AV} (h:R w0 M w v x) (ht:∀ vs,x ≠ .tup vs):∀ c∈x.cells,c.one=true:=by
 cases h with
 | agg hl h1 h=>exact h1
 | tup=>exact absurd rfl (ht _)
 | _=>intro c hc;simp only [AV.cells,List.mem_singleton] at hc;subst hc;rfl
theorem R.isAgg {w0:World} {M:Mem} {w:World} {v:Value} {xs:List AV} (h:R w0 M w v (.agg xs)):∃ cs,v = .agg cs:=by
 cases h with
 | agg hl h1 h=>exact ⟨_,rfl⟩
theorem R.cells_one {w0:World} {M:Mem} {w:World} {v:Value} {x:AV} (h:R w0 M w v x) (hx:x.one=true):v.cells = #[v]/\x.cells=[x]:=by
 cases h with
 | agg=>cases hx
 | flat hf=>exact ⟨by cases v<;>first | rfl | simp [HF] at hf,rfl⟩
 | tup=>cases hx
 | _=>exact ⟨rfl,rfl⟩
def AV.pubCell:AV->AV
 | .list xs _ => .list xs .none
 | x=>x
def AV.pub:AV->AV
 | .agg cs => .agg (cs.map AV.pubCell)
 | .list xs _ => .list xs .none
 | x=>x
theorem R.pubCell {w0:World} {M:Mem} {w:World} {v:Value} {x:AV} (h:R w0 M w v x):R w0 M w v x.pubCell:=by
 cases h with
 | nil ho=>exact .nil (fun id=>by simp)
 | emp ho=>exact .emp (fun id=>by simp)
 | list sz us hc hm hcell hu ho=>exact .list sz us hc hm hcell hu trivial
 | flat hf=>exact .flat hf
 | agg hl h1 h=>exact .agg hl h1 h
 | tup hl h=>exact .tup hl h
 | elem u k hcell hu=>exact .elem u k hcell hu
 | box hl=>exact .box hl
 | clo hl h=>exact .clo hl h
 | bnd hl h=>exact .bnd hl h
 | yld hk=>exact .yld hk
 | mp hk=>exact .mp hk
 | tab h hk hn=>exact .tab h hk hn
 | vec hi hv h=>exact .vec hi hv h
 | vel hi hv h=>exact .vel hi hv h
theorem AV.one_pubCell (x:AV):x.pubCell.one=x.one:=by cases x<;>rfl
theorem R.pub {w0:World} {M:Mem} {w:World} {v:Value} {x:AV} (h:R w0 M w v x):R w0 M w v x.pub:=by
 cases h with
 | nil ho=>exact .nil (fun id=>by simp)
 | emp ho=>exact .emp (fun id=>by simp)
 | list sz us hc hm hcell hu ho=>exact .list sz us hc hm hcell hu trivial
 | flat hf=>exact .flat hf
 | agg hl h1 h=>exact .agg (by simpa using hl) (fun x d=>by obtain ⟨y,c,rfl⟩:=List.mem_map.1 d;rw [AV.one_pubCell];exact h1 y c) (fun i a b=>by simp only [List.getElem_map];exact (h i a (by simpa using b)).pubCell)
 | tup hl h=>exact .tup hl h
 | elem u k hcell hu=>exact .elem u k hcell hu
 | box hl=>exact .box hl
 | clo hl h=>exact .clo hl h
 | bnd hl h=>exact .bnd hl h
 | yld hk=>exact .yld hk
 | mp hk=>exact .mp hk
 | tab h hk hn=>exact .tab h hk hn
 | vec hi hv h=>exact .vec hi hv h
 | vel hi hv h=>exact .vel hi hv h
theorem AV.pub_cells_length (x:AV):x.pub.cells.length=x.cells.length:=by cases x<;>simp [AV.pub,AV.cells]
def Fv (P:Program) (t:TypeId):Option (Nat × Bool) :=
 match P.info? t,P.underlying t with
 | some i,some d=>some (i.size,match d with | .struct _ | .array _ _=>true | _=>false)
 | _,_=>none
def Bn (P:Program) (t:TypeId) (f:Nat):Option (Nat × Nat × Bool) :=
 match P.underlying t with
 | some (.struct fs)=>match fs[f]? with
  | some x=>(Fv P x.type).map fun (s,a)=>(x.offset,s,a)
  | none=>none
 | _=>none
def GN (P:Program) (t:TypeId):Option (TypeId × Nat × Bool × Nat) :=
 match P.underlying t with
 | some (.slice e)=>match P.info? e,Fv P e with
  | some i,some (s,a)=>some (e,s,a,i.bytes)
  | _,_=>none
 | _=>none
def B9 (P:Program) (t:TypeId):Option (Nat × Nat × Bool) :=
 match P.underlying t with
 | some (.array n e)=>(Fv P e).map fun (s,a)=>(n,s,a)
 | _=>none
def CL (P:Program) (t:TypeId):Bool :=
 match P.underlying t with | some .string=>true | _=>false
def HG (P:Program) (t:TypeId):Bool :=
 match P.underlying t with
 | some (.slice e)=>(match P.underlying e with | some (.int .u8)=>true | _=>false)&&(match Fv P e with | some (1,false)=>true | _=>false)
 | _=>false
def LV (P:Program) (t:TypeId):Option IntKind :=
 match P.underlying t with | some (.int k)=>some k | _=>none
def LN:Value->AV
 | .slice none 0 0 => .list [] .full
 | v => .val v
def HB:Value->AV
 | .agg cs => .agg (cs.toList.map LN)
 | v=>LN v
def OR:Value->Bool
 | .slice none 0 0=>true
 | v=>HF v
def Oe:Value->Bool
 | .agg cs=>cs.toList.all OR
 | v=>OR v
def Bv (P:Program) (t:TypeId):Option (List AV) :=
 match P.info? t with
 | some i=>match i.zero with
  | some z=>if Oe z&&z.cells.size == i.size then some (HB z).cells else none
  | none=>none
 | none=>none
abbrev Env:=List (Nat × Bool × AV)
def look:Env->Nat->Option (Bool × AV)
 | [],_=>none
 | (k,c,v)::r,s=>if k=s then some (c,v) else look r s
def BW:List Nat->Env->Env
 | [],_=>[]
 | s::K,e=>match look e s with
  | some (c,v)=>(s,c,v)::BW K e
  | none=>BW K e
def Au (e:Env):Operand->AV
 | .tmp t=>match look e t with | some (_,v)=>v | none => .junk
 | .const v=>HB v
 | .func f => .clo f []
 | .global _ => .junk
def A4 (e:Env) (c:Bool):Operand->Prop
 | .tmp t=>match look e t with | some (c',_)=>(c=true->c'=true) | none=>False
 | .const v=>Oe v=true
 | .func _=>True
 | .global _=>False
def IY:AV->Bool
 | .val (.bool b)=>b
 | _=>false
def RY:AV->Bool
 | .val (.bool _)=>true
 | _=>false
def AV.sel (t:Bool):AV->AV->AV
 | .val (.bool x),.val (.bool y) => .val (.bool (if t then x else y))
 | a,b=>if t then a else b
def BH (l:List AV) (off:Nat) (xs:List AV):List AV:=l.take off++xs++l.drop (off+xs.length)
def WC (l:List AV) (i:Nat):AV:=l.getD i .junk
def PY (P:Program):List Field->Option (List (Nat × Nat))
 | []=>some []
 | f::fs=>match P.info? f.type,PY P fs with
  | some i,some r=>some ((f.offset,i.size)::r)
  | _,_=>none
def BF (P:Program) (t:TypeId):Option (List (Nat × Nat)) :=
 match P.underlying t with
 | some (.struct fs)=>PY P fs.toList
 | _=>none
def Ci (P:Program) (t:TypeId) (i:Nat):Option (Nat × Nat) :=
 match BF P t with
 | some l=>l[i]?
 | none=>match B9 P t with
  | some (_,s,_)=>some (i*s,s)
  | none=>none
def EE (P:Program) (t:TypeId):List AV->List (Nat × AV)->List AV
 | cs,[]=>cs
 | cs,(i,x)::r=>match Ci P t i with
  | some (o,_)=>EE P t (BH cs o x.cells) r
  | none=>cs
def C0 (P:Program) (t:TypeId):Nat->List (Nat × AV)->Prop
 | _,[]=>True
 | n,(i,x)::r=>(match Ci P t i with
  | some (o,s)=>x.cells.length=s/\o+s<=n
  | none=>False)/\C0 P t n r
def A9:AV->Bool
 | .tup _=>false
 | _=>true
def Eh:AV->Bool
 | .agg _=>true
 | _=>false
def inK:IntKind->Int->Prop
 | .i8,n => -128<=n/\n<=127
 | .i16,n => -32768<=n/\n<=32767
 | .i32,n => -2147483648<=n/\n<=2147483647
 | .i64,n => -9223372036854775808<=n/\n<=9223372036854775807
 | .u8,n=>0<=n/\n<=255
 | .u16,n=>0<=n/\n<=65535
 | .u32,n=>0<=n/\n<=4294967295
 | .u64,n=>0<=n/\n<=18446744073709551615
def OA (x y:ByteArray):Bool:=x.data.toList == y.data.toList
def sLt (x y:ByteArray):Bool:=Op.bytesLess x.data.toList y.data.toList
def evBin:BinOp->Value->Value->Prop × Value
 | .add,.int k a,.int k' b=>(k=k'/\inK k (a+b),.int k (a+b))
 | .sub,.int k a,.int k' b=>(k=k'/\inK k (a-b),.int k (a-b))
 | .mul,.int k a,.int k' b=>(k=k'/\inK k (a*b),.int k (a*b))
 | .quo,.int k a,.int k' b=>(k=k'/\b≠0/\inK k (a.tdiv b),.int k (a.tdiv b))
 | .rem,.int k a,.int k' b=>(k=k'/\b≠0,.int k (a.tmod b))
 | .eql,.int k a,.int k' b=>(k=k',.bool (decide (a=b)))
 | .neq,.int k a,.int k' b=>(k=k',.bool (!decide (a=b)))
 | .lss,.int k a,.int k' b=>(k=k',.bool (decide (a<b)))
 | .leq,.int k a,.int k' b=>(k=k',.bool (decide (a<=b)))
 | .gtr,.int k a,.int k' b=>(k=k',.bool (decide (b<a)))
 | .geq,.int k a,.int k' b=>(k=k',.bool (decide (b<=a)))
 | .add,.string x,.string y=>(x.size+y.size<=9223372036854775807,.string (x++y))
 | .eql,.string x,.string y=>(True,.bool (OA x y))
 | .neq,.string x,.string y=>(True,.bool (!OA x y))
 | .lss,.string x,.string y=>(True,.bool (sLt x y))
 | .leq,.string x,.string y=>(True,.bool (sLt x y||OA x y))
 | .gtr,.string x,.string y=>(True,.bool (!(sLt x y||OA x y)))
 | .geq,.string x,.string y=>(True,.bool (!sLt x y))
 | .shr,.int k a,.int _ b=>(b=1/\0<=a,.int k (a / 2))
 | _,_,_=>(False,undef)
def evBB:BinOp->Bool->Bool->Prop × Bool
 | .eql,a,b=>(True,a == b)
 | .neq,a,b=>(True,a != b)
 | _,_,_=>(False,false)
def Lt (P:Program) (t:TypeId):Bool :=
 match P.underlying t with | some .bool=>true | _=>false
def Ju (P:Program) (t:TypeId):AV->AV->Prop
 | .val (.int k _),.val (.int k' _)=>(LV P t).isSome=true/\k=k'
 | .val (.string _),.val (.string _)=>CL P t=true
 | .val (.bool _),.val (.bool _)=>Lt P t=true
 | _,_=>False
def eqCell:AV->AV->Bool
 | .val (.int _ a),.val (.int _ b)=>decide (a=b)
 | .val (.string a),.val (.string b)=>OA a b
 | .val (.bool a),.val (.bool b)=>a == b
 | _,_=>false
def P4:List AV->List AV->Bool
 | [],[]=>true
 | x::xs,y::ys=>eqCell x y&&P4 xs ys
 | _,_=>false
def Vw (P:Program):List Field->Nat->List AV->List AV->Prop
 | [],_,[],[]=>True
 | f::fs,i,x::xs,y::ys=>f.name ≠ "_" /\ f.offset=i/\Fv P f.type=some (1,false)/\Ju P f.type x y/\Vw P fs (i+1) xs ys
 | _,_,_,_=>False
def eqT (P:Program) (t:TypeId):Option (List Field) :=
 match P.underlying t with
 | some (.struct fs)=>if P.stoodInHeld t=false/\P.eqGuardType P.depth t=false then some fs.toList else none
 | _=>none
def Rt (P:Program) (op:BinOp) (t:TypeId) (xs ys:List AV):Prop × Bool :=
 match eqT P t,op with
 | some fs,.eql=>(Vw P fs 0 xs ys,P4 xs ys)
 | some fs,.neq=>(Vw P fs 0 xs ys,!P4 xs ys)
 | _,_=>(False,false)
def Lo:AV->List AV
 | .agg xs=>xs
 | _=>[]
def evUn:UnOp->Value->Prop × Value
 | .not,.bool b=>(True,.bool (!b))
 | .neg,.int k a=>(inK k (0-a),.int k (0-a))
 | _,_=>(False,undef)
def Ge:AV->Value
 | .val v=>v
 | _=>undef
def DG:AV->Bool
 | .val _=>true
 | _=>false
def Ba:AV->Int
 | .val (.int _ n)=>n
 | _=>0
def Jb:AV->IntKind
 | .val (.int k _)=>k
 | _ => .i64
def Da:AV->Bool
 | .val (.int _ _)=>true
 | _=>false
def Be:AV->List AV
 | .list xs _=>xs
 | _=>[]
def BG:AV->Bool
 | .list _ _=>true
 | _=>false
def JF:AV->Bool
 | .val (.string _)=>true
 | _=>false
def Zb8:AV->ByteArray
 | .val (.string s)=>s
 | _ => .empty
def Tn:AV->Prop
 | .val (.int .u8 n)=>0<=n/\n<=255
 | _=>False
def E4 (xs:List AV):ByteArray:=⟨(xs.map fun x=>UInt8.ofNat (Ba x).toNat).toArray⟩
def FO (l:List UInt8):List AV:=l.map fun b => .val (.int .u8 b.toNat)
def Df (rows:Am) (id ver:Nat):Option (Nat × List AV) :=
 match rows[id]? with
 | some (.vec v sz cs)=>if v=ver then some (sz,cs) else none
 | _=>none
def Bt (st:St):AV->List AV
 | .box l _=>st.boxes.getD l []
 | .elem x _=>x.cells
 | .vel id ver _=>match Df st.rows id ver with | some (_,cs)=>cs | none=>[]
 | _=>[]
def Dh:AV->Nat
 | .box _ o=>o
 | .elem _ o=>o
 | .vel _ _ o=>o
 | _=>0
def Cm (st:St):AV->Bool
 | .box l _=>decide (l<st.boxes.length)
 | .elem (.tup _) _=>false
 | .elem _ _=>true
 | .vel id ver _=>(Df st.rows id ver).isSome
 | _=>false
def QY (x:AV) (n:Nat):AV :=
 match x with
 | .box l o => .box l (o+n)
 | .elem y o => .elem y (o+n)
 | .vel id ver o => .vel id ver (o+n)
 | x=>x
def OJ (agg:Bool) (cs:List AV) (off sz:Nat):AV:=if agg then .agg ((cs.drop off).take sz) else WC cs off
def Uc (st:St) (a:AV) (xs:List AV):St :=
 match a with
 | .box l o=>{ st with boxes:=st.boxes.set l (BH (st.boxes.getD l []) o xs) }
 | .vel id ver o=>match Df st.rows id ver with
  | some (sz,cs)=>{ st with rows:=st.rows.set id (.vec ver sz (BH cs o xs)) }
  | none=>st
 | _=>st
def KB:AV->Bool
 | .box _ _=>true
 | .vel _ _ _=>true
 | _=>false
def Q9 (P:Program) (t:TypeId) (x:AV):Prop × AV :=
 match x with
 | .val (.string s)=>(CL P t=true,.val (.int .i64 s.size))
 | .list xs _=>((GN P t).isSome=true,.val (.int .i64 xs.length))
 | .vec _ _ _ n=>((GN P t).isSome=true,.val (.int .i64 n))
 | _=>(False,.junk)
def Cc (P:Program) (el sz by8:Nat) (n:Nat) (xs:List AV):Prop :=
 0<sz/\(Bv P el).isSome=true/\(n+xs.length)*by8<=140737488355328/\n+xs.length<=4611686018427387904/\(∀ y∈xs,y.cells.length=sz/\A9 y=true)
def BE (P:Program) (st:St) (t:TypeId) (s x:AV):Prop × AV × St :=
 match GN P t with
 | some (el,sz,_,by8) =>
  match s with
  | .list ys .full=>if (Be x).length=0 then (BG x=true/\0<sz,.list ys .full,st)
   else (BG x=true/\Cc P el sz by8 ys.length (Be x)/\(∀ y∈ys,y.cells.length=sz),.list (ys++(Be x).map AV.pub) (.row st.rows.length),{ st with rows:=st.rows++[.grow (ys.length+(Be x).length) sz] })
  | .list ys (.row id)=>(BG x=true/\Cc P el sz by8 ys.length (Be x)/\(∀ y∈ys,y.cells.length=sz)/\st.rows[id]? = some (.grow ys.length sz),.list (ys++(Be x).map AV.pub) (.row id),{ st with rows:=st.rows.set id (.grow (ys.length+(Be x).length) sz) })
  | .list ys .seed=>if (Be x).length=0 then (BG x=true/\0<sz,.list ys .seed,st)
   else (BG x=true/\Cc P el sz by8 0 (Be x)/\ys.length=0/\0<(Be x).length,.vec st.rows.length 0 0 (Be x).length,{ st with rows:=st.rows++[.vec 0 sz ((Be x).flatMap fun y=>y.pub.cells)] })
  | .vec id ver o n=>match Df st.rows id ver with
   | some (sz',cs)=>(BG x=true/\Cc P el sz by8 n (Be x)/\sz'=sz/\o=0/\n*sz<=cs.length,.vec id (ver+1) 0 (n+(Be x).length),{ st with rows:=st.rows.set id (.vec (ver+1) sz (cs.take (n*sz)++(Be x).flatMap fun y=>y.pub.cells)) })
   | none=>(False,.junk,st)
  | _=>(False,.junk,st)
 | none=>(False,.junk,st)
def CH (e:Env) (d:Int):Option Operand->Int
 | some y=>Ba (Au e y)
 | none=>d
def MM (e:Env) (c:Bool):Option Operand->Prop
 | some y=>A4 e c y/\Da (Au e y)=true
 | none=>True
def TV (st:St) (x:Prop × AV × St):Prop × AV × St:=(x.1,x.2.1,st)
def Ht (e:Env) (t:TypeId):Bool :=
 match look e (1000000+t) with
 | some _=>true
 | none=>false
def wrapM:BinOp->Env->Bool
 | .sub,e=>Ht e 900000
 | .add,_=>false
 | .mul,_=>false
 | .quo,_=>false
 | .rem,_=>false
 | .and,_=>false
 | .or,_=>false
 | .xor,_=>false
 | .shl,_=>false
 | .shr,_=>false
 | .andNot,_=>false
 | .eql,_=>false
 | .neq,_=>false
 | .lss,_=>false
 | .leq,_=>false
 | .gtr,_=>false
 | .geq,_=>false
def Zb6 (a b:Int):Int:=IntKind.wrap .i64 (a-b)
def SN:AV->Bool
 | .val (.int .i64 _)=>true
 | _=>false
def VZ (P:Program) (t:TypeId):Bool :=
 match P.underlying t with | some (.interface _)=>true | _=>false
def G7:Value->Bool
 | .nilIface=>true
 | _=>false
def U3:Value->Bool
 | .nilIface=>true
 | .iface _ _=>true
 | _=>false
def Tu:Operand->Bool
 | .const v=>G7 v
 | .tmp _=>false
 | .func _=>false
 | .global _=>false
def J7:Value->Bool
 | .slice none _ _=>true
 | .pointer none=>true
 | _=>false
def VN:Operand->Bool
 | .const v=>J7 v
 | .tmp _=>false
 | .func _=>false
 | .global _=>false
def YV:Operand->Value
 | .const v=>v
 | _ => .bool false
def Zbo:Value->AV->Bool
 | .slice _ _ _,.list (_::_) _=>true
 | .pointer _,.box _ _=>true
 | .pointer _,.elem _ _=>true
 | _,_=>false
def ZgS (P:Program) (t:TypeId) (v:Value):Bool :=
 match v,P.underlying t with
 | .slice _ _ _,some (.slice _)=>true
 | .pointer _,some (.pointer _)=>true
 | _,_=>false
def neB:BinOp->Option Bool
 | .eql=>some false
 | .neq=>some true
 | _=>none
def Sl:BinOp->Value->Prop × Bool
 | .eql,v=>(U3 v=true,G7 v)
 | .neq,v=>(U3 v=true,!G7 v)
 | _,_=>(False,false)
def Ze2 (P:Program) (t:TypeId):Bool :=
 match P.underlying t with
 | some (.map kt et)=>CL P kt&&(match Bv P et with | some []=>true | _=>false)
 | _=>false
def Zj (P:Program) (t:TypeId):Bool :=
 match P.underlying t with
 | some (.map kt et)=>(match P.underlying kt with | some (.int .i64)=>true | _=>false)&&(match P.info? et with | some i=>(match i.zero with | some .nilFunc=>true | _=>false) | none=>false)
 | _=>false
def OE:List (Int × FuncId)->Int->AV × Bool
 | [],_=>(.val .nilFunc,false)
 | (k,f)::l,n=>if k=n then (.clo f [],true) else OE l n
def ZK (ks:List ByteArray):LoopA:=⟨[],0,#[],.skip,.skip,.ready,none,some ks⟩
def Pi (st:St) (i:Nat):Option (List ByteArray):=(st.loops[i]?).bind (·.keys)
def WU (ks:List ByteArray) (s:ByteArray):Bool:=ks.any fun x=>OA x s
def Zbd (ks:List ByteArray) (s:ByteArray):List ByteArray:=if WU ks s then ks else ks++[s]
theorem Rj {st:St} {i:Nat} {ks:List ByteArray} (h:Pi st i=some ks):∃ la,st.loops[i]? = some la/\la.keys=some ks:=Option.bind_eq_some_iff.1 h
def Bj (P:Program) (e:Env) (c:Bool) (st:St):Op->Prop × AV × St
 | .move x | .assign x=>(A4 e c x,Au e x,st)
 | .pick b x y=>(A4 e c b/\RY (Au e b)=true/\(c=true->IY (Au e b)=true->A4 e true x)/\(c=true->IY (Au e b)=false->A4 e true y),AV.sel (IY (Au e b)) (Au e x) (Au e y),st)
 | .alloc t=>match Bv P t with
  | some z=>(c=true,.box st.boxes.length 0,{ st with boxes:=st.boxes++[z] })
  | none=>(False,.junk,st)
 | .box _ x=>(c=true/\A4 e c x/\A9 (Au e x)=true,.box st.boxes.length 0,{ st with boxes:=st.boxes++[(Au e x).cells] })
 | .build t ps=>match Bv P t with
  | some z=>(((BF P t).isSome=true\/(B9 P t).isSome=true)/\(∀ p∈ps.toList,A4 e c p.2/\A9 (Au e p.2)=true)/\C0 P t z.length (ps.toList.map fun p=>(p.1,Au e p.2)),.agg (EE P t z (ps.toList.map fun p=>(p.1,Au e p.2))),st)
  | none=>(False,.junk,st)
 | .buildSlice t n ps =>
  let vs:=ps.toList.map fun p=>Au e p.2
  match GN P t with
  | some (el,sz,_,_)=>match Ht e t with
   | false=>((∀ p∈ps.toList,A4 e c p.2)/\ps.toList.map (·.1)=List.range n/\n*sz<=16777216/\0<sz/\(Bv P el).isSome=true/\(∀ x∈vs,x.cells.length=sz),.list (vs.map AV.pub) .full,st)
   | true=>(c=true/\(∀ p∈ps.toList,A4 e c p.2)/\ps.toList.map (·.1)=List.range n/\n*sz<=16777216/\0<sz/\(Bv P el).isSome=true/\(∀ x∈vs,x.cells.length=sz)/\(∀ x∈vs,A9 x=true),.vec st.rows.length 0 0 n,{ st with rows:=st.rows++[.vec 0 sz (vs.flatMap fun x=>x.pub.cells)] })
  | none=>(False,.junk,st)
 | .load t a=>match Fv P t with
  | some (sz,ag)=>(A4 e c a/\Cm st (Au e a)=true/\Dh (Au e a)+sz<=(Bt st (Au e a)).length/\(ag=true\/sz=1),OJ ag (Bt st (Au e a)) (Dh (Au e a)) sz,st)
  | none=>(False,.junk,st)
 | .store t a v=>match Fv P t with
  | some (sz,_)=>(c=true/\A4 e c a/\A4 e c v/\KB (Au e a)=true/\Cm st (Au e a)=true/\A9 (Au e v)=true/\(Au e v).cells.length=sz/\Dh (Au e a)+sz<=(Bt st (Au e a)).length,.junk,Uc st (Au e a) (Au e v).cells)
  | none=>(False,.junk,st)
 | .nilCheck x=>(A4 e c x/\Cm st (Au e x)=true,Au e x,st)
 | .binOp op t x y _=>if RY (Au e x)&&RY (Au e y) then (A4 e c x/\A4 e c y/\Lt P t=true/\(evBB op (IY (Au e x)) (IY (Au e y))).1,.val (.bool (evBB op (IY (Au e x)) (IY (Au e y))).2),st)
  else if Eh (Au e x)&&Eh (Au e y) then (A4 e c x/\A4 e c y/\(Rt P op t (Lo (Au e x)) (Lo (Au e y))).1,.val (.bool (Rt P op t (Lo (Au e x)) (Lo (Au e y))).2),st)
  else if Tu y then (A4 e c x/\DG (Au e x)=true/\VZ P t=true/\(Sl op (Ge (Au e x))).1,.val (.bool (Sl op (Ge (Au e x))).2),st)
  else if VN y then (A4 e c x/\ZgS P t (YV y)=true/\Zbo (YV y) (Au e x)=true/\(neB op).isSome=true,.val (.bool ((neB op).getD false)),st)
  else if wrapM op e then (A4 e c x/\A4 e c y/\SN (Au e x)=true/\SN (Au e y)=true,Ag (Zb6 (Ba (Au e x)) (Ba (Au e y))),st)
  else (A4 e c x/\A4 e c y/\DG (Au e x)=true/\DG (Au e y)=true/\(evBin op (Ge (Au e x)) (Ge (Au e y))).1,.val (evBin op (Ge (Au e x)) (Ge (Au e y))).2,st)
 | .unOp op _ x=>(A4 e c x/\DG (Au e x)=true/\(evUn op (Ge (Au e x))).1,.val (evUn op (Ge (Au e x))).2,st)
 | .convert s d x=>match LV P s,LV P d with
  | some _,some k=>(A4 e c x/\Da (Au e x)=true/\inK k (Ba (Au e x)),.val (.int k (Ba (Au e x))),st)
  | some _,none=>(A4 e c x/\Da (Au e x)=true/\CL P d=true,.val (.string (Utf8.encode (Ba (Au e x)))),st)
  | none,_=>if CL P s&&CL P d then (A4 e c x/\JF (Au e x)=true,Au e x,st)
   else if HG P s&&CL P d then match Au e x with
    | .vec id ver o n=>match Df st.rows id ver with
     | some (sz',cs)=>(A4 e c x/\sz'=1/\o+n<=cs.length/\n<=9223372036854775807/\(∀ y∈(cs.drop o).take n,Tn y),.val (.string (E4 ((cs.drop o).take n))),st)
     | none=>(False,.junk,st)
    | _=>(A4 e c x/\BG (Au e x)=true/\(Be (Au e x)).length<=9223372036854775807/\(∀ y∈Be (Au e x),Tn y),.val (.string (E4 (Be (Au e x)))),st)
   else if CL P s&&HG P d then (c=true/\A4 e c x/\JF (Au e x)=true,.list (FO (Zb8 (Au e x)).data.toList) .none,st)
   else (False,.junk,st)
 | .makeFunc (.func f) fi cap=>if fi.size=0 then ((∀ x∈cap.toList,A4 e c x),.clo f (cap.toList.map (Au e)),st) else (cap.size=0/\(∀ x∈fi.toList,A4 e c x),.bnd f (fi.toList.map (Au e)),st)
 | .makeSlice t len cap=>match GN P t with
  | some (el,sz,_,by8)=>match Bv P el with
   | some z=>(c=true/\A4 e c len/\A4 e c cap/\Da (Au e len)=true/\Da (Au e cap)=true/\0<=Ba (Au e len)/\Ba (Au e len)<=Ba (Au e cap)/\Ba (Au e cap)*by8<=140737488355328/\Ba (Au e cap)<=4611686018427387904/\0<sz/\z.length=sz/\(Ba (Au e len)=0\/Ht e t=true\/sz=1),
     if Ht e t=true then .vec st.rows.length 0 0 (Ba (Au e len)).toNat else if Ba (Au e len)=0 then .list [] (.row st.rows.length) else .list (List.replicate (Ba (Au e len)).toNat (WC z 0)) .none,
     if Ht e t=true then { st with rows:=st.rows++[.vec 0 sz ((List.replicate (Ba (Au e len)).toNat z).flatten)] } else if Ba (Au e len)=0 then { st with rows:=st.rows++[.grow 0 sz] } else st)
   | none=>(False,.junk,st)
  | none=>(False,.junk,st)
 | .slice t x lo hi mx=>match Au e x with
  | .vec id ver o n=>match GN P t,Df st.rows id ver with
   | some (_,sz,_,_),some (sz',_)=>(A4 e c x/\MM e c lo/\MM e c hi/\mx.isNone=true/\0<=CH e 0 lo/\CH e 0 lo<=CH e n hi/\CH e n hi<=n/\(CH e 0 lo=0\/CH e 0 lo<n)/\sz'=sz,.vec id ver (o+(CH e 0 lo).toNat) ((CH e n hi).toNat-(CH e 0 lo).toNat),st)
   | _,_=>(False,.junk,st)
  | .val (.string s) =>
   (CL P t=true/\A4 e c x/\MM e c lo/\MM e c hi/\mx.isNone=true/\0<=CH e 0 lo/\CH e 0 lo<=CH e s.size hi/\CH e s.size hi<=s.size,.val (.string (s.extract (CH e 0 lo).toNat (CH e s.size hi).toNat)),st)
  | .list xs _=>match GN P t with
   | some (_,sz,_,_)=>match mx with
    | none=>(A4 e c x/\MM e c lo/\MM e c hi/\0<=CH e 0 lo/\CH e 0 lo<=CH e xs.length hi/\CH e xs.length hi<=xs.length/\(CH e 0 lo=0\/∀ y∈xs,y.cells.length=sz),.list ((xs.take (CH e xs.length hi).toNat).drop (CH e 0 lo).toNat) .none,st)
    | some m=>(A4 e c x/\MM e c lo/\MM e c hi/\MM e c (some m)/\CH e 0 lo=0/\CH e 1 hi=0/\CH e 1 (some m)=0,.list [] .full,st)
   | none=>(False,.junk,st)
  | _=>(False,.junk,st)
 | .fieldAddr t x f=>match Bn P t f with
  | some (o,sz,_)=>(A4 e c x/\Cm st (Au e x)=true/\0<sz,QY (Au e x) o,st)
  | none=>(False,.junk,st)
 | .field t x f=>match Bn P t f with
  | some (o,sz,ag)=>(A4 e c x/\Eh (Au e x)=true/\o+sz<=(Au e x).cells.length/\(ag=true\/sz=1),OJ ag (Au e x).cells o sz,st)
  | none=>(False,.junk,st)
 | .indexAddr t x i=>TV st <| match GN P t with
  | some (_,sz,_,_)=>match Au e x with
   | .vec id ver o n=>match Df st.rows id ver with
    | some (sz',_)=>(A4 e c x/\A4 e c i/\Da (Au e i)=true/\0<=Ba (Au e i)/\Ba (Au e i)<n/\sz'=sz,.vel id ver ((o+(Ba (Au e i)).toNat)*sz),st)
    | none=>(False,.junk,st)
   | _=>(A4 e c x/\A4 e c i/\BG (Au e x)=true/\Da (Au e i)=true/\0<=Ba (Au e i)/\Ba (Au e i)<(Be (Au e x)).length/\(WC (Be (Au e x)) (Ba (Au e i)).toNat).cells.length=sz,.elem (WC (Be (Au e x)) (Ba (Au e i)).toNat) 0,st)
  | none=>match B9 P t with
   | some (n,sz,_)=>(A4 e c x/\A4 e c i/\Cm st (Au e x)=true/\Da (Au e i)=true/\0<=Ba (Au e i)/\Ba (Au e i)<n,QY (Au e x) ((Ba (Au e i)).toNat*sz),st)
   | none=>(False,.junk,st)
 | .index t x i=>TV st <| match Au e x with
  | .val (.string s)=>(CL P t=true/\A4 e c x/\A4 e c i/\Da (Au e i)=true/\0<=Ba (Au e i)/\Ba (Au e i)<s.size,.val (.int .u8 (s.get! (Ba (Au e i)).toNat).toNat),st)
  | .agg cs=>match B9 P t with
   | some (n,sz,ag)=>(A4 e c x/\A4 e c i/\Da (Au e i)=true/\0<=Ba (Au e i)/\Ba (Au e i)<n/\cs.length=n*sz/\(ag=true\/sz=1),OJ ag cs ((Ba (Au e i)).toNat*sz) sz,st)
   | none=>(False,.junk,st)
  | _=>(False,.junk,st)
 | .extract x i=>TV st <| match Au e x with
  | .tup vs=>(A4 e c x/\i<vs.length,WC vs i,st)
  | _=>(False,.junk,st)
 | .makeMap _ r=>(c=true/\r.isNone=true,.mp st.loops.length,{ st with loops:=st.loops++[ZK []] })
 | .lookup t m k ok=>match Au e m,Au e k with
  | .tab l,.val (.int .i64 i)=>(Zj P t=true/\A4 e c m/\A4 e c k/\ok=true,.tup [(OE l i).1,.val (.bool (OE l i).2)],st)
  | .mp i,.val (.string s)=>match Pi st i with
   | some ks=>(Ze2 P t=true/\A4 e c m/\A4 e c k/\ok=true,.tup [.agg [],.val (.bool (WU ks s))],st)
   | none=>(False,.junk,st)
  | _,_=>(False,.junk,st)
 | .mapUpdate t m k v=>match Au e m,Au e k,Au e v with
  | .mp i,.val (.string s),.agg []=>match Pi st i with
   | some ks=>(c=true/\Ze2 P t=true/\A4 e c m/\A4 e c k/\A4 e c v,.junk,{ st with loops:=st.loops.set i (ZK (Zbd ks s)) })
   | none=>(False,.junk,st)
  | _,_,_=>(False,.junk,st)
 | .call ⟨.builtin .len,args,ts⟩=>match args.toList,ts.toList with
  | [x],[t]=>(A4 e c x/\(Q9 P t (Au e x)).1,(Q9 P t (Au e x)).2,st)
  | _,_=>(False,.junk,st)
 | .call ⟨.builtin .clear,args,ts⟩=>match args.toList,ts.toList with
  | [x],[t]=>match Au e x,GN P t with
   | .vec id ver o n,some (el,sz,_,_)=>match Df st.rows id ver with
    | some (sz',cs)=>(c=true/\A4 e c x/\sz'=sz/\(Bv P el).isSome=true/\0<n,.tup [],{ st with rows:=st.rows.set id (.vec ver sz (cs.take (o*sz))) })
    | none=>(False,.junk,st)
   | _,_=>(False,.junk,st)
  | _,_=>(False,.junk,st)
 | .call ⟨.builtin .append,args,ts⟩=>match args.toList,ts.toList with
  | [s,x],[t,t']=>(c=true/\A4 e c s/\A4 e c x/\t=t'/\(BE P st t (Au e s) (Au e x)).1,(BE P st t (Au e s) (Au e x)).2)
  | _,_=>(False,.junk,st)
 | .call ⟨.builtin .min,args,_⟩=>match args.toList with
  | [x,y]=>(A4 e c x/\A4 e c y/\Da (Au e x)=true/\Da (Au e y)=true/\True,.val (.int (Jb (Au e x)) (if Ba (Au e y)<Ba (Au e x) then Ba (Au e y) else Ba (Au e x))),st)
  | _=>(False,.junk,st)
 | .call ⟨.builtin .max,args,_⟩=>match args.toList with
  | [x,y]=>(A4 e c x/\A4 e c y/\Da (Au e x)=true/\Da (Au e y)=true,.val (.int (Jb (Au e x)) (if Ba (Au e x)<Ba (Au e y) then Ba (Au e y) else Ba (Au e x))),st)
  | _=>(False,.junk,st)
 | _=>(False,.junk,st)
def entryOk (w0:World) (M:Mem) (w:World) (v:Value) (x:Bool × AV):Prop:=if x.1=true then R w0 M w v x.2 else v=undef
def LoopOk (w0:World) (M:Mem) (w:World) (la:LoopA) (b:Nat):Prop :=
 match la.keys with
 | none=>∃ r:Loop,w.heap[b]? = some (.loop r)/\r.state=la.st/\r.pending=la.pend/\r.params=la.ps/\r.assign=la.asg/\r.body=la.body/\r.tmps.size=la.n/\∀ s x,look la.e s=some x->entryOk w0 M w (r.tmps.getD s undef) x
 | some ks=>la.e=[]/\∃ es ck,w.heap[b]? = some (.map es ck)/\es.toList.map (·.key)=ks.map Value.string/\(∀ e∈es.toList,e.val = .agg #[])/\ks.Nodup
theorem LoopOk.isLoop {w0:World} {M:Mem} {w:World} {la:LoopA} {b:Nat} {r:Loop} (h:LoopOk w0 M w la b) (hr:w.heap[b]? = some (.loop r)) :
  la.keys=none/\r.state=la.st/\r.pending=la.pend/\r.params=la.ps/\r.assign=la.asg/\r.body=la.body/\r.tmps.size=la.n/\∀ s x,look la.e s=some x->entryOk w0 M w (r.tmps.getD s undef) x:=by
 unfold LoopOk at h
 split at h
 ·rename_i q
  obtain ⟨f,h1,a⟩:=h
  rw [hr] at h1
  cases h1
  exact ⟨q,a⟩
 ·obtain ⟨_,d,c,h1,_⟩:=h
  rw [hr] at h1
  cases h1
theorem LoopOk.loop {w0:World} {M:Mem} {w:World} {la:LoopA} {b:Nat} (h:LoopOk w0 M w la b) (hk:la.keys=none):∃ r:Loop,w.heap[b]? = some (.loop r)/\r.state=la.st/\r.pending=la.pend/\r.params=la.ps/\r.assign=la.asg/\r.body=la.body/\r.tmps.size=la.n/\∀ s x,look la.e s=some x->entryOk w0 M w (r.tmps.getD s undef) x:=by
 unfold LoopOk at h
 rw [hk] at h
 exact h
theorem LoopOk.ofLoop {w0:World} {M:Mem} {w:World} {la:LoopA} {b:Nat} (hk:la.keys=none) (h:∃ r:Loop,w.heap[b]? = some (.loop r)/\r.state=la.st/\r.pending=la.pend/\r.params=la.ps/\r.assign=la.asg/\r.body=la.body/\r.tmps.size=la.n/\∀ s x,look la.e s=some x->entryOk w0 M w (r.tmps.getD s undef) x):LoopOk w0 M w la b:=by
 unfold LoopOk
 rw [hk]
 exact h
theorem LoopOk.obj {w0:World} {M:Mem} {w:World} {la:LoopA} {b:Nat} (h:LoopOk w0 M w la b):∃ o,w.heap[b]? = some o/\o.isCells=false/\∀ d,o ≠ .deferred d:=by
 unfold LoopOk at h
 split at h
 ·obtain ⟨r,a,_⟩:=h;exact ⟨_,a,rfl,fun d q=>by cases q⟩
 ·obtain ⟨_,e,c,a,_⟩:=h;exact ⟨_,a,rfl,fun d q=>by cases q⟩
theorem LoopOk.lt {w0:World} {M:Mem} {w:World} {la:LoopA} {b:Nat} (h:LoopOk w0 M w la b):b<w.heap.size:=by
 obtain ⟨o,q,_⟩:=h.obj
 exact (Array.getElem?_eq_some_iff.1 q).1
theorem LoopOk.nodef {w0:World} {M:Mem} {w:World} {la:LoopA} {b:Nat} {d:Option (List Deferred)} {C:Prop} (h:LoopOk w0 M w la b) (hd:w.heap[b]? = some (.deferred d)):C:=by
 obtain ⟨o,q,_,q2⟩:=h.obj
 rw [hd] at q
 exact absurd (Option.some.inj q).symm (q2 d)
theorem LoopOk.map {w0:World} {M M':Mem} {w w':World} {la:LoopA} {b b':Nat} (h:LoopOk w0 M w la b) (hb:∀ o,w.heap[b]? = some o->o.isCells=false->w'.heap[b']? = some o) (he:∀ s x v,look la.e s=some x->entryOk w0 M w v x->entryOk w0 M' w' v x):LoopOk w0 M' w' la b':=by
 unfold LoopOk at h ⊢
 split at h
 ·obtain ⟨r,c,a,i,k,m,d,j,f⟩:=h
  exact ⟨r,hb _ c rfl,a,i,k,m,d,j,fun s x hs=>he s x _ hs (f s x hs)⟩
 ·obtain ⟨n,l,g,c,a⟩:=h
  exact ⟨n,l,g,hb _ c rfl,a⟩
theorem LoopOk.ent {w0:World} {M:Mem} {w:World} {la:LoopA} {b:Nat} (h:LoopOk w0 M w la b) (s:Nat) (x:Bool × AV) (hs:look la.e s=some x):∃ v,entryOk w0 M w v x:=by
 unfold LoopOk at h
 split at h
 ·obtain ⟨r,_,_,_,_,_,_,_,a⟩:=h;exact ⟨_,a s x hs⟩
 ·obtain ⟨c,_⟩:=h;rw [c] at hs;cases hs
structure LoopSt (w0:World) (M:Mem) (w:World) (ls:An):Prop where
 NL:M.NL=ls.length
 inj:∀ k k',k<M.NL->k'<M.NL->M.lb k=M.lb k'->k=k'
 record:∀ k la,ls[k]? = some la->w0.heap.size<=M.lb k/\LoopOk w0 M w la (M.lb k)
theorem entryOk.mono {w0:World} {M M':Mem} {w w':World} (hx:Ext w0 M w M' w') {v:Value} {x:Bool × AV} (h:entryOk w0 M w v x):entryOk w0 M' w' v x:=by
 unfold entryOk at *
 split
 ·rename_i c;rw [Ad c] at h;exact h.mono hx
 ·rename_i c;rw [Ae c] at h;exact h
theorem LoopSt.mono {w0:World} {M M':Mem} {w w':World} {ls:List LoopA} (h:LoopSt w0 M w ls) (hx:Ext w0 M w M' w') (hN:M'.NL=M.NL) (hk:KeepsObj w w'):LoopSt w0 M' w' ls where
 NL:=hN.trans h.NL
 inj:=fun k c f d e=>h.inj k c (hN▸f) (hN▸d) (by rw [hx.lb k (hN▸f),hx.lb c (hN▸d)] at e;exact e)
 record:=fun k i a=>by
  have b:k<M.NL:=by rw [h.NL];exact (Af.1 a).1
  obtain ⟨a1,a2⟩:=h.record k i a
  rw [hx.lb k b]
  exact ⟨a1,a2.map (fun o q1 q2=>hk _ _ q1 q2) fun s x v _ g=>g.mono hx⟩
def RowOk (w0:World) (M:Mem) (w:World) (id:Nat):RowA->Prop
 | .grow n sz=>M.fr id=n/\M.rsz id=sz/\w0.heap.size<=M.blk id/\M.top (M.blk id)=n*sz/\(∀ l,l<M.N->M.bx l≠M.blk id)/\M.cap id<=maxLen/\n<=M.cap id /\
  ∃ c ty,w.heap[M.blk id]? = some (.cells c ty (0,0))/\c.size=M.cap id*sz
 | .vec ver sz cs=>M.fr id=ver/\M.rsz id=sz/\w0.heap.size<=M.blk id/\M.top (M.blk id)=0/\(∀ l,l<M.N->M.bx l≠M.blk id)/\M.cap id<=maxLen/\0<sz /\
  ∃ c ty,w.heap[M.blk id]? = some (.cells c ty (0,0))/\c.size=M.cap id*sz/\cs.length<=c.size/\(∀ x∈cs,x.one=true)/\∀ i (h1:i<c.size) (h2:i<cs.length),R w0 M w c[i] cs[i]
 | .dead ver=>M.fr id=ver/\w0.heap.size<=M.blk id/\(∀ l,l<M.N->M.bx l≠M.blk id)/\M.blk id<w.heap.size
theorem RowOk.base {w0:World} {M:Mem} {w:World} {id:Nat} {x:RowA} (h:RowOk w0 M w id x):w0.heap.size<=M.blk id:=by
 cases x with
 | grow n sz=>exact h.2.2.1
 | vec v sz cs=>exact h.2.2.1
 | dead v=>exact h.2.1
theorem RowOk.ne {w0:World} {M:Mem} {w:World} {id:Nat} {x:RowA} (h:RowOk w0 M w id x):∀ l,l<M.N->M.bx l≠M.blk id:=by
 cases x with
 | grow n sz=>exact h.2.2.2.2.1
 | vec v sz cs=>exact h.2.2.2.2.1
 | dead v=>exact h.2.2.1
theorem RowOk.lt {w0:World} {M:Mem} {w:World} {id:Nat} {x:RowA} (h:RowOk w0 M w id x):M.blk id<w.heap.size:=by
 cases x with
 | grow n sz=>obtain ⟨_,_,_,_,_,_,_,c,b,a,_⟩:=h;exact (Array.getElem?_eq_some_iff.1 a).1
 | vec v sz cs=>obtain ⟨_,_,_,_,_,_,_,c,b,a,_⟩:=h;exact (Array.getElem?_eq_some_iff.1 a).1
 | dead v=>exact h.2.2.2
theorem RowOk.keep {w0:World} {M M':Mem} {w w':World} {id:Nat} {x:RowA} (h:RowOk w0 M w id x) (hx:Ext w0 M w M' w') (e1:M'.fr id=M.fr id) (e2:M'.rsz id=M.rsz id) (e3:M'.blk id=M.blk id) (e4:M'.cap id=M.cap id)
  (e5:M'.top (M.blk id)=M.top (M.blk id)) (e6:∀ l,l<M'.N->M'.bx l≠M.blk id) (e7:w'.heap[M.blk id]? = w.heap[M.blk id]?):RowOk w0 M' w' id x:=by
 cases x with
 | grow n sz =>
  obtain ⟨a1,a2,a3,a4,a5,a6,a7,c,b,d,a⟩:=h
  simp only [RowOk,e1,e2,e3,e4,e5,e7]
  exact ⟨a1,a2,a3,a4,e6,a6,a7,c,b,d,a⟩
 | vec v sz cs =>
  obtain ⟨a1,a2,a3,a4,a5,a6,a7,c,b,d,a,j,e,g⟩:=h
  simp only [RowOk,e1,e2,e3,e4,e5,e7]
  exact ⟨a1,a2,a3,a4,e6,a6,a7,c,b,d,a,j,e,fun i k f=>(g i k f).mono hx⟩
 | dead v =>
  obtain ⟨a1,a2,a3,a4⟩:=h
  simp only [RowOk,e1,e3]
  exact ⟨a1,a2,e6,Nat.lt_of_lt_of_le a4 hx.size⟩
structure RelSt (w0:World) (M:Mem) (st:St) (w:World):Prop where
 below:Below w0.heap.size w0 w
 N:M.N=st.boxes.length
 NR:M.NR=st.rows.length
 top:∀ b,w.heap.size<=b->M.top b=0
 inj:∀ l l',l<M.N->l'<M.N->M.bx l=M.bx l'->l=l'
 box:∀ l cs,st.boxes[l]? = some cs->w0.heap.size<=M.bx l/\M.top (M.bx l)=0/\∃ c ty,w.heap[M.bx l]? = some (.cells c ty (0,0))/\c.size=cs.length/\(∀ x∈cs,x.one=true) /\
  ∀ i (h1:i<c.size) (h2:i<cs.length),R w0 M w c[i] cs[i]
 row:∀ id x,st.rows[id]? = some x->RowOk w0 M w id x
 rowinj:∀ i j,i<M.NR->j<M.NR->M.blk i=M.blk j->i=j
 loop:LoopSt w0 M w st.loops
structure Rel (w0:World) (n:Nat) (M:Mem) (e:Env) (st:St) (a:Act) (w:World):Prop where
 st:RelSt w0 M st w
 size:a.tmps.size=n
 env:∀ s x,look e s=some x->entryOk w0 M w (a.tmps.getD s undef) x
section
variable {P:Program} {w0:World} {n:Nat} {M:Mem} {e:Env} {st:St} {a:Act} {w:World}
theorem JQ {t:TypeId} {s:Nat} {b:Bool} (h:Fv P t=some (s,b)):∃ i d,P.info? t=some i/\i.size=s/\P.underlying t=some d/\(match d with | .struct _ | .array _ _=>true | _=>false)=b:=by
 unfold Fv at h
 split at h
 ·rename_i i d h1 h2
  simp only [Option.some.injEq,Prod.mk.injEq] at h
  exact ⟨i,d,h1,h.1,h2,h.2⟩
 ·cases h
theorem BL {t:TypeId} {s:Nat} {b:Bool} (h:Fv P t=some (s,b)) (w:World):(sizeOf t).run P w = .ok s w:=by
 obtain ⟨i,d,c,a,_,_⟩:=JQ h
 simp [sizeOf,typeInfo,c,a]
theorem Sm {t:TypeId} {s:Nat} {b:Bool} (h:Fv P t=some (s,b)) (w:World):(isAgg t).run P w = .ok b w:=by
 obtain ⟨i,d,_,_,a,h4⟩:=JQ h
 unfold isAgg
 rw [Sem.run_bind,run_underlying a w]
 subst h4
 cases d<;>rfl
theorem U9 {t:TypeId} {f o s:Nat} {b:Bool} (h:Bn P t f=some (o,s,b)):∃ fs x,P.underlying t=some (.struct fs)/\fs[f]? = some x/\x.offset=o/\Fv P x.type=some (s,b):=by
 unfold Bn at h
 split at h
 ·rename_i fs h1
  split at h
  ·rename_i x h2
   obtain ⟨⟨e,d⟩,c,a⟩:=Option.map_eq_some_iff.1 h
   simp only [Prod.mk.injEq] at a
   obtain ⟨rfl,rfl,rfl⟩:=a
   exact ⟨fs,x,h1,h2,rfl,c⟩
  ·cases h
 ·cases h
theorem E3 {t el:TypeId} {s by8:Nat} {b:Bool} (h:GN P t=some (el,s,b,by8)):∃ i,P.underlying t=some (.slice el)/\P.info? el=some i/\i.bytes=by8/\Fv P el=some (s,b):=by
 unfold GN at h
 split at h
 ·rename_i e' h1
  split at h
  ·rename_i i s' b' h2 h3
   simp only [Option.some.injEq,Prod.mk.injEq] at h
   obtain ⟨rfl,rfl,rfl,rfl⟩:=h
   exact ⟨i,h1,h2,rfl,h3⟩
  ·cases h
 ·cases h
theorem QP {t:TypeId} {m s:Nat} {b:Bool} (h:B9 P t=some (m,s,b)):∃ el,P.underlying t=some (.array m el)/\Fv P el=some (s,b):=by
 unfold B9 at h
 split at h
 ·rename_i m' el h1
  obtain ⟨⟨e,d⟩,c,a⟩:=Option.map_eq_some_iff.1 h
  simp only [Prod.mk.injEq] at a
  obtain ⟨rfl,rfl,rfl⟩:=a
  exact ⟨el,h1,c⟩
 ·cases h
theorem EI {t:TypeId} (h:CL P t=true):P.underlying t=some .string:=by
 unfold CL at h
 split at h
 ·assumption
 ·cases h
theorem Qj {t:TypeId} {k:IntKind} (h:LV P t=some k):P.underlying t=some (.int k):=by
 unfold LV at h
 split at h
 ·rename_i k' h1;cases h;exact h1
 ·cases h
theorem RO:R w0 M w undef .junk := .tup rfl (fun i a=>absurd a (by simp))
theorem Xx {v:Value} (h:OR v=true):R w0 M w v (LN v):=by
 unfold LN
 split
 ·exact .nil (fun id=>by simp)
 ·rename_i hne
  refine .flat ?_
  unfold OR at h
  split at h
  ·exact absurd rfl hne
  ·exact h
theorem YB {v:Value} (h:OR v=true):(LN v).one=true:=by
 unfold LN
 split<;>rfl
theorem LS {v:Value} (h:Oe v=true):R w0 M w v (HB v):=by
 cases v with
 | agg cs =>
  have a:∀ x∈cs.toList,OR x=true:=List.all_eq_true.1 h
  refine .agg (by simp) (fun x c=>?_) (fun i e d=>?_)
  ·obtain ⟨y,b,rfl⟩:=List.mem_map.1 c
   exact YB (a y b)
  ·simp only [List.getElem_map,Array.getElem_toList]
   exact Xx (a _ (by simp))
 | _=>exact Xx h
theorem Bi (h:Rel w0 n M e st a w) {x:Operand} (ho:A4 e true x):R w0 M w (a.eval x) (Au e x):=by
 cases x with
 | tmp t =>
  simp only [A4,Au] at *
  cases hl:look e t with
  | none=>simp [hl] at ho
  | some x =>
   obtain ⟨c,v⟩:=x
   simp only [hl] at ho ⊢
   have:=h.env t _ hl
   unfold entryOk at this
   rw [Ad (by simpa using ho)] at this
   exact this
 | const v=>exact LS ho
 | func f=>exact .clo rfl (fun i b=>absurd b (by simp))
 | global g=>exact ho.elim
theorem R.val_inv {v u:Value} (h:R w0 M w v (.val u)):v=u/\HF u=true:=by cases h;exact ⟨rfl,‹_›⟩
theorem R.plain {v:Value} {x:AV} (h:R w0 M w v x) (hp:DG x=true):v=Ge x/\HF (Ge x)=true/\x = .val (Ge x):=by
 cases x with
 | val u=>obtain ⟨rfl,a⟩:=h.val_inv;exact ⟨rfl,a,rfl⟩
 | _=>cases hp
theorem R.int {v:Value} {x:AV} (h:R w0 M w v x) (hp:Da x=true):v = .int (Jb x) (Ba x)/\x = .val (.int (Jb x) (Ba x)):=by
 cases x with
 | val u =>
  obtain ⟨rfl,a⟩:=h.val_inv
  cases v<;>first | exact ⟨rfl,rfl⟩ | cases hp
 | _=>cases hp
theorem R.bool {v:Value} {x:AV} (h:R w0 M w v x) (hp:RY x=true):v = .bool (IY x)/\x = .val (.bool (IY x)):=by
 cases x with
 | val u =>
  obtain ⟨rfl,a⟩:=h.val_inv
  cases v<;>first | exact ⟨rfl,rfl⟩ | cases hp
 | _=>cases hp
def Yields' (P:Program) (w0:World) (M:Mem) (st':St) (r:AV) (w:World) (s:Sem Next):Prop :=
 ∃ v w' M',(s.run P w = .ok (.value v) w'\/(s.run P w = .ok .skip w'/\v=undef))/\Ext w0 M w M' w'/\RelSt w0 M' st' w'/\R w0 M' w' v r
theorem J0 (hst:RelSt w0 M st w) {s:Sem Next} {v:Value} {r:AV} (hs:s.run P w = .ok (.value v) w) (hr:R w0 M w v r):Yields' P w0 M st r w s :=
 ⟨v,w,M,.inl hs,Ext.refl _ _ _,hst,hr⟩
theorem Lp {k:IntKind} {m:Int} (h:inK k m):k.wrap m=m:=by
 cases k<;>simp only [inK] at h<;>simp only [IntKind.wrap,IntKind.signed,IntKind.bits]<;>simp<;>omega
theorem Px (x y:ByteArray):(x.toList == y.toList)=OA x y:=by
 unfold OA
 rw [Lib.toList_data,Lib.toList_data]
theorem Ro {x:AV} (h:SN x=true):∃ a,x=Ag a:=by
 unfold SN at h
 split at h
 ·exact ⟨_,rfl⟩
 ·cases h
theorem YJ {op:BinOp} {e:Env} {a b:Int} {t:TypeId} {X Y:Operand} (h:wrapM op e=true) :
  (do eqGuard op t X Y (.int .i64 a) (.int .i64 b);binOp op t (.int .i64 a) (.int .i64 b):Sem Value).run P w = .ok (.int .i64 (Zb6 a b)) w:=by
 cases op with
 | sub=>simp [eqGuard,binOp,Op.intArith,Zb6]
 | _=>cases h
theorem Xr {op:BinOp} {x y:Value} {t:TypeId} {X Y:Operand} (h:(evBin op x y).1) :
  (do eqGuard op t X Y x y;binOp op t x y:Sem Value).run P w = .ok (evBin op x y).2 w:=by
 unfold evBin at h ⊢
 split at h<;>simp only at h ⊢ <;> try exact h.elim
 case h_1 k a k' b=>obtain ⟨rfl,h⟩:=h;simp [eqGuard,binOp,Op.intArith,Lp h]
 case h_2 k a k' b=>obtain ⟨rfl,h⟩:=h;simp [eqGuard,binOp,Op.intArith,Lp h]
 case h_3 k a k' b=>obtain ⟨rfl,h⟩:=h;simp [eqGuard,binOp,Op.intArith,Lp h]
 case h_4 k a k' b =>
  obtain ⟨rfl,c,h⟩:=h
  simp [eqGuard,binOp,Op.intDiv,c,Lp h]
 case h_5 k a k' b =>
  obtain ⟨rfl,c⟩:=h
  simp [eqGuard,binOp,Op.intDiv,c]
 case h_6 k a k' b=>subst h;simp [eqGuard,binOp,Op.intCmp];rfl
 case h_7 k a k' b=>subst h;simp [eqGuard,binOp,Op.intCmp];rfl
 case h_8 k a k' b=>subst h;simp [eqGuard,binOp,Op.intCmp]
 case h_9 k a k' b=>subst h;simp [eqGuard,binOp,Op.intCmp]
 case h_10 k a k' b=>subst h;simp [eqGuard,binOp,Op.intCmp]
 case h_11 k a k' b=>subst h;simp [eqGuard,binOp,Op.intCmp]
 case h_12 x y =>
  have e:¬ (((x.size+y.size:Nat):Int) > IntKind.i64.max):=by simp [IntKind.max,IntKind.signed,IntKind.bits];omega
  simp only [eqGuard,binOp,Op.stringOp,Ae e]
  simp
 case h_13 x y=>simp [eqGuard,binOp,Op.stringOp,Px]
 case h_14 x y=>simp [eqGuard,binOp,Op.stringOp,Px]
 case h_15 x y=>simp [eqGuard,binOp,Op.stringOp,Lib.toList_data,sLt]
 case h_16 x y=>simp [eqGuard,binOp,Op.stringOp,Lib.toList_data,sLt,OA]
 case h_17 x y=>simp [eqGuard,binOp,Op.stringOp,Lib.toList_data,sLt,OA]
 case h_18 x y=>simp [eqGuard,binOp,Op.stringOp,Lib.toList_data,sLt]
 case h_19 k a k' b =>
  obtain ⟨rfl,h⟩:=h
  have e:Nat.min (Int.toNat 1) k.bits=1:=by cases k<;>rfl
  have d:min (Int.toNat 1) k.bits=1:=by cases k<;>rfl
  simp only [eqGuard,binOp,Op.shift,e,d]
  simp [Int.fdiv_eq_ediv_of_nonneg]
section
theorem VJ {d:Nat} {t:TypeId} {u v:Value} (h:Ju P t (.val u) (.val v)):(Op.equalIn (d+1) t u v).run P w = .ok (eqCell (.val u) (.val v)) w:=by
 unfold Ju at h
 split at h
 ·rename_i k a k' b e1 e2
  cases e1;cases e2
  obtain ⟨h1,rfl⟩:=h
  unfold LV at h1
  split at h1
  ·rename_i k1 hk
   rw [run_equalIn_int w d t _ k1 a b hk];rfl
  ·cases h1
 ·rename_i a b e1 e2
  cases e1;cases e2
  unfold CL at h
  split at h
  ·rename_i hk
   rw [run_equalIn_string w d t a b hk,Px];rfl
  ·cases h
 ·rename_i a b e1 e2
  cases e1;cases e2
  unfold Lt at h
  split at h
  ·rename_i hk
   rw [run_equalIn_bool' w d t a b hk];rfl
  ·cases h
 ·exact h.elim
theorem Wp {t:TypeId} {x y:AV} (h:Ju P t x y):∃ u v,x = .val u/\y = .val v:=by
 unfold Ju at h
 split at h
 ·exact ⟨_,_,rfl,rfl⟩
 ·exact ⟨_,_,rfl,rfl⟩
 ·exact ⟨_,_,rfl,rfl⟩
 ·exact h.elim
theorem WZ {t:TypeId} (ht:Fv P t=some (1,false)) {cs:Array Value} {i:Nat} {v:Value} (h:cs[i]? = some v):(part t cs i).run P w = .ok v w:=by
 obtain ⟨e,d,f,c,b,h4⟩:=JQ ht
 have a:(isAgg t).run P w = .ok false w:=by
  simp only [isAgg,Sem.run_bind,run_underlying b,Result.andThen_ok]
  cases d<;>first | (cases h4;done) | rfl | (cases h4;rfl)
 simp [part,a,h]
theorem JB (d:Nat) {cs ds:Array Value}:∀ (fs:List Field) (i:Nat) (xs ys:List AV),Vw P fs i xs ys->(∀ j v,xs[j]? = some (.val v)->cs[i+j]? = some v)->(∀ j v,ys[j]? = some (.val v)->ds[i+j]? = some v) ->
  (Op.eqFields (d+1) cs ds fs).run P w = .ok (P4 xs ys) w
 | [],_,[],[],_,_,_=>by simp [Op.eqFields,P4]
 | f::fs,i,x::xs,y::ys,h,hx,hy=>by
  obtain ⟨k,rfl,c,g,l⟩:=h
  obtain ⟨u,v,rfl,rfl⟩:=Wp g
  have b:=WZ (w:=w) c (hx 0 u rfl)
  have e:=WZ (w:=w) c (hy 0 v rfl)
  simp only [Nat.add_zero] at b e
  have ih:=JB d fs _ xs ys l (fun j v a=>by rw [Nat.add_assoc,Nat.add_comm 1 j];exact hx (j+1) v a) (fun j v a=>by rw [Nat.add_assoc,Nat.add_comm 1 j];exact hy (j+1) v a)
  simp only [Op.eqFields,Ad k,Sem.run_bind,b,e,Result.andThen_ok,VJ g,P4]
  cases hc:eqCell (.val u) (.val v)
  ·simp
  ·simp [ih]
 | [],_,[],_::_,h,_,_=>h.elim
 | [],_,_::_,_,h,_,_=>h.elim
 | _::_,_,[],_,h,_,_=>h.elim
 | _::_,_,_::_,[],h,_,_=>h.elim
theorem Zg {op:BinOp} {t:TypeId} {cs ds:Array Value} {xs ys:List AV} {X Y:Operand} (h:(Rt P op t xs ys).1) (hx:∀ (j:Nat) (v:Value),xs[j]? = some (.val v)->cs[j]? = some v) (hy:∀ (j:Nat) (v:Value),ys[j]? = some (.val v)->ds[j]? = some v) :
  (do eqGuard op t X Y (.agg cs) (.agg ds);binOp op t (.agg cs) (.agg ds):Sem Value).run P w = .ok (.bool (Rt P op t xs ys).2) w:=by
 unfold Rt at h ⊢
 unfold eqT at h ⊢
 cases hu:P.underlying t with
 | none=>rw [hu] at h;exact h.elim
 | some d =>
  cases d<;>(try (rw [hu] at h;exact h.elim))
  rename_i fs
  rw [hu] at h
  simp only at h ⊢
  by_cases hc:P.stoodInHeld t=false/\P.eqGuardType P.depth t=false
  ·rw [Ad hc] at h ⊢
   have c:P.fieldsOf t=fs:=by unfold Program.fieldsOf;rw [hu]
   have b:P.underlying t=some (.struct (P.fieldsOf t)):=by rw [c];exact hu
   cases op<;>simp only at h ⊢ <;> (try exact h.elim)
   ·have:=JB (P:=P) (w:=w) 9998 fs.toList 0 xs ys h (fun j v a=>by rw [Nat.zero_add];exact hx j v a) (fun j v a=>by rw [Nat.zero_add];exact hy j v a)
    simp only [Sem.run_bind,run_eqGuard_agg w _ t X Y cs ds hc.2,Result.andThen_ok,run_eql_struct,run_equalIn_agg w 9999 t cs ds b hc.1,c,this]
   ·have:=JB (P:=P) (w:=w) 9998 fs.toList 0 xs ys h (fun j v a=>by rw [Nat.zero_add];exact hx j v a) (fun j v a=>by rw [Nat.zero_add];exact hy j v a)
    simp only [Sem.run_bind,run_eqGuard_agg w _ t X Y cs ds hc.2,Result.andThen_ok,run_neq_struct,run_equalIn_agg w 9999 t cs ds b hc.1,c,this]
  ·rw [Ae hc] at h;exact h.elim
end
theorem R.aggC {w0:World} {M:Mem} {w:World} {v:Value} {x:AV} (h:R w0 M w v x) (hx:Eh x=true):∃ cs,v = .agg cs/\∀ (j:Nat) (u:Value),(Lo x)[j]? = some (.val u)->cs[j]? = some u:=by
 cases h with
 | @agg cs xs hl h1 h =>
  refine ⟨cs,rfl,fun j u c=>?_⟩
  replace c:xs[j]? = some (.val u):=c
  obtain ⟨a,d⟩:=Af.1 c
  have hr:=h j (by omega) a
  have b:xs[j]'a = .val u:=d
  rw [b] at hr
  have e:j<cs.size:=by omega
  rw [Array.getElem?_eq_getElem e]
  generalize cs[j]=q at hr
  cases hr
  rfl
 | _=>cases hx
theorem YN {op:BinOp} {x y:Value} (h:(evBin op x y).1):HF (evBin op x y).2=true:=by
 unfold evBin at h ⊢
 split at h<;>simp only at h ⊢ <;> try first | exact h.elim | rfl
 rename_i x y
 have e:(x++y).size=x.size+y.size:=ByteArray.size_append
 simp only [HF,maxLen,e]
 simp
 omega
theorem XZ {op:UnOp} {x:Value} (h:(evUn op x).1):(Op.unary op x).run P w = .ok (evUn op x).2 w:=by
 unfold evUn at h ⊢
 split at h<;>simp only at h ⊢ <;> try exact h.elim
 ·simp [Op.unary]
 ·have e:=Lp h
  simp only [Op.unary,Op.intArith,e]
  rfl
theorem ZZ {op:UnOp} {x:Value} (h:(evUn op x).1):HF (evUn op x).2=true:=by
 unfold evUn at h ⊢
 split at h<;>simp only at h ⊢ <;> first | exact h.elim | rfl
theorem Dx (b o j:Nat):(⟨b,o,none⟩:Addr).add j=⟨b,o+j,none⟩:=by
 unfold Addr.add
 split
 ·subst j;rfl
 ·rfl
theorem DY {rows:List RowA} {id ver sz:Nat} {cs:List AV} (h:Df rows id ver=some (sz,cs)):rows[id]? = some (.vec ver sz cs):=by
 unfold Df at h
 split at h
 ·rename_i v s c he
  split at h
  ·rename_i hv;cases h;rw [he,hv]
  ·cases h
 ·cases h
theorem Qx {rows:List RowA} {id ver:Nat} (h:(Df rows id ver).isSome=true):∃ sz cs,Df rows id ver=some (sz,cs):=by
 obtain ⟨⟨a,b⟩,h⟩:=Option.isSome_iff_exists.1 h
 exact ⟨a,b,h⟩
theorem XE (hst:RelSt w0 M st w) {v:Value} {x:AV} (h:R w0 M w v x) (hr:Cm st x=true) :
  ∃ b o,v = .pointer (some ⟨b,o+Dh x,none⟩)/\(∀ c∈Bt st x,c.one=true)/\∀ j (hj:j<(Bt st x).length),∃ u,w.cell? ⟨b,o+j,none⟩=some u/\R w0 M w u (Bt st x)[j]:=by
 cases x with
 | box l off =>
  cases h with
  | box hl =>
   have g:l<st.boxes.length:=by simpa [Cm] using hr
   obtain ⟨cs,d⟩:∃ cs,st.boxes[l]? = some cs:=⟨_,List.getElem?_eq_getElem g⟩
   obtain ⟨_,_,c,i,z,t,q,m⟩:=hst.box l cs d
   have e:Bt st (.box l off)=cs:=by simp [Bt,List.getD,d]
   refine ⟨M.bx l,0,by simp [Dh],by rw [e];exact q,fun j hj=>?_⟩
   simp only [e] at hj ⊢
   refine ⟨c[j]'(by omega),?_,m j (by omega) hj⟩
   rw [Nat.zero_add,cell_of_row w _ j c i _ z]
   exact Array.getElem?_eq_getElem (by omega)
 | elem y k =>
  cases h with
  | @elem b off x u k hcell hu =>
   obtain ⟨hs,m⟩:=hu.cells
   refine ⟨b,off,rfl,?_,fun j hj=>?_⟩
   ·refine hu.cellsOne (fun vs hv=>?_)
    subst hv
    simp [Cm] at hr
   ·have f:j<u.cells.size:=by rw [hs];exact hj
    refine ⟨u.cells[j],?_,m j f hj⟩
    rw [(hcell j f).2]
    exact Array.getElem?_eq_getElem f
 | vel id ver off =>
  cases h with
  | @vel _ _ _ a hi hv hh =>
   obtain ⟨sz,cs,d⟩:=Qx (show (Df st.rows id ver).isSome=true from hr)
   obtain ⟨s,E,G,D,H,J,F,c,i,r,K,C,p,n⟩:=hst.row id _ (DY d)
   have e:Bt st (.vel id ver off)=cs:=by simp [Bt,d]
   refine ⟨M.blk id,0,by rw [hh s.symm];simp [Dh],by rw [e];exact p,fun j hj=>?_⟩
   simp only [e] at hj ⊢
   refine ⟨c[j]'(by omega),?_,n j (by omega) hj⟩
   rw [Nat.zero_add,cell_of_row w _ j c i _ r]
   exact Array.getElem?_eq_getElem (by omega)
 | _=>cases hr
theorem Yields'.value {s:Sem Value} {st':St} {r:AV} (h:∃ v w' M',s.run P w = .ok v w'/\Ext w0 M w M' w'/\RelSt w0 M' st' w'/\R w0 M' w' v r) :
  Yields' P w0 M st' r w (do pure (.value (<- s))):=by
 obtain ⟨v,w',M',hs,b,a,c⟩:=h
 exact ⟨v,w',M',.inl (by simp [hs]),b,a,c⟩
theorem Yields'.here (hst:RelSt w0 M st w) {s:Sem Value} {v:Value} {r:AV} (hs:s.run P w = .ok v w) (hr:R w0 M w v r) :
  Yields' P w0 M st r w (do pure (.value (<- s))) := .value ⟨v,w,M,hs,Ext.refl _ _ _,hst,hr⟩
theorem Yh {t:TypeId} (h:Lt P t=true):P.underlying t=some .bool:=by
 unfold Lt at h
 split at h
 ·assumption
 ·cases h
theorem ZaK {op:BinOp} {a b:Bool} {t:TypeId} {X Y:Operand} (ht:Lt P t=true) (h:(evBB op a b).1):(do eqGuard op t X Y (.bool a) (.bool b);binOp op t (.bool a) (.bool b):Sem Value).run P w = .ok (.bool (evBB op a b).2) w:=by
 have c:=Yh ht
 cases op<;>try exact h.elim
 ·simp [eqGuard,binOp,run_equal_bool w t a b c,evBB]
 ·simp [eqGuard,binOp,run_equal_bool w t a b c,evBB];cases a<;>cases b<;>rfl
theorem Rx (d:Nat) (t:TypeId) (v:Value) {ms:Array (String × TypeId)} (hu:P.underlying t=some (.interface ms)) (hv:U3 v=true):(Op.equalIn (d+1) t v .nilIface).run P w = .ok (G7 v) w:=by
 cases v<;>first | cases hv | skip
 all_goals simp [Op.equalIn,run_underlying hu,G7]
theorem ZX {op:BinOp} {v:Value} {t:TypeId} {X Y:Operand} (ht:VZ P t=true) (hy:Tu Y=true) (h:(Sl op v).1):(do eqGuard op t X Y v .nilIface;binOp op t v .nilIface:Sem Value).run P w = .ok (.bool (Sl op v).2) w:=by
 obtain ⟨ms,hu⟩:∃ ms,P.underlying t=some (.interface ms):=by
  unfold VZ at ht
  split at ht
  ·exact ⟨_,‹_›⟩
  ·cases ht
 have d:∃ c,Y = .const c:=by
  cases Y<;>first | exact ⟨_,rfl⟩ | cases hy
 obtain ⟨c,rfl⟩:=d
 have a:∀ v,U3 v=true->(eqGuard op t X (.const c) v .nilIface).run P w = .ok () w/\(Op.equal t v .nilIface).run P w = .ok (G7 v) w:=by
  intro v hv
  cases v<;>first | cases hv | skip
  all_goals
   refine ⟨?_,Rx 9999 t _ hu rfl⟩
   cases op<;>cases X<;>simp [eqGuard]
 cases op<;>first | exact h.elim | skip
 all_goals
  obtain ⟨b,e⟩:=a v h
  simp only [Sem.run_bind,b,Result.andThen_ok]
  cases v<;>first | cases h | skip
  all_goals simp [binOp,e,Sl]
theorem SS (d:Nat) (t e:TypeId) (a:Addr) (n k n' k':Nat) (h:P.underlying t=some (.slice e)):(Op.equalIn (d+1) t (.slice (some a) n k) (.slice none n' k')).run P w = .ok false w:=by
 simp [Op.equalIn,run_underlying h]
theorem TP (d:Nat) (t e:TypeId) (a:Addr) (h:P.underlying t=some (.pointer e)):(Op.equalIn (d+1) t (.pointer (some a)) (.pointer none)).run P w = .ok false w:=by
 simp [Op.equalIn,run_underlying h]
theorem Yx {op:BinOp} {v:Value} {x:AV} {t:TypeId} {X:Operand} {cv:Value} {M:Mem} {w0:World} (hr:R w0 M w v x) (hy:J7 cv=true) (ht:ZgS P t cv=true) (hs:Zbo cv x=true) (ho:(neB op).isSome=true):(do eqGuard op t X (.const cv) v cv;binOp op t v cv:Sem Value).run P w = .ok (.bool ((neB op).getD false)) w:=by
 have g:(eqGuard op t X (.const cv) v cv).run P w = .ok () w:=by
  cases cv<;>first | cases hy | skip
  all_goals cases op<;>cases X<;>cases v<;>simp [eqGuard]
 have run:(Op.equal t v cv).run P w = .ok false w:=by
  unfold ZgS at ht
  split at ht
  ·rename_i p a b e hu
   obtain rfl:p=none:=by cases p<;>first | rfl | cases hy
   cases x<;>first | cases hs | skip
   rename_i l o
   cases l<;>first | cases hs | skip
   cases hr
   exact SS 9999 t _ _ _ _ _ _ hu
  ·rename_i p e hu
   obtain rfl:p=none:=by cases p<;>first | rfl | cases hy
   cases x<;>first | cases hs | skip
   all_goals cases hr;exact TP 9999 t _ _ hu
  ·cases ht
 simp only [Sem.run_bind,g,Result.andThen_ok]
 cases op<;>first | cases ho | skip
 all_goals
  cases cv<;>first | cases hy | skip
  all_goals cases v<;>simp [binOp,run,neB]
theorem Za9 (h:Rel w0 n M e st a w) (op:BinOp) (t:TypeId) (x y:Operand) (u:TypeId) (hob:(Bj P e true st (.binOp op t x y u)).1) :
  Yields' P w0 M (Bj P e true st (.binOp op t x y u)).2.2 (Bj P e true st (.binOp op t x y u)).2.1 w (do pure (.value (<- (do eqGuard op t x y (a.eval x) (a.eval y);binOp op t (a.eval x) (a.eval y))))):=by
 simp only [Bj] at hob ⊢
 by_cases hc:(RY (Au e x)&&RY (Au e y))=true
 ·rw [Ad hc] at hob ⊢
  simp only [Bool.and_eq_true] at hc
  obtain ⟨b,g,i,f⟩:=hob
  obtain ⟨c,_⟩:=(Bi h b).bool hc.1
  obtain ⟨d,_⟩:=(Bi h g).bool hc.2
  rw [c,d]
  exact .here h.st (ZaK i f) (.flat rfl)
 ·rw [Ae hc] at hob ⊢
  by_cases hg:(Eh (Au e x)&&Eh (Au e y))=true
  ·rw [Ad hg] at hob ⊢
   simp only [Bool.and_eq_true] at hg
   obtain ⟨b,g,f⟩:=hob
   obtain ⟨cs,c,j⟩:=(Bi h b).aggC hg.1
   obtain ⟨ds,d,l⟩:=(Bi h g).aggC hg.2
   rw [c,d]
   exact .here h.st (Zg f j l) (.flat rfl)
  rw [Ae hg] at hob ⊢
  by_cases hn:Tu y=true
  ·rw [Ad hn] at hob ⊢
   obtain ⟨b,px,i,f⟩:=hob
   obtain ⟨c,_,_⟩:=(Bi h b).plain px
   have d:a.eval y = .nilIface:=by
    cases y with
    | const v=>cases v<;>first | rfl | cases hn
    | _=>cases hn
   rw [c,d]
   exact .here h.st (ZX i hn f) (.flat rfl)
  rw [Ae hn] at hob ⊢
  by_cases hm:VN y=true
  ·rw [Ad hm] at hob ⊢
   obtain ⟨b,i,hs,ho⟩:=hob
   have r:=Bi h b
   cases y with
   | const cv=>exact .here h.st (Yx (X:=x) r hm i hs ho) (.flat rfl)
   | _=>cases hm
  rw [Ae hm] at hob ⊢
  by_cases hw:wrapM op e=true
  ·rw [Ad hw] at hob ⊢
   obtain ⟨b,g,px,k⟩:=hob
   obtain ⟨p,o⟩:=Ro px
   obtain ⟨q,m⟩:=Ro k
   obtain ⟨c,_,_⟩:=(Bi h b).plain (by rw [o];rfl)
   obtain ⟨d,_,_⟩:=(Bi h g).plain (by rw [m];rfl)
   rw [c,d,o,m]
   exact .here h.st (YJ hw) (.flat rfl)
  rw [Ae hw] at hob ⊢
  obtain ⟨b,g,px,k,f⟩:=hob
  obtain ⟨c,_,_⟩:=(Bi h b).plain px
  obtain ⟨d,_,_⟩:=(Bi h g).plain k
  rw [c,d]
  exact .here h.st (Xr f) (.flat (YN f))
theorem ZdU (h:Rel w0 n M e st a w) (op:UnOp) (t:TypeId) (x:Operand) (hob:(Bj P e true st (.unOp op t x)).1) :
  Yields' P w0 M st (.val (evUn op (Ge (Au e x))).2) w (do pure (.value (<- Op.unary op (a.eval x)))):=by
 obtain ⟨c,px,b⟩:=hob
 obtain ⟨d,_,_⟩:=(Bi h c).plain px
 rw [d]
 exact .here h.st (XZ b) (.flat (ZZ b))
theorem Zjd {t:Bool} {u v:Value} {x y:AV} (hx:t=true->R w0 M w u x) (hy:t=false->R w0 M w v y):R w0 M w (if t then u else v) (AV.sel t x y):=by
 have a:AV.sel false x y=y:=by unfold AV.sel;split<;>rfl
 have b:AV.sel true x y=x:=by unfold AV.sel;split<;>rfl
 cases t
 ·rw [a];exact hy rfl
 ·rw [b];exact hx rfl
theorem Ze4 (h:Rel w0 n M e st a w) (b x y:Operand) (hob:(Bj P e true st (.pick b x y)).1) :
  Yields' P w0 M st (AV.sel (IY (Au e b)) (Au e x) (Au e y)) w (do pure (.value (if <- asBool (a.eval b) then a.eval x else a.eval y))):=by
 obtain ⟨f,c,i,g⟩:=hob
 obtain ⟨d,_⟩:=(Bi h f).bool c
 refine J0 h.st (v:=if IY (Au e b) then a.eval x else a.eval y) ?_ (Zjd (fun q=>Bi h (i rfl q)) (fun q=>Bi h (g rfl q)))
 rw [d]
 simp [asBool]
theorem PZ {t:TypeId} {sz:Nat} {ag:Bool} (ht:Fv P t=some (sz,ag)) {b o:Nat} {f:Nat->Value} (hc:∀ j,j<sz->w.cell? ⟨b,o+j,none⟩=some (f j)) (h1:ag=true\/sz=1) :
  (loadVar t ⟨b,o,none⟩).run P w = .ok (if ag then .agg ((List.range sz).map f).toArray else f 0) w:=by
 unfold loadVar
 rw [Sem.run_bind,Sm ht]
 cases ag with
 | true =>
  simp only [Result.andThen_ok,if_true,Sem.run_bind,BL ht,run_loadCells w ⟨b,o,none⟩ sz f (fun j a=>by rw [Dx];exact hc j a)]
  rfl
 | false =>
  have:sz=1:=by simpa using h1
  subst this
  have:=hc 0 (by omega)
  simp only [Nat.add_zero] at this
  simp [this]
theorem PU {cs:List AV} {f:Nat->Value} {o sz:Nat} {ag:Bool} (h1:∀ c∈cs,c.one=true) (ho:o+sz<=cs.length) (hs:ag=true\/sz=1)
  (hR:∀ j (hj:o+j<cs.length),R w0 M w (f j) cs[o+j]):R w0 M w (if ag then .agg ((List.range sz).map f).toArray else f 0) (OJ ag cs o sz):=by
 unfold OJ
 cases ag with
 | true =>
  simp only [if_true]
  refine .agg (by simp;omega) (fun x a=>h1 x (List.mem_of_mem_drop (List.mem_of_mem_take a))) (fun i a1 a2=>?_)
  simp only [List.getElem_take,List.getElem_drop,List.getElem_toArray,List.getElem_map,List.getElem_range]
  exact hR i (by simp at a1;omega)
 | false =>
  have:sz=1:=by simpa using hs
  subst this
  have:=hR 0 (by omega)
  simp only [Nat.add_zero] at this
  simpa [WC,List.getD,List.getElem?_eq_getElem (show o<cs.length by omega)] using this
theorem Ze7 (h:Rel w0 n M e st a w) (t:TypeId) (x:Operand) (hob:(Bj P e true st (.load t x)).1) :
  Yields' P w0 M st (Bj P e true st (.load t x)).2.1 w (do pure (.value (<- Instr.loadAt t (a.eval x)))):=by
 unfold Bj at hob ⊢
 cases ht:Fv P t with
 | none=>simp [ht] at hob
 | some p =>
  obtain ⟨sz,y⟩:=p
  simp only [ht] at hob ⊢
  obtain ⟨D,z,l,q⟩:=hob
  obtain ⟨b,o,ev,i,m⟩:=XE h.st (Bi h D) z
  rw [ev]
  have d:∀ j,j<sz->∃ u,w.cell? ⟨b,o+Dh (Au e x)+j,none⟩=some u/\∀ c,R w0 M w u ((Bt st (Au e x))[Dh (Au e x)+j]'c):=by
   intro j c
   obtain ⟨u,r,s⟩:=m (Dh (Au e x)+j) (by omega)
   exact ⟨u,by rw [<-r,Nat.add_assoc],fun _=>s⟩
  let f:Nat->Value:=fun j=>((w.cell? ⟨b,o+Dh (Au e x)+j,none⟩).getD undef)
  have C:∀ j,j<sz->w.cell? ⟨b,o+Dh (Au e x)+j,none⟩=some (f j):=fun j c=>by
   obtain ⟨u,g,_⟩:=d j c
   simp [f,g]
  refine .here h.st (v:=if y then .agg ((List.range sz).map f).toArray else f 0) ?_ (PU i l q (fun j c=>?_))
  ·simp only [Instr.loadAt,Instr.sureAddr,Sem.run_bind,Sem.run_pure,Result.andThen_ok]
   exact PZ ht C q
  ·by_cases hjs:j<sz
   ·obtain ⟨u,g,k⟩:=d j hjs
    have:f j=u:=by simp [f,g]
    rw [this]
    exact k c
   ·obtain ⟨u,g,k⟩:=m (Dh (Au e x)+j) c
    have:f j=u:=by simp [f,Nat.add_assoc,g]
    rw [this]
    exact k
theorem QD (hst:RelSt w0 M st w) {v:Value} {x:AV} (h:R w0 M w v x) (hr:Cm st x=true):∃ b o,v = .pointer (some ⟨b,o,none⟩)/\∀ k,R w0 M w (.pointer (some ⟨b,o+k,none⟩)) (QY x k):=by
 cases x with
 | box l off=>cases h with | box hl=>exact ⟨_,_,rfl,fun k => .box hl⟩
 | elem y k =>
  cases h with
  | @elem b off x u k hcell hu=>exact ⟨_,_,rfl,fun d=>by rw [Nat.add_assoc];exact .elem u (k+d) hcell hu⟩
 | vel id ver off =>
  cases h with
  | @vel _ _ _ a hi hv hh =>
   obtain ⟨sz,cs,c⟩:=Qx (show (Df st.rows id ver).isSome=true from hr)
   have f:=(hst.row id _ (DY c)).1
   have e:=hh f.symm
   exact ⟨M.blk id,off,by rw [e],fun k => .vel hi hv fun _=>rfl⟩
 | _=>cases hr
theorem WP (h:Rel w0 n M e st a w) (o:Oper) (x:Operand) (ho:o.op = .nilCheck x) (hob:(Bj P e true st (.nilCheck x)).1) :
  Yields' P w0 M st (Au e x) w (execOp a.eval o):=by
 obtain ⟨c,d⟩:=hob
 obtain ⟨b,o',ev,_⟩:=QD h.st (Bi h c) d
 refine J0 h.st (v:=a.eval x) ?_ (Bi h c)
 simp only [execOp,ho,ev]
 rfl
theorem WG (h:Rel w0 n M e st a w) (f:FuncId) (fi cap:Array Operand) (hob:(Bj P e true st (.makeFunc (.func f) fi cap)).1) :
  Yields' P w0 M (Bj P e true st (.makeFunc (.func f) fi cap)).2.2 (Bj P e true st (.makeFunc (.func f) fi cap)).2.1 w (do pure (.value (<- Instr.makeFunc (.func f) (fi.map a.eval) (cap.map a.eval)))):=by
 unfold Bj at hob ⊢
 by_cases h0:fi.size=0
 ·simp only [Ad h0] at hob ⊢
  refine .here h.st (v := .func (.func f) (fi.map a.eval) (cap.map a.eval)) rfl ?_
  have:fi.map a.eval = #[]:=by simp [Array.size_eq_zero_iff.1 h0]
  rw [this]
  refine .clo (by simp) (fun i g c=>?_)
  simp only [Array.getElem_map,List.getElem_map,Array.getElem_toList]
  exact Bi h (hob _ (by simp))
 ·simp only [Ae h0] at hob ⊢
  obtain ⟨d,b⟩:=hob
  refine .here h.st (v := .func (.func f) (fi.map a.eval) (cap.map a.eval)) rfl ?_
  have:cap.map a.eval = #[]:=by simp [Array.size_eq_zero_iff.1 d]
  rw [this]
  refine .bnd (by simp) (fun i g c=>?_)
  simp only [Array.getElem_map,List.getElem_map,Array.getElem_toList]
  exact Bi h (b _ (by simp))
theorem Vo (h:Rel w0 n M e st a w) (t:TypeId) (x:Operand) (f:Nat) (hob:(Bj P e true st (.fieldAddr t x f)).1) :
  Yields' P w0 M (Bj P e true st (.fieldAddr t x f)).2.2 (Bj P e true st (.fieldAddr t x f)).2.1 w (do pure (.value (<- Instr.fieldAt t (a.eval x) f))):=by
 unfold Bj at hob ⊢
 cases hf:Bn P t f with
 | none=>simp [hf] at hob
 | some p =>
  obtain ⟨o,sz,r⟩:=p
  simp only [hf] at hob ⊢
  obtain ⟨g,k,q⟩:=hob
  obtain ⟨s,y,m,d,i,j⟩:=U9 hf
  obtain ⟨b,o',ev,l⟩:=QD h.st (Bi h g) k
  refine .here h.st (v := .pointer (some ⟨b,o'+o,none⟩)) ?_ (l o)
  rw [ev]
  have c:¬ sz=0:=by omega
  simp [Instr.fieldAt,run_underlying m,d,Instr.sureAddr,fieldPlace,i,Dx,BL j,c]
theorem US {t:TypeId} {sz:Nat} {ag:Bool} (ht:Fv P t=some (sz,ag)) {cs:Array Value} {o:Nat} (ho:o+sz<=cs.size) (h1:ag=true\/sz=1) :
  (part t cs o).run P w = .ok (if ag then .agg ((List.range sz).map fun j=>cs.getD (o+j) undef).toArray else cs.getD o undef) w:=by
 unfold part
 rw [Sem.run_bind,Sm ht]
 cases ag with
 | true =>
  simp only [Result.andThen_ok,if_true,Sem.run_bind,BL ht,Sem.run_pure]
  congr 2
  apply Array.ext
  ·simp;omega
  ·intro i h1 b
   simp at h1 b
   simp [show o+i<cs.size by omega]
 | false =>
  have:sz=1:=by simpa using h1
  subst this
  have a:o<cs.size:=by omega
  simp [a]
theorem R.agg_inv {v:Value} {x:AV} (h:R w0 M w v x) (ha:Eh x=true):∃ cs,v = .agg cs/\cs.size=x.cells.length/\(∀ y∈x.cells,y.one=true)/\∀ j (hj:j<x.cells.length),R w0 M w (cs.getD j undef) x.cells[j]:=by
 cases x with
 | agg xs =>
  cases h with
  | agg hl h1 hR =>
   rename_i cs
   refine ⟨cs,rfl,hl,h1,fun j hj=>?_⟩
   have a:j<cs.size:=by rw [hl];exact hj
   have e:cs.getD j undef=cs[j]:=by simp [a]
   rw [e]
   exact hR j a hj
 | _=>cases ha
theorem ZbS (h:Rel w0 n M e st a w) (t:TypeId) (x:Operand) (f:Nat) (hob:(Bj P e true st (.field t x f)).1) :
  Yields' P w0 M (Bj P e true st (.field t x f)).2.2 (Bj P e true st (.field t x f)).2.1 w (do pure (.value (<- Instr.field t (a.eval x) f))):=by
 unfold Bj at hob ⊢
 cases hf:Bn P t f with
 | none=>simp [hf] at hob
 | some p =>
  obtain ⟨o,sz,k⟩:=p
  simp only [hf] at hob ⊢
  obtain ⟨q,l,c,hs⟩:=hob
  obtain ⟨u,y,r,d,h3,i⟩:=U9 hf
  obtain ⟨cs,ev,s,b,m⟩:=(Bi h q).agg_inv l
  rw [ev]
  refine .here h.st (v:=if k then .agg ((List.range sz).map fun j=>cs.getD (o+j) undef).toArray else cs.getD o undef) ?_ (PU (f:=fun j=>cs.getD (o+j) undef) b c hs (fun j g=>m _ g))
  subst h3
  simp [Instr.field,run_underlying r,d,asAgg,US (w:=w) i (cs:=cs) (o:=y.offset) (by omega) hs]
theorem R.list_inv {v:Value} {x:AV} (h:R w0 M w v x) (hl:BG x=true) :
  (∃ a cap,v = .slice a (Be x).length cap/\(a=none->Be x=[]/\cap=0)/\(Be x).length<=cap/\cap<=maxLen):=by
 cases x with
 | list xs o =>
  cases h with
  | nil ho=>exact ⟨none,0,rfl,fun _=>⟨rfl,rfl⟩,Nat.zero_le _,by simp [maxLen]⟩
  | emp ho=>exact ⟨_,0,rfl,fun e=>(by cases e),Nat.zero_le _,by simp [maxLen]⟩
  | list sz us hc hm hcell hu ho=>exact ⟨_,_,rfl,fun e=>(by cases e),hc,hm⟩
 | _=>cases hl
theorem R.list_elem {v:Value} {xs:List AV} {o:Own} (h:R w0 M w v (.list xs o)) {i:Nat} (hi:i<xs.length) {sz:Nat} (hsz:xs[i].cells.length=sz) :
  ∃ b off cap,v = .slice (some ⟨b,off,none⟩) xs.length cap/\R w0 M w (.pointer (some ⟨b,off+i*sz,none⟩)) (.elem xs[i] 0):=by
 cases h with
 | nil ho=>exact absurd hi (by simp)
 | emp ho=>exact absurd hi (by simp)
 | @list b off cap _ _ sz' us hc hm hcell hu ho =>
  obtain ⟨c,a⟩:=hcell i hi
  have e:sz'=sz:=by rw [<-c,(hu i hi).cells.1,hsz]
  subst e
  exact ⟨b,off,cap,rfl,.elem (us i) 0 (fun j d=>a j (by omega)) (hu i hi)⟩
theorem GF {x:AV} (h:BG x=true):∃ xs o,x = .list xs o:=by
 cases x with
 | list xs o=>exact ⟨xs,o,rfl⟩
 | _=>cases h
theorem ZaH {l:List AV} {i:Nat} (h:i<l.length):WC l i=l[i]:=by simp [WC,List.getD,List.getElem?_eq_getElem h]
theorem VW (h:Rel w0 n M e st a w) (t:TypeId) (x i:Operand) (hob:(Bj P e true st (.indexAddr t x i)).1) :
  Yields' P w0 M (Bj P e true st (.indexAddr t x i)).2.2 (Bj P e true st (.indexAddr t x i)).2.1 w (do pure (.value (<- Instr.indexAt t (a.eval x) (a.eval i)))):=by
 unfold Bj TV at hob ⊢
 cases he:GN P t with
 | some p =>
  obtain ⟨Z,sz,U,N⟩:=p
  simp only [he] at hob ⊢
  split at hob
  ·rename_i id ver o n' hx0
   cases hvr:Df st.rows id ver with
   | none=>simp [hvr] at hob
   | some p =>
    obtain ⟨E,cs⟩:=p
    simp only [hvr] at hob ⊢
    obtain ⟨s,j,c,y,z,rfl⟩:=hob
    obtain ⟨l,g,_,_,d⟩:=E3 he
    obtain ⟨r,_⟩:=(Bi h j).int c
    have hR:=Bi h s
    rw [hx0] at hR
    generalize Ba (Au e i)=m at *
    obtain ⟨k,rfl⟩:=Int.eq_ofNat_of_zero_le y
    have u:k<n':=by omega
    generalize hev:a.eval x=v at hR
    cases hR with
    | @vec _ _ _ _ p C hid hv hh =>
     obtain ⟨Q,K,_⟩:=h.st.row id _ (DY hvr)
     obtain ⟨rfl,G,O⟩:=hh Q.symm
     refine .here h.st (v := .pointer (some ⟨M.blk id,o*M.rsz id+k*E,none⟩)) ?_ ?_
     ·rw [r]
      simp [Instr.indexAt,asIntOf,run_underlying g,BL d,Dx]
      omega
     ·refine .vel hid hv fun _=>?_
      rw [K,Int.toNat_natCast,Nat.add_mul]
  rename_i hx0
  obtain ⟨s,j,V,c,y,z,f⟩:=hob
  obtain ⟨l,g,_,_,d⟩:=E3 he
  obtain ⟨r,_⟩:=(Bi h j).int c
  have hR:=Bi h s
  obtain ⟨xs,o,F⟩:=GF V
  rw [F] at hR z f ⊢
  simp only [Be] at z f ⊢
  generalize Ba (Au e i)=m at *
  obtain ⟨k,rfl⟩:=Int.eq_ofNat_of_zero_le y
  have u:k<xs.length:=by omega
  simp only [Int.toNat_natCast] at f ⊢
  rw [ZaH u] at f ⊢
  obtain ⟨b,D,C,ev,Y⟩:=hR.list_elem u f
  refine .here h.st (v := .pointer (some ⟨b,D+k*sz,none⟩)) ?_ Y
  rw [ev,r]
  simp [Instr.indexAt,asIntOf,run_underlying g,BL d,Dx]
  omega
 | none =>
  simp only [he] at hob ⊢
  cases ha:B9 P t with
  | none=>simp [ha] at hob
  | some p =>
   obtain ⟨m,sz,U⟩:=p
   simp only [ha] at hob ⊢
   obtain ⟨s,j,J,c,y,z⟩:=hob
   obtain ⟨Z,g,d⟩:=QP ha
   obtain ⟨r,_⟩:=(Bi h j).int c
   obtain ⟨b,o',ev,u⟩:=QD h.st (Bi h s) J
   generalize Ba (Au e i)=q at *
   obtain ⟨k,rfl⟩:=Int.eq_ofNat_of_zero_le y
   have H:k<m:=by omega
   refine .here h.st (v := .pointer (some ⟨b,o'+k*sz,none⟩)) ?_ (by simpa using u (k*sz))
   rw [ev,r]
   simp [Instr.indexAt,asIntOf,run_underlying g,BL d,Instr.sureAddr,Dx]
   omega
theorem getElem?_get! (s:ByteArray) (k:Nat) (hk:k<s.size):s[k]? = some (s.get! k):=by
 rw [getElem?_pos s k hk]
 congr 1
 simp only [ByteArray.get!]
 have:k<s.data.size:=hk
 rw [getElem!_pos s.data k this]
 rfl
theorem ZaF (h:Rel w0 n M e st a w) (t:TypeId) (x i:Operand) (hob:(Bj P e true st (.index t x i)).1) :
  Yields' P w0 M (Bj P e true st (.index t x i)).2.2 (Bj P e true st (.index t x i)).2.1 w (do pure (.value (<- Instr.index t (a.eval x) (a.eval i)))):=by
 unfold Bj TV at hob ⊢
 simp only at hob ⊢
 split at hob
 ·rename_i s hx0
  obtain ⟨hs,D,y,d,E,G⟩:=hob
  obtain ⟨z,_⟩:=(Bi h y).int d
  have r:=Bi h D
  rw [hx0] at r
  obtain ⟨ev,_⟩:=r.val_inv
  generalize Ba (Au e i)=q at *
  obtain ⟨k,rfl⟩:=Int.eq_ofNat_of_zero_le E
  have C:k<s.size:=by omega
  refine .here h.st (v := .int .u8 (s.get! k).toNat) ?_ (.flat rfl)
  rw [ev,z]
  have F:s[k]? = some (s.get! k):=getElem?_get! s k C
  simp [Instr.index,asIntOf,run_underlying (EI hs),F]
 ·rename_i cs hx0
  cases ha:B9 P t with
  | none=>simp [ha] at hob
  | some p =>
   obtain ⟨m,sz,J⟩:=p
   simp only [ha] at hob ⊢
   obtain ⟨D,y,d,E,G,K,hs⟩:=hob
   obtain ⟨O,H,o⟩:=QP ha
   obtain ⟨z,_⟩:=(Bi h y).int d
   have r:=Bi h D
   rw [hx0] at r
   obtain ⟨c,ev,g,b,l⟩:=r.agg_inv rfl
   simp only [AV.cells] at g b l
   generalize Ba (Au e i)=q at *
   obtain ⟨k,rfl⟩:=Int.eq_ofNat_of_zero_le E
   have C:k<m:=by omega
   have u:k*sz+sz<=cs.length:=by rw [K,<-Nat.succ_mul];exact Nat.mul_le_mul_right _ C
   refine .here h.st (v:=if J then .agg ((List.range sz).map fun j=>c.getD (k*sz+j) undef).toArray else c.getD (k*sz) undef) ?_ ?_
   ·rw [ev,z]
    simp only [Instr.index,asIntOf,Sem.run_bind,Sem.run_pure,Result.andThen_ok,run_underlying H]
    rw [Ad ⟨by omega,by omega⟩]
    simp only [Sem.run_bind,BL o,Result.andThen_ok,Int.toNat_natCast]
    exact US o (by rw [g];exact u) hs
   ·simp only [Int.toNat_natCast]
    exact PU (f:=fun j=>c.getD (k*sz+j) undef) b u hs (fun j N=>l _ N)
 ·exact hob.elim
theorem XM (h:Rel w0 n M e st a w) (x:Operand) (i:Nat) (hob:(Bj P e true st (.extract x i)).1) :
  Yields' P w0 M (Bj P e true st (.extract x i)).2.2 (Bj P e true st (.extract x i)).2.1 w (do pure (.value (<- Instr.extract (a.eval x) i))):=by
 unfold Bj TV at hob ⊢
 simp only at hob ⊢
 split at hob
 ·rename_i vs hx0
  obtain ⟨c,b⟩:=hob
  have hR:=Bi h c
  rw [hx0] at hR
  generalize a.eval x=v at hR ⊢
  cases hR with
  | tup hl hR =>
   rename_i cs
   rw [ZaH b]
   refine .here h.st (v:=cs[i]'(by omega)) ?_ (hR i (by omega) b)
   simp [Instr.extract,show i<cs.size by omega]
 ·exact hob.elim
theorem Zha (h:Rel w0 n M e st a w) (x:Operand) (t ty:TypeId) (hx:A4 e true x) (hob:(Q9 P t (Au e x)).1) :
  Yields' P w0 M st (Q9 P t (Au e x)).2 w (do pure (.value (<- Builtin.len_ #[t] ty #[a.eval x]))):=by
 have hR:=Bi h hx
 unfold Q9 at hob ⊢
 split at hob
 ·rename_i s hx0
  rw [hx0] at hR
  obtain ⟨ev,_⟩:=hR.val_inv
  refine .here h.st (v := .int .i64 s.size) ?_ (.flat rfl)
  rw [ev]
  simp [Builtin.len_,run_underlying (EI hob),goInt]
 ·rename_i xs o hx0
  rw [hx0] at hR
  obtain ⟨b,c,ev,_⟩:=hR.list_inv rfl
  simp only [Be] at ev
  obtain ⟨p,g⟩:=Option.isSome_iff_exists.1 hob
  obtain ⟨j,sz,k,d⟩:=p
  obtain ⟨i,f,_⟩:=E3 g
  refine .here h.st (v := .int .i64 xs.length) ?_ (.flat rfl)
  rw [ev]
  simp [Builtin.len_,run_underlying f,goInt]
 ·rename_i id ver o n' hx0
  rw [hx0] at hR
  obtain ⟨p,g⟩:=Option.isSome_iff_exists.1 hob
  obtain ⟨j,sz,k,d⟩:=p
  obtain ⟨i,f,_⟩:=E3 g
  generalize hev:a.eval x=v at hR
  cases hR with
  | @vec _ _ _ _ p c hid hv hh =>
   refine .here h.st (v := .int .i64 n') ?_ (.flat rfl)
   simp [Builtin.len_,run_underlying f,goInt]
 ·exact hob.elim
theorem Dw {v:Value} {k:IntKind} {q:Nat} {y:Nat} {code:BoundsCode} (hv:v = .int k q) (h:q<=y) (w:World):(Instr.sliceBound v y code).run P w = .ok q w:=by
 subst hv
 simp [Instr.sliceBound,asIntOf]
 omega
theorem PC (h:Rel w0 n M e st a w) (isl:Bool) (len cap:Nat) (hlc:len<=cap) {lo hi:Option Operand} (hlo:MM e true lo) (hhi:MM e true hi)
  {l u:Nat} (el:CH e 0 lo=l) (eu:CH e len hi=u) (h1:l<=u) (h2:u<=len) :
  (Instr.sliceBounds isl len cap (lo.map a.eval) (hi.map a.eval) none).run P w = .ok (l,u,cap) w:=by
 have H:∀ (y:Operand),(A4 e true y/\Da (Au e y)=true)->∃ k,a.eval y = .int k (Ba (Au e y)):=fun y d=>⟨_,((Bi h d.1).int d.2).1⟩
 cases hi with
 | none =>
  simp only [CH] at eu
  have eu':u=len:=by omega
  subst eu'
  cases lo with
  | none =>
   simp only [CH] at el
   have el':l=0:=by omega
   subst el'
   simp [Instr.sliceBounds]
  | some y =>
   obtain ⟨k,b⟩:=H y hlo
   simp only [CH] at el
   rw [el] at b
   simp [Instr.sliceBounds,Dw b h1]
 | some z =>
  obtain ⟨g,c⟩:=H z hhi
  simp only [CH] at eu
  rw [eu] at c
  have f:u<=cap:=by omega
  cases lo with
  | none =>
   simp only [CH] at el
   have el':l=0:=by omega
   subst el'
   simp [Instr.sliceBounds,Dw c f]
  | some y =>
   obtain ⟨k,b⟩:=H y hlo
   simp only [CH] at el
   rw [el] at b
   simp [Instr.sliceBounds,Dw c f,Dw b h1]
theorem R.empty (b off cap:Nat) (hm:cap<=maxLen):R w0 M w (.slice (some ⟨b,off,none⟩) 0 cap) (.list [] .none) :=
 R.list (xs:=[]) 0 (fun _=>undef) (Nat.zero_le _) hm (fun i a=>absurd a (by simp)) (fun i a=>absurd a (by simp)) trivial
theorem R.sub {b off cap : Nat} {xs : List AV} {o : Own} (h : R w0 M w (.slice (some ⟨b, off, none⟩) xs.length cap) (.list xs o)) {l u sz : Nat} (hl : l ≤ u) (hu : u ≤ xs.length) (hsz : l = 0 ∨ ∀ y ∈ xs, y.cells.length = sz) (hne : cap ≠ l) :
    R w0 M w (.slice (some ⟨b, off + l * sz, none⟩) (u - l) (cap - l)) (.list ((xs.take u).drop l) .none) := by
  generalize hv : Value.slice (some ⟨b, off, none⟩) xs.length cap = v at h
  cases h with
  | nil ho => cases hv
  | emp ho => cases hv; simp at hu; subst hu; have : l = 0 := by omega
              subst this; exact absurd rfl hne
  | @list b' off' cap' _ _ sz' us hc hm hcell hus ho =>
    cases hv
    have hlen : ((xs.take u).drop l).length = u - l := by simp; omega
    rw [← hlen]
    have eo : ∀ i, i < u - l → off + l * sz + i * sz' = off + (l + i) * sz' := by
      intro i hi
      rcases hsz with rfl | hsz
      · simp
      · have e : sz' = sz := by
          have h1 : (us i).cells.size = sz' := (hcell i (by omega)).1
          rw [← h1, (hus i (by omega)).cells.1, hsz _ (List.getElem_mem _)]
        rw [e, Nat.add_mul]; omega
    refine .list sz' (fun i => us (l + i)) (by rw [hlen]; omega) (by omega) (fun i hi => ?_) (fun i hi => ?_) trivial
    · rw [hlen] at hi
      obtain ⟨h1, h2⟩ := hcell (l + i) (by omega)
      refine ⟨h1, fun j hj => ?_⟩
      rw [eo i hi]
      exact h2 j hj
    · rw [hlen] at hi
      simp only [List.getElem_drop, List.getElem_take]
      exact hus (l + i) (by omega)
theorem ZaM (h:Rel w0 n M e st a w) (t:TypeId) (x:Operand) (lo hi mx:Option Operand) (hob:(Bj P e true st (.slice t x lo hi mx)).1) :
  Yields' P w0 M (Bj P e true st (.slice t x lo hi mx)).2.2 (Bj P e true st (.slice t x lo hi mx)).2.1 w (do pure (.value (<- Instr.sliceAt t (a.eval x) (lo.map a.eval) (hi.map a.eval) (mx.map a.eval)))):=by
 unfold Bj at hob ⊢
 simp only at hob ⊢
 split at hob
 ·rename_i id ver o n' hx0
  cases hp:GN P t with
  | none=>simp [hp] at hob
  | some p =>
  obtain ⟨el,sz,ag,aa⟩:=p
  cases hvr:Df st.rows id ver with
  | none=>simp [hp,hvr] at hob
  | some q =>
  obtain ⟨J,cs⟩:=q
  simp only [hp,hvr] at hob ⊢
  obtain ⟨K,l,j,hm,E,C,G,V,rfl⟩:=hob
  have hR:=Bi h K
  rw [hx0] at hR
  obtain ⟨i,Q,_,_,D⟩:=E3 hp
  cases mx with
  | some _=>cases hm
  | none =>
   obtain ⟨d,g⟩:=Int.eq_ofNat_of_zero_le E
   obtain ⟨u,f⟩:=Int.eq_ofNat_of_zero_le (Int.le_trans E C)
   rw [g,f] at C
   rw [f] at G
   rw [g] at V
   rw [g,f]
   simp only [Int.toNat_natCast]
   generalize hev:a.eval x=v at hR
   cases hR with
   | @vec _ _ _ _ p c hid hv hh =>
    obtain ⟨f1,f2,_⟩:=h.st.row id _ (DY hvr)
    obtain ⟨rfl,ah,ae⟩:=hh f1.symm
    have N:=PC (P:=P) h true n' c ae l j g f (by omega) (by omega)
    refine .here h.st (v := .slice (if c=d then some ⟨M.blk id,o*M.rsz id,none⟩ else (some (⟨M.blk id,o*M.rsz id,none⟩:Addr)).map (·.add (d*J))) (u-d) (c-d)) ?_ ?_
    ·simp only [Instr.sliceAt,Instr.slice,Sem.run_bind,run_underlying Q,Result.andThen_ok,Option.map_none,N,BL D,Sem.run_pure]
    ·refine .vec hid hv fun _=>⟨?_,by omega,by omega⟩
     by_cases hcl:c=d
     ·have:d=0:=by omega
      rw [Ad hcl,this];simp
     ·rw [Ae hcl]
      simp only [Option.map_some,Dx]
      rw [f2,Nat.add_mul]
 ·rename_i s hx0
  obtain ⟨hs,K,l,j,hm,E,C,G⟩:=hob
  have hR:=Bi h K
  rw [hx0] at hR
  obtain ⟨ev,hf⟩:=hR.val_inv
  cases mx with
  | some _=>cases hm
  | none =>
   have N:=PC (P:=P) h false s.size s.size (Nat.le_refl _) l j (Int.toNat_of_nonneg E).symm (Int.toNat_of_nonneg (Int.le_trans E C)).symm (by omega) (by omega)
   refine .here h.st (v := .string (s.extract (CH e 0 lo).toNat (CH e s.size hi).toNat)) ?_ (.flat ?_)
   ·rw [ev]
    simp only [Instr.sliceAt,Instr.slice,Sem.run_bind,run_underlying (EI hs),Result.andThen_ok,Option.map_none,Option.isSome_none,Bool.false_eq_true,if_false,N,Sem.run_pure]
   ·simp only [HF,decide_eq_true_eq] at hf ⊢
    simp only [ByteArray.size_extract]
    omega
 ·rename_i xs o hx0
  cases hp:GN P t with
  | none=>simp [hp] at hob
  | some p =>
   obtain ⟨el,sz,ag,aa⟩:=p
   simp only [hp] at hob ⊢
   cases mx with
   | some m =>
    simp only at hob ⊢
    obtain ⟨K,l,j,hm,E,C,G⟩:=hob
    have hR:=Bi h K
    rw [hx0] at hR
    obtain ⟨i,Q,_,_,D⟩:=E3 hp
    have H:∀ (y:Operand),(A4 e true y/\Da (Au e y)=true)->∃ k,a.eval y = .int k (Ba (Au e y)):=fun y hy=>⟨_,((Bi h hy.1).int hy.2).1⟩
    cases hi with
    | none=>simp [CH] at C
    | some z =>
     obtain ⟨k2,kz⟩:=H z j
     obtain ⟨k3,km⟩:=H m hm
     simp only [CH] at C G
     rw [C] at kz
     rw [G] at km
     have N:∀ (ln c:Nat),ln<=c->(Instr.sliceBounds true ln c (lo.map a.eval) ((some z).map a.eval) ((some m).map a.eval)).run P w = .ok (0,0,0) w:=by
      intro ln c U
      have e1:=Dw (P:=P) (k:=k3) (q:=0) (y:=c) (code := .slice3Acap) km (Nat.zero_le _) w
      have e2:=Dw (P:=P) (k:=k2) (q:=0) (y:=0) (code := .slice3B) kz (Nat.zero_le _) w
      cases lo with
      | none=>simp [Instr.sliceBounds,e1,e2]
      | some y =>
       obtain ⟨k,ky⟩:=H y l
       simp only [CH] at E
       rw [E] at ky
       have e3:=Dw (P:=P) (k:=k) (q:=0) (y:=0) (code := .slice3C) ky (Nat.zero_le _) w
       simp [Instr.sliceBounds,e1,e2,e3]
     obtain ⟨v,hv⟩:∃ v,a.eval x=v:=⟨_,rfl⟩
     rw [hv] at hR
     have fin:∀ (r:Option Addr) (ln c:Nat),ln<=c->v = .slice r ln c->R w0 M w (.slice r 0 0) (.list [] .full) ->
       Yields' P w0 M st (.list [] .full) w (do pure (.value (<- Instr.sliceAt t (a.eval x) (lo.map a.eval) (Option.map a.eval (some z)) (Option.map a.eval (some m))))):=by
      intro r ln c U e1 Y
      refine .here h.st ?_ Y
      rw [hv,e1]
      simp only [Instr.sliceAt,Instr.slice,Sem.run_bind,run_underlying Q,Result.andThen_ok,N ln c U,BL D,Sem.run_pure]
      simp
     cases hR with
     | nil ho=>exact fin none 0 0 (Nat.le_refl _) rfl (by simpa using R.nil (fun id=>by simp))
     | @emp r _ ho=>exact fin (some r) 0 0 (Nat.le_refl _) rfl (.emp (fun id=>by simp))
     | @list b off c _ _ J us hc hm' hcell hu' ho =>
      exact fin _ _ c hc rfl (R.list (xs:=[]) 0 (fun _=>undef) (Nat.zero_le _) (Nat.zero_le _) (fun i hi=>absurd hi (by simp)) (fun i hi=>absurd hi (by simp)) rfl)
   | none =>
   obtain ⟨K,l,j,E,C,G,V⟩:=hob
   have hR:=Bi h K
   rw [hx0] at hR
   obtain ⟨i,Q,_,_,D⟩:=E3 hp
   ·obtain ⟨d,g⟩:=Int.eq_ofNat_of_zero_le E
    obtain ⟨u,f⟩:=Int.eq_ofNat_of_zero_le (Int.le_trans E C)
    rw [g,f] at C
    rw [f] at G
    rw [g] at V
    rw [g,f]
    have O:d<=u:=by omega
    have F:u<=xs.length:=by omega
    simp only [Int.toNat_natCast]
    have ab:d=0\/∀ y∈xs,y.cells.length=sz:=V.imp (fun q=>by omega) id
    have go:∀ (r:Option Addr) (c:Nat),xs.length<=c->a.eval x = .slice r xs.length c ->
      R w0 M w (.slice (if c=d then r else r.map (·.add (d*sz))) (u-d) (c-d)) (.list ((xs.take u).drop d) .none) ->
      Yields' P w0 M st (.list ((xs.take u).drop d) .none) w (do pure (.value (<- Instr.sliceAt t (a.eval x) (lo.map a.eval) (hi.map a.eval) (Option.map a.eval none)))):=by
     intro r c af ev Y
     have N:=PC (P:=P) h true xs.length c af l j g f O F
     refine .here h.st ?_ Y
     rw [ev]
     simp only [Instr.sliceAt,Instr.slice,Sem.run_bind,run_underlying Q,Result.andThen_ok,Option.map_none,N,BL D,Sem.run_pure]
    generalize hv:a.eval x=v at hR go
    have Z:=hR
    cases hR with
    | nil ho =>
     have e1:u=0:=by simpa using F
     have e2:d=0:=by omega
     subst e1;subst e2
     refine go none 0 (Nat.le_refl _) rfl ?_
     simpa using (R.nil (w0:=w0) (M:=M) (w:=w) (o := .none) (fun id=>by simp))
    | @emp r _ ho =>
     have e1:u=0:=by simpa using F
     have e2:d=0:=by omega
     subst e1;subst e2
     refine go (some r) 0 (Nat.le_refl _) rfl ?_
     simpa using (R.emp (w0:=w0) (M:=M) (w:=w) (a:=r) (o := .none) (fun id=>by simp))
    | @list b off c _ _ J us hc hm' hcell hu' ho =>
     refine go (some ⟨b,off,none⟩) c hc rfl ?_
     by_cases hcl:c=d
     ·have e1:u=d:=by omega
      have:(xs.take u).drop d=[]:=by rw [e1];simp
      rw [this,Ad hcl,e1,Nat.sub_self]
      exact R.empty _ _ _ (by omega)
     ·rw [Ae hcl]
      simp only [Option.map_some,Dx]
      exact Z.sub O F ab hcl
 ·exact hob.elim
theorem Zhe (h:Rel w0 n M e st a w) (x y:Operand) (ts:Array TypeId) (t:TypeId) (hx:A4 e true x) (hy:A4 e true y) (ix:Da (Au e x)=true) (iy:Da (Au e y)=true) :
  Yields' P w0 M st (.val (.int (Jb (Au e x)) (if Ba (Au e y)<Ba (Au e x) then Ba (Au e y) else Ba (Au e x)))) w (do pure (.value (<- Builtin.min_ ts t #[a.eval x,a.eval y]))):=by
 rw [((Bi h hx).int ix).1,((Bi h hy).int iy).1]
 exact .here h.st (by simp [Builtin.min_,Builtin.min2]) (.flat rfl)
theorem ZgN (h:Rel w0 n M e st a w) (x y:Operand) (ts:Array TypeId) (t:TypeId) (hx:A4 e true x) (hy:A4 e true y) (ix:Da (Au e x)=true) (iy:Da (Au e y)=true) :
  Yields' P w0 M st (.val (.int (Jb (Au e x)) (if Ba (Au e x)<Ba (Au e y) then Ba (Au e y) else Ba (Au e x)))) w (do pure (.value (<- Builtin.max_ ts t #[a.eval x,a.eval y]))):=by
 rw [((Bi h hx).int ix).1,((Bi h hy).int iy).1]
 exact .here h.st (by simp [Builtin.max_,Builtin.max2]) (.flat rfl)
end
section
variable {P:Program} {w0:World} {n:Nat} {M:Mem} {e:Env} {st:St} {a:Act} {w:World}
theorem RelSt.box_lt (h:RelSt w0 M st w) {l:Nat} (hl:l<M.N):M.bx l<w.heap.size:=by
 have a:l<st.boxes.length:=by rw [<-h.N];exact hl
 obtain ⟨_,_,c,d,b,_⟩:=h.box l _ (List.getElem?_eq_getElem a)
 exact (Array.getElem?_eq_some_iff.1 b).1
theorem RelSt.row_lt (h:RelSt w0 M st w) {i:Nat} (hi:i<M.NR):M.blk i<w.heap.size:=by
 have a:i<st.rows.length:=by rw [<-h.NR];exact hi
 exact (h.row i _ (List.getElem?_eq_getElem a)).lt
theorem RelSt.base_le (h:RelSt w0 M st w):w0.heap.size<=w.heap.size:=h.below.size
theorem RelSt.drew (h:RelSt w0 M st w):RelSt w0 M st w.drew/\Ext w0 M w M w.drew :=
 have b:Ext w0 M w M w.drew:=⟨Nat.le_refl _,fun _ _=>rfl,Nat.le_refl _,fun _ _=>⟨Nat.le_refl _,fun _=>⟨rfl,rfl,rfl⟩⟩,fun _ _ _ e f=>⟨f,e⟩,Nat.le_refl _,Nat.le_refl _,fun _ _=>rfl,fun _ _ _=>by omega,fun _ _ h _ _=>h,fun _ _ h=>⟨rfl,h,rfl⟩⟩
 ⟨⟨h.below.drew,h.N,h.NR,h.top,h.inj,fun l cs j=>by
   obtain ⟨a1,a2,c,g,a3,a4,a5,a6⟩:=h.box l cs j
   exact ⟨a1,a2,c,g,a3,a4,a5,fun i k d=>(a6 i k d).mono b⟩,fun id x a=>(h.row id x a).keep b rfl rfl rfl rfl rfl (h.row id x a).ne rfl,h.rowinj,h.loop.mono b rfl fun _ _ h _=>h⟩,b⟩
def Mem.newTop (M:Mem) (b k:Nat):Mem:={ M with top:=fun x=>if x=b then k else M.top x }
theorem On (M':Mem) (o:Obj) (hN:M'.N=M.N\/M'.N=M.N+1) (hb:∀ l,l<M.N->M'.bx l=M.bx l) (hNR:M.NR<=M'.NR)
  (hr:∀ id,id<M.NR->M.fr id<=M'.fr id/\(M'.fr id=M.fr id->M'.blk id=M.blk id/\M'.cap id=M.cap id/\M'.rsz id=M.rsz id)) (ht:∀ b,b<w.heap.size->M'.top b=M.top b) (hf:∀ b,b<w.heap.size->M.foreign b->M'.foreign b) (hNL:M'.NL=M.NL:=by rfl) (hlb:M'.lb=M.lb:=by rfl) :
  Ext w0 M w M' (w.alloc o) :=
 ⟨by omega,hb,hNR,hr,fun b f v hi e=>by
  have a:=World.block_lt_of_cell? w _ e
  refine ⟨by rw [World.cell?_alloc_lt _ _ _ a];exact e,?_⟩
  rcases hi with hi | hi
  ·exact .inl hi
  ·exact .inr (by rw [ht b a];exact hi),by simp,by omega,fun _ _=>by rw [hlb],fun _ _ _=>by omega,fun b o' c d _=>KeepsObj.alloc w o b o' c d,fun b c d=>⟨Below.heap_alloc w o b c,hf b c d,ht b c⟩⟩
theorem Bh (w:World) (o:Obj) {k:Nat} (h:k<w.heap.size):(w.alloc o).heap[k]? = w.heap[k]? := Below.heap_alloc w o k h
theorem RelSt.newTop (h:RelSt w0 M st w) (cs:Array Value) (ty:TypeId) (k:Nat) :
  RelSt w0 (M.newTop w.heap.size k) st (w.alloc (.cells cs ty))/\Ext w0 M w (M.newTop w.heap.size k) (w.alloc (.cells cs ty)):=by
 have f:∀ b,b<w.heap.size->(M.newTop w.heap.size k).top b=M.top b:=fun b j=>by simp [Mem.newTop];omega
 have e:Ext w0 M w (M.newTop w.heap.size k) (w.alloc (.cells cs ty)) :=
  On _ _ (.inl rfl) (fun _ _=>rfl) (Nat.le_refl _) (fun _ _=>⟨Nat.le_refl _,fun _=>⟨rfl,rfl,rfl⟩⟩) f (fun _ _ h=>h)
 refine ⟨⟨h.below.alloc h.base_le _,h.N,h.NR,fun b j=>?_,h.inj,fun l c n=>?_,fun id x a=>(h.row id x a).keep e rfl rfl rfl rfl (f _ (h.row id x a).lt) (h.row id x a).ne (Bh _ _ (h.row id x a).lt),h.rowinj,h.loop.mono e rfl (KeepsObj.alloc _ _)⟩,e⟩
 ·simp at j
  have:(M.newTop w.heap.size k).top b=M.top b:=by simp [Mem.newTop];omega
  rw [this]
  exact h.top b (by omega)
 ·obtain ⟨a1,a2,o,g,a3,a4,a5,a6⟩:=h.box l c n
  have d:=(Array.getElem?_eq_some_iff.1 a3).1
  exact ⟨a1,by rw [show (M.newTop w.heap.size k).bx l=M.bx l from rfl,f _ d];exact a2,o,g,by rw [show (M.newTop w.heap.size k).bx l=M.bx l from rfl,Bh _ _ d];exact a3,a4,a5,fun i p m=>(a6 i p m).mono e⟩
theorem RelSt.later (h:RelSt w0 M st w) {w':World} (hb:Below w.heap.size w w') (b k:Nat) (hw:w.heap.size<=b) (hk:b<w'.heap.size\/k=0) :
  RelSt w0 (M.newTop b k) st w'/\Ext w0 M w (M.newTop b k) w':=by
 have p:∀ x,x<w.heap.size->(M.newTop b k).top x=M.top x:=fun x n=>by simp [Mem.newTop];omega
 have m:∀ x,x<w.heap.size->w'.heap[x]? = w.heap[x]? := hb.block
 have j:KeepsObj w w':=fun x o d _=>(m x (Array.getElem?_eq_some_iff.1 d).1).trans d
 have n:Ext w0 M w (M.newTop b k) w' :=
  ⟨Nat.le_refl _,fun _ _=>rfl,Nat.le_refl _,fun _ _=>⟨Nat.le_refl _,fun _=>⟨rfl,rfl,rfl⟩⟩,fun x C v t r=>by
   have a:=World.block_lt_of_cell? w _ r
   refine ⟨?_,t.imp id fun q=>by rw [p x a];exact q⟩
   unfold World.cell? at r ⊢
   simp only [m x a] at r ⊢
   exact r,hb.size,Nat.le_refl _,fun _ _=>rfl,fun _ d g=>absurd g (Nat.not_lt.2 d),fun x o d g _=>j x o d g,fun x d g=>⟨m x d,g,p x d⟩⟩
 refine ⟨⟨h.below.trans (hb.mono h.base_le),h.N,h.NR,fun x u=>?_,h.inj,fun l c y=>?_,fun id x f=>(h.row id x f).keep n rfl rfl rfl rfl (p _ (h.row id x f).lt) (h.row id x f).ne (m _ (h.row id x f).lt),h.rowinj,h.loop.mono n rfl j⟩,n⟩
 ·have:=hb.size
  by_cases c:x=b
  ·have e:(M.newTop b k).top x=k:=by simp [Mem.newTop,c]
   rw [e]
   rcases hk with hk | hk
   ·omega
   ·exact hk
  ·have e:(M.newTop b k).top x=M.top x:=by simp [Mem.newTop,c]
   rw [e]
   exact h.top x (by omega)
 ·obtain ⟨a1,a2,z,s,a3,a4,a5,a6⟩:=h.box l c y
  have a:=(Array.getElem?_eq_some_iff.1 a3).1
  exact ⟨a1,by rw [show (M.newTop b k).bx l=M.bx l from rfl,p _ a];exact a2,z,s,by rw [show (M.newTop b k).bx l=M.bx l from rfl,m _ a];exact a3,a4,a5,fun i d g=>(a6 i d g).mono n⟩
def Mem.newBox (M:Mem) (b:Nat):Mem:={ M with N:=M.N+1,bx:=fun l=>if l=M.N then b else M.bx l }
theorem RelSt.newBox (h:RelSt w0 M st w) (v:Value) (x:AV) (ty:TypeId) (hR:R w0 M w v x) (hn:A9 x=true) :
  RelSt w0 (M.newBox w.heap.size) { st with boxes:=st.boxes++[x.cells] } (w.alloc (.cells v.cells ty))/\Ext w0 M w (M.newBox w.heap.size) (w.alloc (.cells v.cells ty)) /\
   R w0 (M.newBox w.heap.size) (w.alloc (.cells v.cells ty)) (.pointer (some ⟨w.heap.size,0,none⟩)) (.box st.boxes.length 0):=by
 have a:∀ l,l<M.N->(M.newBox w.heap.size).bx l=M.bx l:=fun l hl=>by simp [Mem.newBox];omega
 have hnew:(M.newBox w.heap.size).bx M.N=w.heap.size:=by simp [Mem.newBox]
 have k:Ext w0 M w (M.newBox w.heap.size) (w.alloc (.cells v.cells ty)) :=
  On _ _ (.inr rfl) a (Nat.le_refl _) (fun _ _=>⟨Nat.le_refl _,fun _=>⟨rfl,rfl,rfl⟩⟩) (fun _ _=>rfl) (fun b p q=>⟨fun l hl=>by
   by_cases c:l=M.N
   ·subst c;rw [hnew];omega
   ·rw [a l (by simp only [Mem.newBox] at hl;omega)];exact q.1 l (by simp only [Mem.newBox] at hl;omega),q.2⟩)
 have m:=hR.mono k
 refine ⟨⟨h.below.alloc h.base_le _,by simp [Mem.newBox,h.N],h.NR,fun b p=>h.top b (by simp at p;omega),fun l j hl d e=>?_,fun l c hl=>?_,fun id x f=>?_,h.rowinj,h.loop.mono k rfl (KeepsObj.alloc _ _)⟩,k,?_⟩
 ·have n:(M.newBox w.heap.size).N=M.N+1:=rfl
  rw [n] at hl d
  by_cases e1:l=M.N
  ·by_cases e2:j=M.N
   ·omega
   ·subst e1
    rw [hnew,a j (by omega)] at e
    have:=h.box_lt (l:=j) (by omega)
    omega
  ·by_cases e2:j=M.N
   ·subst e2
    rw [hnew,a l (by omega)] at e
    have:=h.box_lt (l:=l) (by omega)
    omega
   ·rw [a l (by omega),a j (by omega)] at e
    exact h.inj l j (by omega) (by omega) e
 ·by_cases e1:l=M.N
  ·subst e1
   simp only [h.N,List.getElem?_concat_length,Option.some.injEq] at hl
   subst hl
   rw [hnew]
   obtain ⟨hs,hc⟩:=m.cells
   refine ⟨h.base_le,h.top _ (Nat.le_refl _),v.cells,ty,heap_alloc_new w _,hs,hR.cellsOne (fun vs e=>by subst e;cases hn),hc⟩
  ·have d:l<M.N:=by
    have:l<(st.boxes++[x.cells]).length:=(Af.1 hl).1
    have n:=h.N
    simp at this
    omega
   rw [List.getElem?_append_left (by rw [<-h.N];exact d)] at hl
   obtain ⟨a1,a2,s,o,a3,a4,a5,a6⟩:=h.box l c hl
   have g:=(Array.getElem?_eq_some_iff.1 a3).1
   rw [a l d]
   exact ⟨a1,a2,s,o,by rw [Bh _ _ g];exact a3,a4,a5,fun i t r=>(a6 i t r).mono k⟩
 ·have g:=(h.row id x f).lt
  refine (h.row id x f).keep k rfl rfl rfl rfl rfl (fun l hl=>?_) (Bh _ _ g)
  by_cases e1:l=M.N
  ·subst e1
   rw [hnew]
   show w.heap.size≠M.blk id
   omega
  ·have n:(M.newBox w.heap.size).N=M.N+1:=rfl
   rw [a l (by omega)]
   exact (h.row id x f).ne l (by omega)
 ·have:=R.box (w0:=w0) (M:=M.newBox w.heap.size) (w:=w.alloc (.cells v.cells ty)) (l:=st.boxes.length) (off:=0) (by rw [<-h.N];exact Nat.lt_succ_self _)
  rwa [<-h.N,hnew,h.N] at this
theorem Du {t:TypeId} {z:List AV} (h:Bv P t=some z):∃ i v,P.info? t=some i/\i.zero=some v/\Oe v=true/\v.cells.size=i.size/\z=(HB v).cells:=by
 unfold Bv at h
 split at h
 ·rename_i i hi
  split at h
  ·rename_i v hv
   split at h
   ·rename_i hc
    simp only [Bool.and_eq_true,beq_iff_eq] at hc
    exact ⟨i,v,hi,hv,hc.1,hc.2,(Option.some.inj h).symm⟩
   ·cases h
  ·cases h
 ·cases h
theorem Jg {v:Value} (h:Oe v=true):A9 (HB v)=true:=by
 have hc:∀ u,A9 (LN u)=true:=fun u=>by unfold LN;split<;>rfl
 cases v<;>first | rfl | exact hc _
theorem ZbD (h:Rel w0 n M e st a w) (t:TypeId) (hob:(Bj P e true st (.alloc t)).1) :
  Yields' P w0 M (Bj P e true st (.alloc t)).2.2 (Bj P e true st (.alloc t)).2.1 w (do pure (.value (<- Instr.alloc t true (.tuple #[])))):=by
 unfold Bj at hob ⊢
 cases hz:Bv P t with
 | none=>simp [hz] at hob
 | some z =>
  simp only [hz]
  obtain ⟨i,v,d,hv,b,hs,rfl⟩:=Du hz
  obtain ⟨g,c,f⟩:=h.st.newBox v (HB v) t (LS b) (Jg b)
  refine .value ⟨_,_,_,?_,c,g,f⟩
  simp [Instr.alloc,zeroValue,typeInfo,d,hv,newVar,newRow]
theorem Zgk (h:Rel w0 n M e st a w) (t:TypeId) (x:Operand) (hob:(Bj P e true st (.box t x)).1) :
  Yields' P w0 M (Bj P e true st (.box t x)).2.2 (Bj P e true st (.box t x)).2.1 w (do pure (.value (<- Instr.box t (a.eval x)))):=by
 obtain ⟨_,f,c⟩:=hob
 obtain ⟨g,b,d⟩:=h.st.newBox (a.eval x) (Au e x) t (Bi h f) c
 refine .value ⟨_,_,_,?_,b,g,d⟩
 simp [Instr.box,newVar,newRow]
theorem U6 (vs:List Value):∀ (k:Nat) (cs:Array Value) (off:Nat),off+k+vs.length<=cs.size ->
  ((vs.zipIdx k).foldl (fun cs (x:Value × Nat)=>cs.setIfInBounds (off+x.2) x.1) cs).size=cs.size /\
  ∀ j,((vs.zipIdx k).foldl (fun cs (x:Value × Nat)=>cs.setIfInBounds (off+x.2) x.1) cs)[j]? = if off+k<=j/\j<off+k+vs.length then vs[j-(off+k)]? else cs[j]? := by
 induction vs with
 | nil=>intro k cs off h;exact ⟨rfl,fun j=>by simp;omega⟩
 | cons v vs ih =>
  intro k cs off h
  simp only [List.length_cons] at h
  simp only [List.zipIdx_cons,List.foldl_cons,List.length_cons]
  obtain ⟨c,b⟩:=ih (k+1) (cs.setIfInBounds (off+k) v) off (by simp;omega)
  refine ⟨by rw [c];simp,fun j=>?_⟩
  rw [b j]
  by_cases c1:off+(k+1)<=j/\j<off+(k+1)+vs.length
  ·rw [Ad c1,Ab,show j-(off+k)=(j-(off+(k+1)))+1 from by omega]
   simp
  ·rw [Ae c1]
   by_cases c2:j=off+k
   ·subst c2
    have a:off+k<cs.size:=by omega
    rw [Ab]
    simp [a]
   ·rw [Aa,Array.getElem?_setIfInBounds_ne (by omega)]
theorem KO {l xs:List AV} {off:Nat} (h:off+xs.length<=l.length):(BH l off xs).length=l.length:=by
 simp [BH];omega
theorem X5 {l xs:List AV} {off:Nat} (h:off+xs.length<=l.length) (j:Nat):(BH l off xs)[j]? = if off<=j/\j<off+xs.length then xs[j-off]? else l[j]? := by
 unfold BH
 rw [List.append_assoc,List.getElem?_append]
 simp only [List.length_take]
 have e:min off l.length=off:=by omega
 rw [e]
 by_cases c1:j<off
 ·rw [Ad c1,Aa,List.getElem?_take,Ad c1]
 ·rw [Ae c1,List.getElem?_append]
  by_cases c2:j-off<xs.length
  ·rw [Ad c2,Ab]
  ·rw [Ae c2,Aa,List.getElem?_drop]
   congr 1
   omega
theorem O3 {l xs:List AV} {off:Nat} (h1:∀ x∈l,x.one=true) (h2:∀ x∈xs,x.one=true):∀ x∈BH l off xs,x.one=true:=by
 intro x hx
 simp only [BH,List.mem_append] at hx
 rcases hx with (hx | hx) | hx
 ·exact h1 x (List.mem_of_mem_take hx)
 ·exact h2 x hx
 ·exact h1 x (List.mem_of_mem_drop hx)
def RowR (w0:World) (M:Mem) (w:World) (cs:Array Value) (l:List AV):Prop:=cs.size=l.length/\∀ i (h1:i<cs.size) (h2:i<l.length),R w0 M w cs[i] l[i]
theorem RowR.get {cs:Array Value} {l:List AV} (h:RowR w0 M w cs l) {i:Nat} {v:Value} {x:AV} (hv:cs[i]? = some v) (hx:l[i]? = some x):R w0 M w v x:=by
 obtain ⟨a1,rfl⟩:=Array.getElem?_eq_some_iff.1 hv
 obtain ⟨a2,rfl⟩:=Af.1 hx
 exact h.2 i a1 a2
theorem RowR.mk {cs:Array Value} {l:List AV} (hs:cs.size=l.length) (h:∀ (i:Nat) (v:Value) (x:AV),cs[i]? = some v->l[i]? = some x->R w0 M w v x):RowR w0 M w cs l :=
 ⟨hs,fun i b a=>h i _ _ (Array.getElem?_eq_getElem b) (List.getElem?_eq_getElem a)⟩
theorem RowR.put {cs cs':Array Value} {l:List AV} (h:RowR w0 M w cs l) {v:Value} {x:AV} (hR:R w0 M w v x) {off:Nat} (hoff:off+x.cells.length<=l.length) (hs:cs'.size=cs.size)
  (hg:∀ j,cs'[j]? = if off<=j/\j<off+v.cells.toList.length then v.cells.toList[j-off]? else cs[j]?):RowR w0 M w cs' (BH l off x.cells):=by
 obtain ⟨d,e⟩:=hR.cells
 refine .mk (by rw [hs,KO hoff];exact h.1) (fun i u y a b=>?_)
 rw [hg i] at a
 rw [X5 hoff] at b
 simp only [Array.length_toList] at a
 rw [<-d] at b
 by_cases c:off<=i/\i<off+v.cells.size
 ·rw [Ad c] at a b
  rw [Array.getElem?_toList] at a
  exact RowR.get ⟨d,e⟩ a b
 ·rw [Ae c] at a b
  exact h.get a b
theorem VV (t:TypeId) (pl:Nat->Option (Nat × Nat)) (hpl:∀ i o s,Ci P t i=some (o,s)->pl i=some (o,s)) :
  ∀ (vs:List (Nat × Value)) (xs:List (Nat × AV)) (cs:Array Value) (l:List AV),vs.length=xs.length->(∀ (k:Nat) (p:Nat × Value) (q:Nat × AV),vs[k]? = some p->xs[k]? = some q->p.1=q.1/\R w0 M w p.2 q.2/\A9 q.2=true) ->
   RowR w0 M w cs l->(∀ y∈l,y.one=true)->C0 P t l.length xs->∃ cs',Instr.fill pl cs vs=some cs'/\RowR w0 M w cs' (EE P t l xs)/\(∀ y∈EE P t l xs,y.one=true)
 | [],[],cs,l,_,_,h,h1,_=>⟨cs,rfl,h,h1⟩
 | [],_::_,_,_,hl,_,_,_,_=>by cases hl
 | _::_,[],_,_,hl,_,_,_,_=>by cases hl
 | (i,v)::vs,(i',x)::xs,cs,l,hl,hp,h,h1,hf=>by
  obtain ⟨rfl,g,hn⟩:=hp 0 _ _ rfl rfl
  simp only at g hn
  simp only [C0] at hf
  obtain ⟨b,m⟩:=hf
  simp only [Instr.fill,EE]
  cases hpp:Ci P t i with
  | none=>simp [hpp] at b
  | some p =>
   obtain ⟨o,s⟩:=p
   simp only [hpp] at b ⊢
   obtain ⟨a1,a2⟩:=b
   obtain ⟨C,z⟩:=g.cells
   rw [hpl i o s hpp]
   have n:(decide (v.cells.size≠s)||decide (o+v.cells.size > cs.size))=false:=by have:=h.1;simp;omega
   simp only [n,Bool.false_eq_true,if_false]
   have a:=U6 v.cells.toList 0 cs o (by simp;have:=h.1;omega)
   have d:(v.cells.zipIdx.foldl (fun cs (c,j)=>cs.setIfInBounds (o+j) c) cs)=(v.cells.toList.zipIdx 0).foldl (fun cs (x:Value × Nat)=>cs.setIfInBounds (o+x.2) x.1) cs:=by
    rw [<-Array.foldl_toList]
    simp
   rw [d]
   simp only [Nat.add_zero] at a
   have f:=h.put g (off:=o) (by omega) a.1 a.2
   refine VV t pl hpl vs xs _ _ (by simpa using hl) (fun k p q u r=>hp (k+1) p q (by simpa using u) (by simpa using r)) f (O3 h1 (g.cellsOne (fun vs e=>by subst e;cases hn))) ?_
   rw [KO (by omega)]
   exact m
theorem Xv {α β:Type} (f:α->Sem β) (g:α->β):∀ (l:List α),(∀ x∈l,∀ w,(f x).run P w = .ok (g x) w)->∀ w,(l.mapM f).run P w = .ok (l.map g) w
 | [],_,w=>by simp
 | x::l,h,w=>by simp [h x (by simp),Xv f g l (fun y a=>h y (by simp [a])) w]
theorem Zr {α β:Type} (f:α->Sem β) (g:α->β) (xs:Array α) (h:∀ x∈xs.toList,∀ w,(f x).run P w = .ok (g x) w) (w:World):(xs.mapM f).run P w = .ok (xs.map g) w:=by
 rw [Array.mapM_eq_mapM_toList]
 simp only [Sem.run_map,Xv f g xs.toList h w,Result.andThen_ok]
 congr 1
 apply Array.ext'
 simp
theorem OM:∀ (fs:List Field) (l:List (Nat × Nat)),PY P fs=some l ->
  l=fs.map (fun f=>(f.offset,P.cellsOf f.type))/\∀ f∈fs,∀ w,(sizeOf f.type).run P w = .ok (P.cellsOf f.type) w
 | [],l,h=>by cases h;exact ⟨rfl,fun f hf=>by cases hf⟩
 | f::fs,l,h=>by
  simp only [PY] at h
  split at h
  ·rename_i i r hi hr
   cases h
   obtain ⟨b,c⟩:=OM fs r hr
   have a:P.cellsOf f.type=i.size:=by simp [Program.cellsOf,hi]
   refine ⟨by simp [a,<-b],fun g hg w=>?_⟩
   rcases List.mem_cons.1 hg with rfl | hg
   ·simp [sizeOf,typeInfo,hi,a]
   ·exact c g hg w
  ·cases h
theorem ZbT (h:Rel w0 n M e st a w) (t:TypeId) (ps:Array (Nat × Operand)) (hob:(Bj P e true st (.build t ps)).1) :
  Yields' P w0 M (Bj P e true st (.build t ps)).2.2 (Bj P e true st (.build t ps)).2.1 w (do pure (.value (<- Instr.build t (ps.map fun (i,x)=>(i,a.eval x))))):=by
 unfold Bj at hob ⊢
 cases hz:Bv P t with
 | none=>simp [hz] at hob
 | some z =>
  simp only [hz] at hob ⊢
  obtain ⟨G,y,E⟩:=hob
  obtain ⟨i,v,U,hv,V,hs,rfl⟩:=Du hz
  have u:R w0 M w v (HB v):=LS V
  have j:RowR w0 M w v.cells (HB v).cells:=u.cells
  have c:=u.cellsOne (fun vs e=>by have:=Jg V;rw [e] at this;cases this)
  have g:∀ (k:Nat) (p:Nat × Value) (q:Nat × AV),((ps.map fun (i,x)=>(i,a.eval x)).toList)[k]? = some p->(ps.toList.map fun p=>(p.1,Au e p.2))[k]? = some q->p.1=q.1/\R w0 M w p.2 q.2/\A9 q.2=true:=by
   intro k p q r Q
   simp only [Array.toList_map,List.getElem?_map,Option.map_eq_some_iff] at r Q
   obtain ⟨K,O,rfl⟩:=r
   obtain ⟨q0,h2,rfl⟩:=Q
   rw [O] at h2
   cases h2
   have D:K∈ps.toList:=List.mem_of_getElem? O
   exact ⟨rfl,Bi h (y K D).1,(y K D).2⟩
  have d:((ps.map fun (i,x)=>(i,a.eval x)).toList).length=(ps.toList.map fun p=>(p.1,Au e p.2)).length:=by simp
  cases hpp:BF P t with
  | some l =>
   unfold BF at hpp
   split at hpp
   ·rename_i fs hu
    obtain ⟨Y,Z⟩:=OM _ _ hpp
    have b:∀ i o s,Ci P t i=some (o,s)->((fs.map fun f=>(f.offset,P.cellsOf f.type))[·]?) i=some (o,s):=by
     intro i o s r
     simp only [Ci,BF,hu,hpp] at r
     rw [Y] at r
     simpa using r
    obtain ⟨cs',J,C,N⟩:=VV t _ b _ _ v.cells _ d g j c E
    refine .here h.st (v := .agg cs') ?_ (.agg C.1 N C.2)
    have D:=Zr (P:=P) (fun (f:Field)=>(do pure (f.offset,<-sizeOf f.type):Sem (Nat × Nat))) (fun f=>(f.offset,P.cellsOf f.type)) fs (fun f E w=>by simp [Z f E]) w
    simp only [Instr.build,zeroValue,typeInfo,Sem.run_bind,run_program,Result.andThen_ok,U,hv,Sem.run_pure,run_underlying hu,D,J]
   ·cases hpp
  | none =>
   cases ha:B9 P t with
   | none=>simp [hpp,ha] at G
   | some p =>
    obtain ⟨m,s,ag⟩:=p
    obtain ⟨el,hu,F⟩:=QP ha
    have b:∀ i o H,Ci P t i=some (o,H)->(fun i=>some (i*s,s)) i=some (o,H):=by
     intro i o H r
     simpa [Ci,hpp,ha] using r
    obtain ⟨cs',J,C,N⟩:=VV t _ b _ _ v.cells _ d g j c E
    refine .here h.st (v := .agg cs') ?_ (.agg C.1 N C.2)
    simp only [Instr.build,zeroValue,typeInfo,Sem.run_bind,run_program,Result.andThen_ok,U,hv,Sem.run_pure,run_underlying hu,BL F,J]
theorem TA (sz:Nat):∀ (vals:List Value) (k:Nat) (cs:Array Value),(∀ v∈vals,v.cells.size=sz)->(k+vals.length)*sz<=cs.size ->
  ∃ cs',Instr.fill (fun i=>some (i*sz,sz)) cs ((vals.zipIdx k).map fun x=>(x.2,x.1))=some cs'/\cs'.size=cs.size/\(∀ j,j<k*sz->cs'[j]? = cs[j]?) /\
   ∀ i v,vals[i]? = some v->∀ j,j<sz->cs'[(k+i)*sz+j]? = v.cells[j]?
 | [],k,cs,_,_=>⟨cs,rfl,rfl,fun _ _=>rfl,fun i v h=>by simp at h⟩
 | v::vals,k,cs,hv,hl=>by
  have g:=hv v (by simp)
  simp only [List.length_cons] at hl
  have d:(k+1)*sz<=cs.size:=Nat.le_trans (Nat.mul_le_mul_right _ (by omega)) hl
  rw [Nat.succ_mul] at d
  simp only [List.zipIdx_cons,List.map_cons,Instr.fill]
  have f:(decide (v.cells.size≠sz)||decide (k*sz+v.cells.size > cs.size))=false:=by simp;omega
  simp only [f,Bool.false_eq_true,if_false]
  have b:(v.cells.zipIdx.foldl (fun cs (c,j)=>cs.setIfInBounds (k*sz+j) c) cs)=(v.cells.toList.zipIdx 0).foldl (fun cs (x:Value × Nat)=>cs.setIfInBounds (k*sz+x.2) x.1) cs:=by
   rw [<-Array.foldl_toList]
   simp
  have a:=U6 v.cells.toList 0 cs (k*sz) (by simp;omega)
  rw [b]
  simp only [Nat.add_zero,Array.length_toList,g] at a
  obtain ⟨cs',a1,a2,a3,a4⟩:=TA sz vals (k+1) ((v.cells.toList.zipIdx 0).foldl (fun cs (x:Value × Nat)=>cs.setIfInBounds (k*sz+x.2) x.1) cs) (fun u hu=>hv u (by simp [hu])) (by rw [a.1];rw [show k+1+vals.length=k+(vals.length+1) from by omega];exact hl)
  refine ⟨cs',a1,by rw [a2,a.1],fun j e=>?_,fun i u hu j e=>?_⟩
  ·rw [a3 j (by rw [Nat.succ_mul];omega),a.2 j,Aa]
  ·cases i with
   | zero =>
    simp only [List.getElem?_cons_zero,Option.some.injEq] at hu
    subst hu
    simp only [Nat.add_zero]
    rw [a3 _ (by rw [Nat.succ_mul];omega),a.2,Ab,Array.getElem?_toList]
    congr 1
    omega
   | succ i =>
    have:=a4 i u (by simpa using hu) j e
    rw [<-this,show k+(i+1)=k+1+i from by omega]
theorem U2 {ps:List (Nat × Operand)} {m:Nat} (h:ps.map (·.1)=List.range m) (f:Operand->Value) :
  (ps.map fun p=>(p.1,f p.2))=((ps.map fun p=>f p.2).zipIdx 0).map fun x=>(x.2,x.1):=by
 have b:ps.length=m:=by simpa using congrArg List.length h
 apply List.ext_getElem?
 intro i
 simp only [List.getElem?_map,List.getElem?_zipIdx]
 cases hp:ps[i]? with
 | none=>simp
 | some p =>
  have a:i<m:=by rw [<-b];exact (Af.1 hp).1
  have:=congrArg (·[i]?) h
  simp [hp,a] at this
  simp [this]
theorem R.row {cs:Array Value} {ty:TypeId} {xs:List AV} {sz k:Nat} (us:Nat->Value) (hu:∀ i (hi:i<xs.length),(us i).cells.size=sz/\R w0 M w (us i) xs[i])
  (hc:∀ i,i<xs.length->∀ j,j<sz->cs[i*sz+j]? = (us i).cells[j]?) {cap:Nat} (hcap:xs.length<=cap) (hm:cap<=maxLen) {o:Own} (hk:xs.length*sz<=k) (M':Mem) (hM:M'.top w.heap.size=k)
  (hx:Ext w0 M w M' (w.alloc (.cells cs ty))) (ho:ZbI M' w.heap.size 0 cap xs.length sz o) :
  R w0 M' (w.alloc (.cells cs ty)) (.slice (some ⟨w.heap.size,0,none⟩) xs.length cap) (.list xs o):=by
 refine .list sz us hcap hm (fun i hi=>⟨(hu i hi).1,fun j a=>⟨.inr ?_,?_⟩⟩) (fun i hi=>((hu i hi).2).mono hx) ho
 ·rw [hM]
  have:(i+1)*sz<=xs.length*sz:=Nat.mul_le_mul_right _ hi
  rw [Nat.succ_mul] at this
  omega
 ·rw [Nat.zero_add,World.cell?_alloc_new]
  exact hc i hi j a
theorem Uy (h:Rel w0 n M e st a w) (t:TypeId) (m:Nat) (ps:Array (Nat × Operand)) (hmk:Ht e t=false) (hob:(Bj P e true st (.buildSlice t m ps)).1) :
  Yields' P w0 M (Bj P e true st (.buildSlice t m ps)).2.2 (Bj P e true st (.buildSlice t m ps)).2.1 w (do pure (.value (<- Instr.buildSlice t m (ps.map fun (i,x)=>(i,a.eval x))))):=by
 unfold Bj at hob ⊢
 cases he:GN P t with
 | none=>simp [he] at hob
 | some p =>
  obtain ⟨O,sz,ag,U⟩:=p
  simp only [he,hmk] at hob ⊢
  obtain ⟨l,G,J,s,V,E⟩:=hob
  obtain ⟨i,hu,Z,_,r⟩:=E3 he
  obtain ⟨z,F⟩:=Option.isSome_iff_exists.1 V
  obtain ⟨i',v,C,hv,hc,hs,rfl⟩:=Du F
  have K:ps.toList.length=m:=by simpa using congrArg List.length G
  have c:∀ p∈ps.toList,(a.eval p.2).cells.size=sz:=fun p y=>by
   rw [(Bi h (l p y)).cells.1]
   exact E _ (List.mem_map.2 ⟨p,y,rfl⟩)
  obtain ⟨zc,hzc⟩:∃ zc:Array Value,if m*sz=0 then zc = #[] else zc=v.cells:=by
   by_cases h0:m*sz=0
   ·exact ⟨#[],by rw [Ad h0]⟩
   ·exact ⟨v.cells,by rw [Ae h0]⟩
  obtain ⟨cs',a1,a2,a3,a4⟩:=TA sz (ps.toList.map fun p=>a.eval p.2) 0 ((Array.range (m*sz)).map (zc[· % zc.size]!)) (fun u hu=>by obtain ⟨p,y,rfl⟩:=List.mem_map.1 hu;exact c p y) (by simp [K])
  obtain ⟨q,N⟩:=h.st.newTop cs' O (m*sz)
  have b:((ps.toList.map fun p=>Au e p.2).map AV.pub).length=m:=by simp [<-K]
  have f:=R.row (us:=fun i=>((ps.toList.map fun p=>a.eval p.2).getD i undef)) (xs:=(ps.toList.map fun p=>Au e p.2).map AV.pub) (cs:=cs') (ty:=O) (sz:=sz) (k:=m*sz) (cap:=m) (o := .full) ?hu ?hc (by rw [b];exact Nat.le_refl _) ?hm (by rw [b];exact Nat.le_refl _) (M.newTop w.heap.size (m*sz)) (by simp [Mem.newTop]) N b
  case hu =>
   intro k D
   have d:k<ps.toList.length:=by simpa using D
   have Q:(ps.toList.map fun p=>a.eval p.2).getD k undef=a.eval (ps.toList[k]).2:=by simp [List.getD,List.getElem?_eq_getElem d]
   rw [Q]
   refine ⟨c _ (List.getElem_mem _),?_⟩
   simp only [List.getElem_map]
   exact (Bi h (l _ (List.getElem_mem _))).pub
  case hc =>
   intro k D j Y
   have d:k<ps.toList.length:=by simpa using D
   have:=a4 k (a.eval (ps.toList[k]).2) (by simp [List.getElem?_eq_getElem d]) j Y
   rw [Nat.zero_add] at this
   rw [this]
   simp [List.getD,List.getElem?_eq_getElem d]
  case hm =>
   have:m*1<=m*sz:=Nat.mul_le_mul_left _ s
   simp [maxLen]
   omega
  rw [b] at f
  refine .value ⟨_,_,_,?_,N,q,f⟩
  have H:¬ (m*sz > 2 ^ 24):=by omega
  have g:(ps.map fun (i,x)=>(i,a.eval x)).toList=((ps.toList.map fun p=>a.eval p.2).zipIdx 0).map fun x=>(x.2,x.1):=by
   rw [Array.toList_map]
   exact U2 G a.eval
  by_cases h0:m*sz=0
  ·rw [Ad h0] at hzc
   subst hzc
   simp only [Instr.buildSlice,Sem.run_bind,run_underlying hu,Result.andThen_ok,BL r,Ae H,Ad h0,Sem.run_pure,g,a1,newRow,run_newObj]
   rfl
  ·rw [Ae h0] at hzc
   subst hzc
   simp only [Instr.buildSlice,Sem.run_bind,run_underlying hu,Result.andThen_ok,BL r,Ae H,Ae h0,Sem.run_pure,zeroValue,typeInfo,run_program,C,hv,g,a1,newRow,run_newObj]
   rfl
theorem Below.setRow {B:Nat} {x y:World} (h:Below B x y) {g:Nat} (hg:B<=g) (cs:Array Value):Below B x (y.setRow g cs) :=
 h.trans ⟨rfl,rfl,rfl,by simp,fun k a=>setRow_other y g k cs (by omega)⟩
theorem KeepsObj.setRow {g:Nat} {c:Array Value} {ty:TypeId} (hg:w.heap[g]? = some (.cells c ty (0,0))) (c':Array Value):KeepsObj w (w.setRow g c'):=by
 intro b o h1 h2
 by_cases q:b=g
 ·subst q;rw [hg] at h1;cases h1;cases h2
 ·rw [setRow_other w g b c' q];exact h1
theorem GA (M':Mem) (hN:M'.N=M.N) (hb:∀ l,l<M.N->M'.bx l=M.bx l) (hNR:M'.NR=M.NR)
  (hr:∀ id,id<M.NR->M.fr id<=M'.fr id/\(M'.fr id=M.fr id->M'.blk id=M.blk id/\M'.cap id=M.cap id/\M'.rsz id=M.rsz id)) (ht:∀ b,M.top b<=M'.top b)
  {g:Nat} {c c':Array Value} {ty:TypeId} (hg:w.heap[g]? = some (.cells c ty (0,0))) (hg0:w0.heap.size<=g) (hkeep:∀ j,j<M.top g->c'[j]? = c[j]?) (hown:¬ M.foreign g) (hfo:∀ b,M.foreign b->M'.foreign b/\M'.top b=M.top b) (hNL:M'.NL=M.NL:=by rfl) (hlb:M'.lb=M.lb:=by rfl) :
  Ext w0 M w M' (w.setRow g c') :=
 ⟨by omega,hb,by omega,hr,fun b a v h f=>by
  refine ⟨?_,h.imp id (fun q=>Nat.lt_of_lt_of_le q (ht b))⟩
  by_cases hbg:b=g
  ·subst hbg
   have k:a<M.top b:=h.resolve_left (by omega)
   rw [cell_of_row w b a c ty _ hg] at f
   rw [cell_of_row _ b a c' ty _ (setRow_heap w b c c' ty _ hg),hkeep a k]
   exact f
  ·rw [cell_setRow_other w g c' ⟨b,a,none⟩ hbg]
   exact f,by simp,by omega,fun _ _=>by rw [hlb],fun _ _ _=>by omega,fun b o i d _=>KeepsObj.setRow hg c' b o i d,fun b i d=>⟨setRow_other w g b c' (fun e=>hown (e▸d)),hfo b d⟩⟩
theorem Zcr (h:Rel w0 n M e st a w) (t:TypeId) (x v:Operand) (hob:(Bj P e true st (.store t x v)).1) :
  Yields' P w0 M (Bj P e true st (.store t x v)).2.2 (Bj P e true st (.store t x v)).2.1 w (do Instr.storeAt t (a.eval x) (a.eval v);pure .skip):=by
 unfold Bj at hob ⊢
 cases ht:Fv P t with
 | none=>simp [ht] at hob
 | some p =>
  obtain ⟨sz,ag⟩:=p
  simp only [ht] at hob ⊢
  obtain ⟨_,m,hv,hbx,hr,hn,hl,hle⟩:=hob
  have hRx:=Bi h m
  have g:=Bi h hv
  generalize Au e x=X at hRx hbx hr hle ⊢
  generalize a.eval x=vx at hRx ⊢
  cases X with
  | box l off =>
   cases hRx with
   | box hlN =>
    have ab:l<st.boxes.length:=by simpa [Cm] using hr
    obtain ⟨cs,hcs⟩:∃ cs,st.boxes[l]? = some cs:=⟨_,List.getElem?_eq_getElem ab⟩
    have aa:st.boxes.getD l []=cs:=by simp [List.getD,hcs]
    obtain ⟨J,b2,c,U,F,b4,b5,b6⟩:=h.st.box l cs hcs
    simp only [Bt,Dh,aa] at hle
    simp only [Uc,aa]
    obtain ⟨v1,v2⟩:=g.cells
    have v3:=g.cellsOne (fun vs e=>by rw [e] at hn;cases hn)
    have s:∀ u∈(a.eval v).cells.toList,u.oneCell'=true:=by
     intro u hu
     obtain ⟨k,G,rfl⟩:=List.getElem_of_mem hu
     simp only [Array.length_toList] at G
     rw [Array.getElem_toList]
     exact (v2 k G (by omega)).oneCell (v3 _ (List.getElem_mem _))
    have hst:=run_storeCells_at P (M.bx l) off U (a.eval v).cells.toList 0 c w F (by simp;omega) s
    simp only [Nat.add_zero] at hst
    generalize hc':(c.toList.take off++(a.eval v).cells.toList++c.toList.drop (off+(a.eval v).cells.toList.length)).toArray=c' at hst
    have C:c'.size=c.size:=by rw [<-hc'];simp;omega
    have o:∀ j,c'[j]? = if off<=j/\j<off+(a.eval v).cells.toList.length then (a.eval v).cells.toList[j-off]? else c[j]? := by
     intro j
     rw [<-hc',List.getElem?_toArray,List.append_assoc,List.getElem?_append]
     simp only [List.length_take,Array.length_toList]
     have e:min off c.size=off:=by omega
     rw [e]
     by_cases c1:j<off
     ·rw [Ad c1,Aa,List.getElem?_take,Ad c1,Array.getElem?_toList]
     ·rw [Ae c1,List.getElem?_append]
      simp only [Array.length_toList]
      by_cases c2:j-off<(a.eval v).cells.size
      ·rw [Ad c2,Ab]
      ·rw [Ae c2,Aa,List.getElem?_drop,Array.getElem?_toList]
       congr 1
       omega
    have m:Ext w0 M w M (w.setRow (M.bx l) c'):=GA M rfl (fun _ _=>rfl) rfl (fun _ _=>⟨Nat.le_refl _,fun _=>⟨rfl,rfl,rfl⟩⟩) (fun _=>Nat.le_refl _) F J (fun j hj=>by rw [b2] at hj;omega) (fun q=>q.1 l (by assumption) rfl) (fun _ q=>⟨q,rfl⟩)
    have f:RowR w0 M w c' (BH cs off (Au e v).cells):=RowR.put ⟨b4,b6⟩ g (by omega) C o
    refine ⟨undef,_,M,.inr ⟨?_,rfl⟩,m,⟨Below.setRow h.st.below J _,by simp [h.st.N],h.st.NR,fun b hb=>h.st.top b (by simpa using hb),h.st.inj,fun E cs' hl'=>?_,fun id x y=>(h.st.row id x y).keep m rfl rfl rfl rfl rfl (h.st.row id x y).ne (setRow_other w _ _ _ (Ne.symm ((h.st.row id x y).ne l hlN))),h.st.rowinj,h.st.loop.mono m rfl (KeepsObj.setRow F _)⟩,RO⟩
    ·have e0:¬ ((a.eval v).cells.size≠sz):=by omega
     simp only [Instr.storeAt,Instr.sureAddr,Sem.run_bind,Sem.run_pure,Result.andThen_ok,storeVar,BL ht,Ae e0,hst]
    ·by_cases ell:E=l
     ·subst ell
      rw [List.getElem?_set_self ab] at hl'
      cases hl'
      exact ⟨J,b2,c',U,setRow_heap w _ c c' U _ F,f.1,O3 b5 v3,fun i K D=>(f.2 i K D).mono m⟩
     ·rw [List.getElem?_set_ne (Ne.symm ell)] at hl'
      obtain ⟨d1,d2,d,O,d3,d4,d5,d6⟩:=h.st.box E cs' hl'
      have r:E<M.N:=by rw [h.st.N];exact (Af.1 hl').1
      have Q:M.bx E≠M.bx l:=fun q=>ell (h.st.inj E l r hlN q)
      exact ⟨d1,d2,d,O,by rw [setRow_other w _ _ _ Q];exact d3,d4,d5,fun i K D=>(d6 i K D).mono m⟩
  | vel id ver off =>
   cases hRx with
   | @vel _ _ _ ad y hver hh =>
    obtain ⟨ah,cs,H⟩:=Qx (show (Df st.rows id ver).isSome=true from hr)
    have f:=DY H
    obtain ⟨f1,f2,J,b2,f5,f6,f7,c,U,F,b4,ai,b5,b6⟩:=h.st.row id _ f
    have had:=hh f1.symm
    subst had
    simp only [Bt,Dh,H] at hle
    simp only [Uc,H]
    obtain ⟨v1,v2⟩:=g.cells
    have v3:=g.cellsOne (fun vs e=>by rw [e] at hn;cases hn)
    have s:∀ u∈(a.eval v).cells.toList,u.oneCell'=true:=by
     intro u hu
     obtain ⟨k,G,rfl⟩:=List.getElem_of_mem hu
     simp only [Array.length_toList] at G
     rw [Array.getElem_toList]
     exact (v2 k G (by omega)).oneCell (v3 _ (List.getElem_mem _))
    have hst:=run_storeCells_at P (M.blk id) off U (a.eval v).cells.toList 0 c w F (by simp;omega) s
    simp only [Nat.add_zero] at hst
    generalize hc':(c.toList.take off++(a.eval v).cells.toList++c.toList.drop (off+(a.eval v).cells.toList.length)).toArray=c' at hst
    have C:c'.size=c.size:=by rw [<-hc'];simp;omega
    have o:∀ j,c'[j]? = if off<=j/\j<off+(a.eval v).cells.toList.length then (a.eval v).cells.toList[j-off]? else c[j]? := by
     intro j
     rw [<-hc',List.getElem?_toArray,List.append_assoc,List.getElem?_append]
     simp only [List.length_take,Array.length_toList]
     have e:min off c.size=off:=by omega
     rw [e]
     by_cases c1:j<off
     ·rw [Ad c1,Aa,List.getElem?_take,Ad c1,Array.getElem?_toList]
     ·rw [Ae c1,List.getElem?_append]
      simp only [Array.length_toList]
      by_cases c2:j-off<(a.eval v).cells.size
      ·rw [Ad c2,Ab]
      ·rw [Ae c2,Aa,List.getElem?_drop,Array.getElem?_toList]
       congr 1
       omega
    have m:Ext w0 M w M (w.setRow (M.blk id) c'):=GA M rfl (fun _ _=>rfl) rfl (fun _ _=>⟨Nat.le_refl _,fun _=>⟨rfl,rfl,rfl⟩⟩) (fun _=>Nat.le_refl _) F J (fun j hj=>by rw [b2] at hj;omega) (fun q=>q.2.1 id (by assumption) rfl) (fun _ q=>⟨q,rfl⟩)
    have Z:id<st.rows.length:=(Af.1 f).1
    have af:=KO (l:=cs) (xs:=(Au e v).cells) (off:=off) (by omega)
    refine ⟨undef,_,M,.inr ⟨?_,rfl⟩,m,⟨Below.setRow h.st.below J _,h.st.N,by simp [h.st.NR],fun b hb=>h.st.top b (by simpa using hb),h.st.inj,fun E cs' hl'=>?_,fun z x hid'=>?_,h.st.rowinj,h.st.loop.mono m rfl (KeepsObj.setRow F _)⟩,RO⟩
    ·have e0:¬ ((a.eval v).cells.size≠sz):=by omega
     simp only [Instr.storeAt,Instr.sureAddr,Sem.run_bind,Sem.run_pure,Result.andThen_ok,storeVar,BL ht,Ae e0,hst]
    ·obtain ⟨d1,d2,d,O,d3,d4,d5,d6⟩:=h.st.box E cs' hl'
     have r:E<M.N:=by rw [h.st.N];exact (Af.1 hl').1
     exact ⟨d1,d2,d,O,by rw [setRow_other w _ _ _ (f5 E r)];exact d3,d4,d5,fun i K D=>(d6 i K D).mono m⟩
    ·by_cases ell:z=id
     ·subst ell
      rw [List.getElem?_set_self Z] at hid'
      cases hid'
      refine ⟨f1,f2,J,b2,f5,f6,f7,c',U,setRow_heap w _ c c' U _ F,C.trans b4,by omega,O3 b5 v3,fun i K D=>?_⟩
      have Y:RowR w0 M w (c'.extract 0 cs.length) (BH cs off (Au e v).cells):=by
       have ae:RowR w0 M w (c.extract 0 cs.length) cs:=⟨by simp;omega,fun i K D=>by rw [Array.getElem_extract];simp only [Nat.zero_add];exact b6 i (by omega) D⟩
       refine RowR.put ae g (by omega) (by simp;omega) (fun j=>?_)
       simp only [Array.getElem?_extract,Nat.zero_add,o]
       by_cases q1:j<min cs.length c'.size
       ·rw [Ab]
        by_cases q2:off<=j/\j<off+(a.eval v).cells.toList.length
        ·rw [Ad q2,Ad q2]
        ·rw [Ae q2,Ae q2,Ab]
       ·rw [Aa,Ae (by simp;omega),Aa]
      have h3:i<(c'.extract 0 cs.length).size:=by simp;omega
      have:=(Y.2 i h3 D).mono m
      rw [Array.getElem_extract] at this
      simpa using this
     ·rw [List.getElem?_set_ne (Ne.symm ell)] at hid'
      have G:=h.st.row z x hid'
      have V:z<M.NR:=by rw [h.st.NR];exact (Af.1 hid').1
      have Q:M.blk z≠M.blk id:=fun q=>ell (h.st.rowinj z id V y q)
      exact G.keep m rfl rfl rfl rfl rfl G.ne (setRow_other w _ _ _ Q)
  | _=>cases hbx
end
section
variable {P:Program} {w0:World} {n:Nat} {M:Mem} {e:Env} {st:St} {a:Act} {w:World}
def TE (M:Mem) (w w':World):Prop:=(∀ (b off:Nat) (v:Value),w.cell? ⟨b,off,none⟩=some v->w'.cell? ⟨b,off,none⟩=some v)/\∀ (b:Nat) (es:Array MapEntry) (ck:Nat),w.heap[b]? = some (.map es ck)->(∀ k,k<M.NL->M.lb k≠b)->w'.heap[b]? = some (.map es ck)
theorem R.same {M:Mem} {w w':World} (hs:TE M w w') {v:Value} {x:AV} (h:R w0 M w v x):R w0 M w' v x:=by
 induction h with
 | flat h=>exact .flat h
 | agg hl h1 _ ih=>exact .agg hl h1 ih
 | tup hl _ ih=>exact .tup hl ih
 | nil ho=>exact .nil ho
 | emp ho=>exact .emp ho
 | @list b off cap xs o sz us hc hm hcell _ ho ih =>
  refine .list sz us hc hm (fun i a=>⟨(hcell i a).1,fun j c=>⟨((hcell i a).2 j c).1,?_⟩⟩) ih ho
  obtain ⟨v,hv⟩:=Og (u:=us i) (j:=j) (by rw [(hcell i a).1];exact c)
  exact (hs.1 _ _ _ ((((hcell i a).2 j c).2).trans hv)).trans hv.symm
 | @elem b off x u k hcell _ ih =>
  refine .elem u k (fun j c=>⟨(hcell j c).1,?_⟩) ih
  obtain ⟨v,hv⟩:=Og (u:=u) (j:=j) c
  exact (hs.1 _ _ _ ((hcell j c).2.trans hv)).trans hv.symm
 | box hl=>exact .box hl
 | clo hl _ ih=>exact .clo hl ih
 | bnd hl _ ih=>exact .bnd hl ih
 | yld hk=>exact .yld hk
 | mp hk=>exact .mp hk
 | tab h hk hn=>exact .tab (hs.2 _ _ _ h hn) hk hn
 | vec a hv h=>exact .vec a hv h
 | vel a hv h=>exact .vel a hv h
theorem KA {w:World} {D:Nat} {o o':Obj} (hD:w.heap[D]? = some o) (ho:o.isCells=false) {b off:Nat} {v:Value} (h:w.cell? ⟨b,off,none⟩=some v):(w.putObj D o').cell? ⟨b,off,none⟩=some v:=by
 by_cases c:b=D
 ·subst c
  unfold World.cell? at h
  simp only [hD] at h
  cases o with
  | cells c ty fz=>simp [Obj.isCells] at ho
  | _=>simp at h
 ·unfold World.cell? at h ⊢
  simp only [World.putObj_heap_other c] at h ⊢
  exact h
theorem entryOk.same {M:Mem} {w w':World} (hs:TE M w w') {v:Value} {x:Bool × AV} (h:entryOk w0 M w v x):entryOk w0 M w' v x:=by
 unfold entryOk at *
 split
 ·rename_i c;rw [Ad c] at h;exact h.same hs
 ·rename_i c;rw [Ae c] at h;exact h
theorem RowOk.same {M:Mem} {w w':World} {id:Nat} {x:RowA} (h:RowOk w0 M w id x) (hs:TE M w w')
  (hc:∀ {b:Nat} {c:Array Value} {ty:TypeId},w.heap[b]? = some (.cells c ty (0,0))->w'.heap[b]? = some (.cells c ty (0,0))) (hz:w.heap.size<=w'.heap.size):RowOk w0 M w' id x:=by
 cases x with
 | grow n sz =>
  obtain ⟨a1,a2,a3,a4,a5,a6,a7,c,ty,d,a⟩:=h
  exact ⟨a1,a2,a3,a4,a5,a6,a7,c,ty,hc d,a⟩
 | vec v sz cs =>
  obtain ⟨a1,a2,a3,a4,a5,a6,a7,c,ty,d,a,j,e,g⟩:=h
  exact ⟨a1,a2,a3,a4,a5,a6,a7,c,ty,hc d,a,j,e,fun i k f=>(g i k f).same hs⟩
 | dead v =>
  obtain ⟨a1,a2,a3,a4⟩:=h
  exact ⟨a1,a2,a3,Nat.lt_of_lt_of_le a4 hz⟩
theorem Below.putObj {B D:Nat} {x y:World} (h:Below B x y) (hD:B<=D) (o:Obj):Below B x (y.putObj D o) :=
 h.trans ⟨rfl,rfl,rfl,by simp,fun k a=>World.putObj_heap_other (by omega)⟩
theorem RelSt.putObj {M:Mem} {w:World} (h:RelSt w0 M st w) {D:Nat} {d:Option (List Deferred)} (o':Obj) (hD:w.heap[D]? = some (.deferred d)) (h0:w0.heap.size<=D) (hl:∀ k,k<M.NL->M.lb k≠D):RelSt w0 M st (w.putObj D o'):=by
 have hs:TE M w (w.putObj D o'):=⟨fun b u v=>KA hD rfl,fun b z y hb _=>by rw [World.putObj_heap_other (fun e=>by subst e;rw [hD] at hb;cases hb)];exact hb⟩
 have m:∀ {b:Nat} {c:Array Value} {a:TypeId},w.heap[b]? = some (.cells c a (0,0))->(w.putObj D o').heap[b]? = some (.cells c a (0,0)):=by
  intro b c a hb
  rw [World.putObj_heap_other (fun e=>by subst e;rw [hD] at hb;cases hb)]
  exact hb
 refine ⟨Below.putObj h.below h0 _,h.N,h.NR,fun b hb=>h.top b (by simpa using hb),h.inj,fun l cs j=>?_,fun id x f=>(h.row id x f).same hs m (by simp),h.rowinj,⟨h.loop.NL,h.loop.inj,fun k t f=>?_⟩⟩
 ·obtain ⟨a1,a2,c,a,a3,a4,a5,a6⟩:=h.box l cs j
  exact ⟨a1,a2,c,a,m a3,a4,a5,fun i r n=>(a6 i r n).same hs⟩
 ·have g:k<M.NL:=by rw [h.loop.NL];exact (Af.1 f).1
  obtain ⟨a1,a2⟩:=h.loop.record k t f
  exact ⟨a1,a2.map (fun o q _=>by rw [World.putObj_heap_other (hl k g)];exact q) fun s x v _ p=>p.same hs⟩
def Mem.newMap (M:Mem) (b:Nat):Mem:={ M with NL:=M.NL+1,lb:=fun k=>if k=M.NL then b else M.lb k }
theorem RelSt.newMap (h:RelSt w0 M st w) :
  RelSt w0 (M.newMap w.heap.size) { st with loops:=st.loops++[ZK []] } (w.alloc (.map #[] 0))/\Ext w0 M w (M.newMap w.heap.size) (w.alloc (.map #[] 0)):=by
 have e:KeepsObj w (w.alloc (.map #[] 0)):=KeepsObj.alloc _ _
 have g:∀ (b f:Nat) (v:Value),w.cell? ⟨b,f,none⟩=some v->(w.alloc (.map #[] 0)).cell? ⟨b,f,none⟩=some v:=by
  intro b f v hv
  rw [World.cell?_alloc_lt _ _ _ (World.block_lt_of_cell? w _ hv)]
  exact hv
 have d:∀ k,k<M.NL->(M.newMap w.heap.size).lb k=M.lb k:=fun k hk=>by simp [Mem.newMap];omega
 have hnew:(M.newMap w.heap.size).lb M.NL=w.heap.size:=by simp [Mem.newMap]
 have t:Ext w0 M w (M.newMap w.heap.size) (w.alloc (.map #[] 0)) :=
  ⟨Nat.le_refl _,fun _ _=>rfl,Nat.le_refl _,fun _ _=>⟨Nat.le_refl _,fun _=>⟨rfl,rfl,rfl⟩⟩,fun b f v r n=>⟨g b f v n,r⟩,by simp,Nat.le_succ _,d,fun k r n=>by
   have:k=M.NL:=by simp only [Mem.newMap] at n;omega
   rw [this,hnew];exact Nat.le_refl _,fun b o r n _=>e b o r n,fun b q1 q=>⟨Bh _ _ q1,⟨q.1,q.2.1,fun k hk=>by
    by_cases c:k=M.NL
    ·subst c;rw [hnew];omega
    ·have a:k<M.NL:=by simp only [Mem.newMap] at hk;omega
     rw [d k a];exact q.2.2 k a⟩,rfl⟩⟩
 have z:∀ {b:Nat},b<w.heap.size->(w.alloc (.map #[] 0)).heap[b]? = w.heap[b]? := fun {b} y=>Bh _ _ y
 have p:∀ j,j<M.NL->M.lb j<w.heap.size:=fun j G=>(h.loop.record j _ (List.getElem?_eq_getElem (by rw [<-h.loop.NL];exact G))).2.lt
 refine ⟨⟨h.below.alloc h.base_le _,h.N,h.NR,fun b y=>h.top b (by simp at y;omega),h.inj,fun l cs E=>?_,fun id x u=>(h.row id x u).keep t rfl rfl rfl rfl rfl (h.row id x u).ne (z (h.row id x u).lt),h.rowinj,
  ⟨by simp [Mem.newMap,h.loop.NL],fun k m hk a q=>?_,fun k J hk=>?_⟩⟩,t⟩
 ·obtain ⟨a1,a2,c,D,a3,a4,a5,a6⟩:=h.box l cs E
  exact ⟨a1,a2,c,D,by rw [show (M.newMap w.heap.size).bx l=M.bx l from rfl,z (Array.getElem?_eq_some_iff.1 a3).1];exact a3,a4,a5,fun i H F=>(a6 i H F).mono t⟩
 ·simp only [Mem.newMap] at hk a
  by_cases c:k=M.NL
  ·by_cases c':m=M.NL
   ·omega
   ·subst c
    rw [hnew,d m (by omega)] at q
    have:=p m (by omega)
    omega
  ·by_cases c':m=M.NL
   ·subst c'
    rw [hnew,d k (by omega)] at q
    have:=p k (by omega)
    omega
   ·rw [d k (by omega),d m (by omega)] at q
    exact h.loop.inj k m (by omega) (by omega) q
 ·by_cases c:k=st.loops.length
  ·subst c
   simp only [List.getElem?_concat_length,Option.some.injEq] at hk
   subst hk
   rw [<-h.loop.NL,hnew]
   exact ⟨h.base_le,rfl,#[],0,World.alloc_heap_new w _,rfl,by simp,.nil⟩
  ·have a:k<st.loops.length:=by
    have:=(Af.1 hk).1
    simp at this;omega
   simp only at hk
   rw [List.getElem?_append_left a] at hk
   obtain ⟨a1,a2⟩:=h.loop.record k J hk
   rw [d k (by rw [h.loop.NL];exact a)]
   exact ⟨a1,a2.map (fun o q1 q2=>e _ _ q1 q2) fun s x v _ C=>C.mono t⟩
theorem RelSt.setMap (h:RelSt w0 M st w) {k:Nat} {la:LoopA} (hk:st.loops[k]? = some la) {ks':List ByteArray} {es es':Array MapEntry} {ck ck':Nat} (hr:w.heap[M.lb k]? = some (.map es ck))
  (h1:es'.toList.map (·.key)=ks'.map Value.string) (h2:∀ e∈es'.toList,e.val = .agg #[]) (h3:ks'.Nodup) :
  RelSt w0 M { st with loops:=st.loops.set k (ZK ks') } (w.putObj (M.lb k) (.map es' ck'))/\Ext w0 M w M (w.putObj (M.lb k) (.map es' ck')):=by
 have f:k<st.loops.length:=(Af.1 hk).1
 have a:k<M.NL:=by rw [h.loop.NL];exact f
 have p:M.lb k<w.heap.size:=(Array.getElem?_eq_some_iff.1 hr).1
 obtain ⟨g0,_⟩:=h.loop.record k la hk
 have hs:TE M w (w.putObj (M.lb k) (.map es' ck')):=⟨fun b g v=>KA hr rfl,fun b es ck hb y=>by rw [World.putObj_heap_other (fun e=>y k a e.symm)];exact hb⟩
 have r:∀ {b:Nat} {c:Array Value} {d:TypeId},w.heap[b]? = some (.cells c d (0,0))->(w.putObj (M.lb k) (.map es' ck')).heap[b]? = some (.cells c d (0,0)):=by
  intro b c d hb
  rw [World.putObj_heap_other (fun e=>by subst e;rw [hr] at hb;cases hb)]
  exact hb
 refine ⟨⟨Below.putObj h.below g0 _,h.N,h.NR,fun b hb=>h.top b (by simpa using hb),h.inj,fun l cs m=>?_,fun id x C=>(h.row id x C).same hs r (by simp),h.rowinj,⟨by simp [h.loop.NL],h.loop.inj,fun j D hj=>?_⟩⟩,
  ⟨Nat.le_refl _,fun _ _=>rfl,Nat.le_refl _,fun _ _=>⟨Nat.le_refl _,fun _=>⟨rfl,rfl,rfl⟩⟩,fun b g v h1 h2=>⟨hs.1 b g v h2,h1⟩,by simp,Nat.le_refl _,fun _ _=>rfl,fun _ _ _=>by omega,fun b o h1 _ h3=>?_,fun b _ q=>⟨World.putObj_heap_other (fun e=>q.2.2 k a e.symm),q,rfl⟩⟩⟩
 ·obtain ⟨a1,a2,c,d,a3,a4,a5,a6⟩:=h.box l cs m
  exact ⟨a1,a2,c,d,r a3,a4,a5,fun i E t=>(a6 i E t).same hs⟩
 ·by_cases q:j=k
  ·subst q
   simp only at hj
   rw [List.getElem?_set_self f] at hj
   cases hj
   exact ⟨g0,rfl,es',ck',World.putObj_heap_same p,h1,h2,h3⟩
  ·simp only at hj
   rw [List.getElem?_set_ne (Ne.symm q)] at hj
   have n:j<M.NL:=by rw [h.loop.NL];exact (Af.1 hj).1
   obtain ⟨a1,a2⟩:=h.loop.record j D hj
   exact ⟨a1,a2.map (fun o z _=>by rw [World.putObj_heap_other (fun e=>q (h.loop.inj j k n a e))];exact z) fun s x v _ u=>u.same hs⟩
 ·rw [World.putObj_heap_other (fun e=>h3 k a e.symm)]
  exact h1
theorem Zbz {v:Value} {k:Nat} (h:R w0 M w v (.mp k)):v = .map (some (M.lb k))/\k<M.NL:=by cases h;exact ⟨rfl,‹_›⟩
theorem Zbc {v:Value} (h:R w0 M w v (.agg [])):v = .agg #[]:=by
 cases h with
 | agg hl _ _=>rw [Array.eq_empty_of_size_eq_zero hl]
theorem UK {t:TypeId} (h:Ze2 P t=true):∃ kt et,P.underlying t=some (.map kt et)/\P.underlying kt=some .string/\Bv P et=some []:=by
 unfold Ze2 at h
 split at h
 ·rename_i kt et hu
  simp only [Bool.and_eq_true] at h
  obtain ⟨h1,h2⟩:=h
  refine ⟨kt,et,hu,?_,?_⟩
  ·unfold CL at h1
   split at h1
   ·assumption
   ·cases h1
  ·split at h2
   ·assumption
   ·cases h2
 ·cases h
theorem W3 {ks:List ByteArray} {es:Array MapEntry} (he:es.toList.map (·.key)=ks.map Value.string) (hv:∀ e∈es.toList,e.val = .agg #[]) (s:ByteArray) :
  (Instr.findNow .string (.string s) es.toList 0=some none/\(∀ x∈es.toList,x.key ≠ .string s)/\s ∉ ks)\/∃ j e,Instr.findNow .string (.string s) es.toList 0=some (some (j,.agg #[]))/\es[j]? = some e/\e.key = .string s/\s∈ks:=by
 have b:∀ x∈es.toList,MapKept.IsKey .string x.key:=fun x f=>by
  have:x.key∈ks.map Value.string:=by rw [<-he];exact List.mem_map_of_mem f
  obtain ⟨y,_,c⟩:=List.mem_map.1 this
  rw [<-c];trivial
 rcases MapKept.findNow_spec (d := .string) (k := .string s) trivial es.toList 0 b with ⟨h1,h2⟩ | ⟨j,e,h1,h2,h3⟩
 ·refine .inl ⟨h1,h2,fun g=>?_⟩
  have:Value.string s∈es.toList.map (·.key):=by rw [he];exact List.mem_map_of_mem g
  obtain ⟨x,f,q⟩:=List.mem_map.1 this
  exact h2 x f q
 ·have a:e∈es.toList:=List.mem_of_getElem? h2
  refine .inr ⟨j,e,by rw [h1,hv e a,Nat.zero_add],by simpa using h2,h3,?_⟩
  have:Value.string s∈ks.map Value.string:=by rw [<-he,<-h3];exact List.mem_map_of_mem a
  obtain ⟨y,c,q⟩:=List.mem_map.1 this
  cases q
  exact c
theorem P8 {ks:List ByteArray} {s:ByteArray}:WU ks s=true<->s∈ks:=by
 unfold WU
 rw [List.any_eq_true]
 constructor
 ·rintro ⟨x,a,q⟩
  have:x=s:=by
   obtain ⟨⟨x⟩⟩:=x
   obtain ⟨⟨s⟩⟩:=s
   simp only [OA,beq_iff_eq] at q
   rw [show x=s from q]
  exact this▸a
 ·exact fun h=>⟨s,h,by simp [OA]⟩
theorem X1 (h:Rel w0 n M e st a w) (t:TypeId) (r:Option Operand) (hob:(Bj P e true st (.makeMap t r)).1) :
  Yields' P w0 M (Bj P e true st (.makeMap t r)).2.2 (Bj P e true st (.makeMap t r)).2.1 w (do pure (.value (<- Instr.makeMap t (r.map a.eval)))):=by
 obtain ⟨_,f⟩:=hob
 obtain rfl:r=none:=Option.isNone_iff_eq_none.1 f
 obtain ⟨g,c⟩:=h.st.newMap
 refine ⟨.map (some w.heap.size),w.alloc (.map #[] 0),_,.inl rfl,c,g,?_⟩
 have b:=h.st.loop.NL
 have d:(M.newMap w.heap.size).lb st.loops.length=w.heap.size:=by simp [Mem.newMap,b]
 have:=R.mp (w0:=w0) (M:=M.newMap w.heap.size) (w:=w.alloc (.map #[] 0)) (k:=st.loops.length) (by simp [Mem.newMap,b])
 rw [d] at this
 exact this
theorem UX {t:TypeId} (h:Zj P t=true):∃ kt et iz,P.underlying t=some (.map kt et)/\P.underlying kt=some (.int .i64)/\P.info? et=some iz/\iz.zero=some .nilFunc:=by
 unfold Zj at h
 split at h
 ·rename_i kt et hu
  simp only [Bool.and_eq_true] at h
  obtain ⟨h1,h2⟩:=h
  split at h2
  ·rename_i iz hz
   refine ⟨kt,et,iz,hu,?_,hz,?_⟩
   ·split at h1
    ·assumption
    ·cases h1
   ·split at h2
    ·assumption
    ·cases h2
  ·cases h2
 ·cases h
theorem Sj (i:Int):∀ (es:List MapEntry) (l:List (Int × FuncId)) (n:Nat),es.map (fun e=>(e.key,e.val))=l.map (fun x=>(Value.int .i64 x.1,Value.func (.func x.2) #[] #[])) ->
  (Instr.findNow (.int .i64) (.int .i64 i) es n=some none/\OE l i=(.val .nilFunc,false))\/∃ j f,Instr.findNow (.int .i64) (.int .i64 i) es n=some (some (j,.func (.func f) #[] #[]))/\OE l i=(.clo f [],true)
 | [],[],_,_ => .inl ⟨rfl,rfl⟩
 | [],_::_,_,h=>by cases h
 | _::_,[],_,h=>by cases h
 | e::es,(k,f)::l,n,h=>by
  simp only [List.map_cons,List.cons.injEq,Prod.mk.injEq] at h
  obtain ⟨⟨p,s⟩,u⟩:=h
  have c:MapKept.IsKey (.int .i64) e.key:=by rw [p];rfl
  obtain ⟨r,o,b⟩:=MapKept.sameNow_of_keys (d := .int .i64) (a := .int .i64 i) rfl c
  cases r with
  | true =>
   have q:=b.1 rfl
   rw [p] at q
   cases q
   exact .inr ⟨n,f,by simp [Instr.findNow,o,s],by simp [OE]⟩
  | false =>
   have m:k≠i:=fun q=>by have:=b.2 (by rw [p,q]);cases this
   have t:OE ((k,f)::l) i=OE l i:=by rw [OE,Ae m]
   rw [t]
   rcases Sj i es l (n+1) u with ⟨q1,q2⟩ | ⟨j,g,q1,q2⟩
   ·exact .inl ⟨by simp [Instr.findNow,o,q1],q2⟩
   ·exact .inr ⟨j,g,by simp [Instr.findNow,o,q1],q2⟩
theorem X6 (h:Rel w0 n M e st a w) (t:TypeId) (m k:Operand) {l:List (Int × FuncId)} {i:Int} (em:Au e m = .tab l) (ek:Au e k=Ag i) (hmt:Zj P t=true) (hm:A4 e true m) (hk:A4 e true k) :
  Yields' P w0 M st (.tup [(OE l i).1,.val (.bool (OE l i).2)]) w (do pure (.value (<- Instr.lookup t (a.eval m) (a.eval k) true))):=by
 obtain ⟨b,es,ck,vm,g1,g2⟩:∃ b es ck,a.eval m = .map (some b)/\w.heap[b]? = some (.map es ck)/\es.toList.map (fun e=>(e.key,e.val))=l.map (fun x=>(Value.int .i64 x.1,Value.func (.func x.2) #[] #[])):=by
  have:=em▸Bi h hm
  generalize a.eval m=v at this ⊢
  cases this with
  | tab d o h3=>exact ⟨_,_,_,rfl,d,o⟩
 obtain ⟨u,_⟩:=(ek▸Bi h hk:R w0 M w (a.eval k) (Ag i)).val_inv
 obtain ⟨z,y,C,q,g,s,r⟩:=UX hmt
 rw [vm,u]
 have p:MapKept.IsKey (.int .i64) (.int .i64 i):=rfl
 have fin:∀ (v:Value) (x:AV) (c:Bool),R w0 M w v x->R w0 M w (.tuple #[v,.bool c]) (.tup [x,.val (.bool c)]):=fun v x c hv => .tup rfl fun i d o=>by
  match i,d,o with
  | 0,_,_=>exact hv
  | 1,_,_=>exact .flat rfl
 rcases Sj i es.toList l 0 g2 with ⟨f1,f2⟩ | ⟨j,f,f1,f2⟩
 ·rw [f2]
  refine ⟨_,w,M,.inl ?_,Ext.refl _ _ _,h.st,fin .nilFunc _ false (.flat rfl)⟩
  simp [Instr.lookup,run_underlying q,MapKept.run_getObj_map g1,MapKept.run_checkKey g p,MapKept.run_findKey g f1,zeroValue,typeInfo,s,r,Result.andThen]
 ·rw [f2]
  refine ⟨_,w,M,.inl ?_,Ext.refl _ _ _,h.st,fin _ _ true (.clo (f:=f) (cs := #[]) (xs:=[]) rfl (fun i d=>absurd d (by simp)))⟩
  simp [Instr.lookup,run_underlying q,MapKept.run_getObj_map g1,MapKept.run_checkKey g p,MapKept.run_findKey g f1,Result.andThen]
theorem ZY (h:Rel w0 n M e st a w) (t:TypeId) (m k:Operand) (ok:Bool) (hob:(Bj P e true st (.lookup t m k ok)).1) :
  Yields' P w0 M (Bj P e true st (.lookup t m k ok)).2.2 (Bj P e true st (.lookup t m k ok)).2.1 w (do pure (.value (<- Instr.lookup t (a.eval m) (a.eval k) ok))):=by
 simp only [Bj] at hob ⊢
 split at hob
 ·rename_i l i em ek
  obtain ⟨c,f,r,rfl⟩:=hob
  exact X6 h t m k em ek c f r
 rotate_left
 ·exact hob.elim
 rename_i i s em ek
 cases hks:Pi st i with
 | none=>simp only [hks] at hob
 | some ks =>
  simp only [hks] at hob ⊢
  obtain ⟨c,f,r,rfl⟩:=hob
  obtain ⟨H,_⟩:=Zbz (em▸Bi h f)
  obtain ⟨G,_⟩:=(ek▸Bi h r:R w0 M w (a.eval k) (.val (.string s))).val_inv
  obtain ⟨O,p,u⟩:=Rj hks
  obtain ⟨g0,y⟩:=h.st.loop.record i O p
  unfold LoopOk at y
  rw [u] at y
  obtain ⟨_,es,Q,g1,g2,g3,g4⟩:=y
  obtain ⟨V,Z,z,d,J⟩:=UK c
  rw [H,G]
  have o:∀ C:World,R w0 M C (.agg #[]) (.agg []):=fun C => .agg rfl (by simp) (fun i g=>absurd g (by simp))
  have fin:∀ (b:Bool),R w0 M w (.tuple #[.agg #[],.bool b]) (.tup [.agg [],.val (.bool b)]):=fun b => .tup rfl fun i g E=>by
   match i,g,E with
   | 0,_,_=>exact o w
   | 1,_,_=>exact .flat rfl
  rcases W3 g2 g3 s with ⟨f1,_,f3⟩ | ⟨j,e',f1,_,_,f4⟩
  ·obtain ⟨Y,v,F,K,N,U,D⟩:=Du J
   have hv:v = .agg #[]:=by
    have z6:v.cells.size=0:=by
     have:=(LS (w0:=w0) (M:=M) (w:=w) N).cells.1
     rw [<-D] at this;exact this
    cases v with
    | agg cs=>rw [Array.eq_empty_of_size_eq_zero (show cs.size=0 from z6)]
    | _=>cases z6
   have x:WU ks s=false:=Bool.eq_false_iff.2 fun q=>f3 (P8.1 q)
   rw [x]
   refine ⟨_,w,M,.inl ?_,Ext.refl _ _ _,h.st,fin false⟩
   simp [Instr.lookup,run_underlying z,MapKept.run_getObj_map g1,MapKept.run_checkKey d (show MapKept.IsKey .string (.string s) from trivial),MapKept.run_findKey d f1,zeroValue,typeInfo,F,K,hv,Result.andThen]
  ·have x:WU ks s=true:=P8.2 f4
   rw [x]
   refine ⟨_,w,M,.inl ?_,Ext.refl _ _ _,h.st,fin true⟩
   simp [Instr.lookup,run_underlying z,MapKept.run_getObj_map g1,MapKept.run_checkKey d (show MapKept.IsKey .string (.string s) from trivial),MapKept.run_findKey d f1,Result.andThen]
theorem VI (h:Rel w0 n M e st a w) (t:TypeId) (m k v:Operand) (hob:(Bj P e true st (.mapUpdate t m k v)).1) :
  Yields' P w0 M (Bj P e true st (.mapUpdate t m k v)).2.2 (Bj P e true st (.mapUpdate t m k v)).2.1 w (do Instr.mapUpdate t (a.eval m) (a.eval k) (a.eval v);pure .skip):=by
 simp only [Bj] at hob ⊢
 split at hob
 rotate_left
 ·exact hob.elim
 rename_i i s em ek ev
 cases hks:Pi st i with
 | none=>simp only [hks] at hob
 | some ks =>
  simp only [hks] at hob ⊢
  obtain ⟨_,E,H,Q,hv⟩:=hob
  obtain ⟨N,_⟩:=Zbz (em▸Bi h H)
  obtain ⟨J,_⟩:=(ek▸Bi h Q:R w0 M w (a.eval k) (.val (.string s))).val_inv
  have O:=Zbc (ev▸Bi h hv)
  obtain ⟨U,c,z⟩:=Rj hks
  obtain ⟨g0,D⟩:=h.st.loop.record i U c
  unfold LoopOk at D
  rw [z] at D
  obtain ⟨_,F,p,g1,g2,g3,g4⟩:=D
  obtain ⟨V,et,G,g,Y⟩:=UK E
  rw [N,J,O]
  have o:MapKept.IsKey .string (.string s):=trivial
  rcases W3 g2 g3 s with ⟨f1,f2,f3⟩ | ⟨j,e',f1,f2,f3,f4⟩
  ·have C:WU ks s=false:=Bool.eq_false_iff.2 fun q=>f3 (P8.1 q)
   have r:Zbd ks s=ks++[s]:=by unfold Zbd;rw [C];rfl
   rw [r]
   obtain ⟨l,u⟩:=h.st.setMap c g1 (es':=F.push { key := .string s,val := .agg #[],born:=p }) (ck':=p+1) (ks':=ks++[s]) (by simp [g2]) (fun e d=>by
    simp only [Array.toList_push,List.mem_append,List.mem_singleton] at d
    rcases d with d | rfl
    ·exact g3 e d
    ·rfl) (List.nodup_append.2 ⟨g4,by simp,fun x hx y hy q=>by rw [List.mem_singleton] at hy;subst hy;subst q;exact f3 hx⟩)
   refine ⟨undef,_,M,.inr ⟨?_,rfl⟩,u,l,RO⟩
   simp [Instr.mapUpdate,run_underlying G,MapKept.run_getObj_map g1,MapKept.run_checkKey g o,MapKept.run_findKey g f1,MapKept.run_setObj_map _ g1,Result.andThen,World.putObj]
  ·have C:WU ks s=true:=P8.2 f4
   have r:Zbd ks s=ks:=by unfold Zbd;rw [C];rfl
   rw [r]
   have f:∀ b,F[j]? = some b->({ b with key := .string s,val := .agg #[] }:MapEntry).key=b.key:=fun b he'=>by rw [f2] at he';cases he';exact f3.symm
   obtain ⟨l,u⟩:=h.st.setMap c g1 (es':=F.modify j fun e=>{ e with key := .string s,val := .agg #[] }) (ck':=p) (ks':=ks) (by rw [MapKept.modify_keys j _ f];exact g2) (fun e d=>by
    obtain ⟨Z,K,rfl⟩:=List.mem_iff_getElem.1 d
    simp only [Array.getElem_toList,Array.getElem_modify]
    split
    ·rfl
    ·exact g3 _ (by simp)) g4
   refine ⟨undef,_,M,.inr ⟨?_,rfl⟩,u,l,RO⟩
   simp [Instr.mapUpdate,run_underlying G,MapKept.run_getObj_map g1,MapKept.run_checkKey g o,MapKept.run_findKey g f1,f2,f3,MapKept.run_keyThatStays o,MapKept.run_setObj_map _ g1,Result.andThen,World.putObj]
theorem Zca (h:Rel w0 n M e st a w) (x:Operand) (t ty:TypeId) {el sz by8:Nat} {ag:Bool} (he:GN P t=some (el,sz,ag,by8)) {id ver o n' sz':Nat} {cs:List AV} (ex:Au e x = .vec id ver o n') (hvr:Df st.rows id ver=some (sz',cs))
  (hx:A4 e true x) (hs:sz'=sz) (hz:(Bv P el).isSome=true) (hn:0<n') :
  Yields' P w0 M { st with rows:=st.rows.set id (.vec ver sz (cs.take (o*sz))) } (.tup []) w (do pure (.value (<- Builtin.clear_ #[t] ty #[a.eval x]))):=by
 subst hs
 have hR:=ex▸Bi h hx
 generalize a.eval x=vx at hR ⊢
 obtain ⟨i,hu,hi,_,aa⟩:=E3 he
 obtain ⟨zz,ad⟩:=Option.isSome_iff_exists.1 hz
 obtain ⟨i',z,J,ae,U,ai,_⟩:=Du ad
 have s:=DY hvr
 obtain ⟨f1,f2,b1,b2,f5,f6,f7,c,v,b3,b4,ak,b5,b6⟩:=h.st.row id _ s
 cases hR with
 | @vec _ _ _ _ p cap hid hver hh =>
  obtain ⟨rfl,aj,am⟩:=hh f1.symm
  rw [f2]
  have ah:z.cells.size=sz':=by
   obtain ⟨i2,_,q1,q2,_⟩:=JQ aa
   rw [ai]
   rw [J] at q1
   cases q1
   exact q2
  generalize hl:(Builtin.zeroCells z.cells n').toList=l
  have Q:l.length=n'*sz':=by rw [<-hl,<-ah];simp [Builtin.zeroCells]
  have f:(o+n')*sz'<=c.size:=by rw [b4];exact Nat.mul_le_mul_right _ (by omega)
  have O:∀ u∈l,u.oneCell'=true:=by
   intro u g
   rw [<-hl] at g
   simp only [Builtin.zeroCells,Array.toList_map,List.mem_map,Array.mem_toList_iff,Array.mem_range] at g
   obtain ⟨j,D,rfl⟩:=g
   have C:j % z.cells.size<z.cells.size:=Nat.mod_lt _ (Nat.pos_of_ne_zero fun q=>by rw [q] at D;simp at D)
   rw [getElem!_pos z.cells _ C]
   have V:=LS (w0:=w0) (M:=M) (w:=w) U
   have ab:=V.cellsOne (fun vs q=>by have:=Jg U;rw [q] at this;cases this)
   have:=V.cells
   exact (this.2 _ C (by rw [<-this.1];exact C)).oneCell (ab _ (List.getElem_mem _))
  have hst:=run_storeCells_at P (M.blk id) (o*sz') v l 0 c w b3 (by rw [Q];rw [Nat.add_mul] at f;omega) O
  simp only [Nat.add_zero] at hst
  generalize hc':(c.toList.take (o*sz')++l++c.toList.drop (o*sz'+l.length)).toArray=c' at hst
  have Y:c'.size=c.size:=by rw [<-hc'];rw [Nat.add_mul] at f;simp;omega
  have F:∀ j,j<o*sz'->c'[j]? = c[j]? := by
   intro j D
   rw [<-hc',List.getElem?_toArray,List.append_assoc,List.getElem?_append_left (by rw [Nat.add_mul] at f;simp;omega),List.getElem?_take,Ad D,Array.getElem?_toList]
  have k:Ext w0 M w M (w.setRow (M.blk id) c'):=GA M rfl (fun _ _=>rfl) rfl (fun _ _=>⟨Nat.le_refl _,fun _=>⟨rfl,rfl,rfl⟩⟩) (fun _=>Nat.le_refl _) b3 b1 (fun j D=>by rw [b2] at D;omega) (Mem.own_row hid) (fun _ q=>⟨q,rfl⟩)
  have K:id<st.rows.length:=(Af.1 s).1
  refine ⟨.tuple #[],_,M,.inl ?_,k,⟨Below.setRow h.st.below b1 _,h.st.N,by simp [h.st.NR],fun b hb=>h.st.top b (by simpa using hb),h.st.inj,fun l' cs' E=>?_,fun r x hid'=>?_,h.st.rowinj,h.st.loop.mono k rfl (KeepsObj.setRow b3 _)⟩,.tup rfl (fun i G=>absurd G (by simp))⟩
  ·obtain ⟨m,rfl⟩:∃ m,n'=m+1:=⟨n'-1,by omega⟩
   simp [Builtin.clear_,run_underlying hu,zeroValue,typeInfo,J,ae,hl,hst]
  ·obtain ⟨d1,d2,d,Z,d3,d4,d5,d6⟩:=h.st.box l' cs' E
   have H:l'<M.N:=by rw [h.st.N];exact (Af.1 E).1
   exact ⟨d1,d2,d,Z,by rw [setRow_other w _ _ _ (f5 l' H)];exact d3,d4,d5,fun i G h2=>(d6 i G h2).mono k⟩
  ·by_cases ell:r=id
   ·subst ell
    simp only at hid'
    rw [List.getElem?_set_self K] at hid'
    cases hid'
    refine ⟨f1,f2,b1,b2,f5,f6,f7,c',v,setRow_heap w _ c c' v _ b3,Y.trans b4,by rw [List.length_take];omega,fun u g=>b5 u (List.mem_of_mem_take g),fun i G h2=>?_⟩
    have h3:i<o*sz'/\i<cs.length:=by rw [List.length_take] at h2;omega
    have:=F i h3.1
    rw [Array.getElem?_eq_getElem G,Array.getElem?_eq_getElem (by omega)] at this
    rw [Option.some.inj this,List.getElem_take]
    exact (b6 i (by omega) h3.2).mono k
   ·simp only at hid'
    rw [List.getElem?_set_ne (Ne.symm ell)] at hid'
    have hk:=h.st.row r x hid'
    have y:r<M.NR:=by rw [h.st.NR];exact (Af.1 hid').1
    have af:M.blk r≠M.blk id:=fun q=>ell (h.st.rowinj r id y hid q)
    exact hk.keep k rfl rfl rfl rfl rfl hk.ne (setRow_other w _ _ _ af)
end
end Go.Ev
