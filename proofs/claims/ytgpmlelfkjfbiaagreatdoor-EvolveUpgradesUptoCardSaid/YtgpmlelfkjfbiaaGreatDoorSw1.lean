/-
  Part 1 of the proof: rules and walks that the claim's last text uses.
-/
import Derived.Below
import Derived.Laws.BytesArg
import Derived.Laws.IdiomStrings
import Derived.Laws.MakeOwn
import Derived.Laws.Rows
import Derived.Laws.Runes
import Derived.Laws.Small
import Derived.Laws.StructEq
import Derived.Lib.ConvBytes
import Derived.Lib.Strings
import Derived.Orders
import Derived.RangeFuncNested
import Derived.RangeFuncRecord
import Derived.WalkKit
set_option linter.unusedSimpArgs false
set_option linter.unusedVariables false
set_option maxRecDepth 100000
set_option maxHeartbeats 4000000
namespace Go.Ev
open Go Go.RowKit
inductive Own where
 | none | full | seed | row (id:Nat)
 deriving DecidableEq
inductive AV where
 | val (v:Value)
 | list (xs:List AV) (o:Own)
 | elem (x:AV) (off:Nat)
 | box (l off:Nat)
 | clo (f:FuncId) (caps:List AV)
 | agg (cs:List AV)
 | tup (vs:List AV)
 | yld (k:Nat)
 | vec (id ver o n:Nat)
 | vel (id ver off:Nat)
abbrev AV.junk:AV := .tup []
instance:Inhabited AV:=⟨.junk⟩
def AV.cells:AV→List AV
 | .agg cs=>cs
 | x=>[x]
def AV.one:AV→Bool
 | .agg _ | .tup _=>false
 | _=>true
def Zh8:Value→Bool
 | .bool _ | .int _ _ | .float _ _ | .pointer none | .nilFunc | .nilIface | .map none=>true
 | .string s=>decide (s.size≤maxLen)
 | _=>false
structure LoopA where
 e:List (Nat × Bool × AV)
 n:Nat
 ps:Array Tmp
 asg:Code
 body:Code
 st:LoopState
 pend:Option Code
inductive RowA where
 | grow (n sz:Nat)
 | vec (ver sz:Nat) (cells:List AV)
 | dead (ver:Nat)
structure St where
 boxes:List (List AV)
 rows:List RowA
 loops:List LoopA
structure Mem where
 N:Nat
 NR:Nat
 bx:Nat→Nat
 top:Nat→Nat
 fr:Nat→Nat
 blk:Nat→Nat
 cap:Nat→Nat
 rsz:Nat→Nat
 NL:Nat
 lb:Nat→Nat
def Mem.imm (M:Mem) (w0:World) (b off:Nat):Prop:=b<w0.heap.size∨off<M.top b
def ZAr (M:Mem) (b off cap n sz:Nat):Own→Prop
 | .none=>True
 | .full | .seed=>n=cap
 | .row id=>id<M.NR∧n≤M.fr id∧(n=M.fr id→b=M.blk id∧off=0∧cap=M.cap id∧sz=M.rsz id)
inductive R (w0:World) (M:Mem) (w:World):Value→AV→Prop
 | flat {v:Value} (h:Zh8 v=true):R w0 M w v (.val v)
 | agg {cs:Array Value} {xs:List AV} (hl:cs.size=xs.length) (h1:∀ x∈xs,x.one=true) (h:∀ i (h1:i<cs.size) (h2:i<xs.length),R w0 M w cs[i] xs[i]):R w0 M w (.agg cs) (.agg xs)
 | tup {cs:Array Value} {xs:List AV} (hl:cs.size=xs.length) (h:∀ i (h1:i<cs.size) (h2:i<xs.length),R w0 M w cs[i] xs[i]):R w0 M w (.tuple cs) (.tup xs)
 | nil {o:Own} (ho:∀ id,o ≠ .row id):R w0 M w (.slice none 0 0) (.list [] o)
 | emp {a:Addr} {o:Own} (ho:∀ id,o ≠ .row id):R w0 M w (.slice (some a) 0 0) (.list [] o)
 | list {b off cap:Nat} {xs:List AV} {o:Own} (sz:Nat) (us:Nat→Value) (hc:xs.length≤cap) (hm:cap≤maxLen)
   (hcell:∀ i,i<xs.length→(us i).cells.size=sz∧∀ j,j<sz→M.imm w0 b (off+i*sz+j)∧w.cell? ⟨b,off+i*sz+j,none⟩=(us i).cells[j]?)
   (hu:∀ i (hi:i<xs.length),R w0 M w (us i) xs[i]) (ho:ZAr M b off cap xs.length sz o):R w0 M w (.slice (some ⟨b,off,none⟩) xs.length cap) (.list xs o)
 | elem {b off:Nat} {x:AV} (u:Value) (k:Nat) (hcell:∀ j,j<u.cells.size→M.imm w0 b (off+j)∧w.cell? ⟨b,off+j,none⟩=u.cells[j]?) (hu:R w0 M w u x) :
   R w0 M w (.pointer (some ⟨b,off+k,none⟩)) (.elem x k)
 | box {l off:Nat} (hl:l<M.N):R w0 M w (.pointer (some ⟨M.bx l,off,none⟩)) (.box l off)
 | clo {f:FuncId} {cs:Array Value} {xs:List AV} (hl:cs.size=xs.length) (h:∀ i (h1:i<cs.size) (h2:i<xs.length),R w0 M w cs[i] xs[i]):R w0 M w (.func (.func f) #[] cs) (.clo f xs)
 | yld {k:Nat} (hk:k<M.NL):R w0 M w (.func (.yield (M.lb k)) #[] #[]) (.yld k)
 | vec {id ver o n:Nat} {p:Option Addr} {cap:Nat} (hi:id<M.NR) (hv:ver≤M.fr id) (h:ver=M.fr id→p=some ⟨M.blk id,o*M.rsz id,none⟩∧cap+o=M.cap id∧n≤cap):R w0 M w (.slice p n cap) (.vec id ver o n)
 | vel {id ver off:Nat} {a:Addr} (hi:id<M.NR) (hv:ver≤M.fr id) (h:ver=M.fr id→a=⟨M.blk id,off,none⟩):R w0 M w (.pointer (some a)) (.vel id ver off)
structure Ext (w0:World) (M:Mem) (w:World) (M':Mem) (w':World):Prop where
 N:M.N≤M'.N
 bx:∀ l,l<M.N→M'.bx l=M.bx l
 NR:M.NR≤M'.NR
 rows:∀ id,id<M.NR→M.fr id≤M'.fr id∧(M'.fr id=M.fr id→M'.blk id=M.blk id∧M'.cap id=M.cap id∧M'.rsz id=M.rsz id)
 cell:∀ b off v,M.imm w0 b off→w.cell? ⟨b,off,none⟩=some v→w'.cell? ⟨b,off,none⟩=some v∧M'.imm w0 b off
 size:w.heap.size≤w'.heap.size
 NL:M.NL≤M'.NL
 lb:∀ k,k<M.NL→M'.lb k=M.lb k
 lnew:∀ k,M.NL≤k→k<M'.NL→w.heap.size≤M'.lb k
 objs:∀ b o,w.heap[b]? = some o→o.isCells=false→(∀ k,k<M.NL→M.lb k≠b)→w'.heap[b]? = some o
def KeepsObj (w w':World):Prop:=∀ (b:Nat) (o:Obj),w.heap[b]? = some o→o.isCells=false→w'.heap[b]? = some o
theorem KeepsObj.refl (w:World):KeepsObj w w:=fun _ _ h _=>h
theorem KeepsObj.trans {a b c:World} (h:KeepsObj a b) (k:KeepsObj b c):KeepsObj a c:=fun i o h1 h2=>k i o (h i o h1 h2) h2
theorem KeepsObj.alloc (w:World) (o:Obj):KeepsObj w (w.alloc o):=fun b _ h _=>(Below.heap_alloc w o b (Array.getElem?_eq_some_iff.1 h).1).trans h
theorem Ext.refl (w0:World) (M:Mem) (w:World):Ext w0 M w M w :=
 ⟨Nat.le_refl _,fun _ _=>rfl,Nat.le_refl _,fun _ _=>⟨Nat.le_refl _,fun _=>⟨rfl,rfl,rfl⟩⟩,fun _ _ _ h k=>⟨k,h⟩,Nat.le_refl _,Nat.le_refl _,fun _ _=>rfl,fun _ _ _=>by omega,fun _ _ h _ _=>h⟩
theorem Ext.trans {w0:World} {M1 M2 M3:Mem} {w1 w2 w3:World} (h:Ext w0 M1 w1 M2 w2) (k:Ext w0 M2 w2 M3 w3):Ext w0 M1 w1 M3 w3 where
 N:=Nat.le_trans h.N k.N
 bx:=fun l hl=>(k.bx l (Nat.lt_of_lt_of_le hl h.N)).trans (h.bx l hl)
 NR:=Nat.le_trans h.NR k.NR
 rows:=fun id a=>by
  obtain ⟨a1,a2⟩:=h.rows id a
  obtain ⟨b1,b2⟩:=k.rows id (Nat.lt_of_lt_of_le a h.NR)
  refine ⟨Nat.le_trans a1 b1,fun e=>?_⟩
  have e1:M2.fr id=M1.fr id:=by omega
  have e2:M3.fr id=M2.fr id:=by omega
  obtain ⟨x1,x2,x3⟩:=a2 e1
  obtain ⟨y1,y2,y3⟩:=b2 e2
  exact ⟨y1.trans x1,y2.trans x2,y3.trans x3⟩
 cell:=fun b d v hi hc=>by
  obtain ⟨c1,i1⟩:=h.cell b d v hi hc
  exact k.cell b d v i1 c1
 size:=Nat.le_trans h.size k.size
 NL:=Nat.le_trans h.NL k.NL
 lb:=fun i hi=>(k.lb i (Nat.lt_of_lt_of_le hi h.NL)).trans (h.lb i hi)
 lnew:=fun i h1 h2=>by
  by_cases c:i<M2.NL
  ·
   rw [k.lb i c];exact h.lnew i h1 c
  ·
   exact Nat.le_trans h.size (k.lnew i (by omega) h2)
 objs:=fun b o h1 h2 h3=>k.objs b o (h.objs b o h1 h2 h3) h2 fun i hi=>by
  by_cases c:i<M1.NL
  ·
   rw [h.lb i c];exact h3 i c
  ·
   have:=h.lnew i (by omega) hi
   have:=(Array.getElem?_eq_some_iff.1 h1).1
   omega
theorem Zk0 {u:Value} {j:Nat} (h:j<u.cells.size):∃ v,u.cells[j]? = some v:=⟨_,Array.getElem?_eq_getElem h⟩
theorem R.mono {w0:World} {M M':Mem} {w w':World} (hx:Ext w0 M w M' w') {v:Value} {x:AV} (h:R w0 M w v x):R w0 M' w' v x:=by
 induction h with
 | flat h=>exact .flat h
 | agg hl h1 _ ih=>exact .agg hl h1 ih
 | tup hl _ ih=>exact .tup hl ih
 | nil ho=>exact .nil ho
 | emp ho=>exact .emp ho
 | @list b off cap xs o sz us hc hm hcell _ ho ih =>
  refine .list sz us hc hm (fun i hi=>⟨(hcell i hi).1,fun j hj=>?_⟩) ih ?_
  ·
   obtain ⟨f,d⟩:=(hcell i hi).2 j hj
   obtain ⟨v,hv⟩:=Zk0 (u:=us i) (j:=j) (by rw [(hcell i hi).1];exact hj)
   obtain ⟨k1,k2⟩:=hx.cell _ _ v f (d.trans hv)
   exact ⟨k2,k1.trans hv.symm⟩
  ·
   cases o with
   | none=>trivial
   | full=>exact ho
   | seed=>exact ho
   | row id =>
    obtain ⟨h1,h2,h3⟩:=ho
    obtain ⟨r1,r2⟩:=hx.rows id h1
    refine ⟨Nat.lt_of_lt_of_le h1 hx.NR,Nat.le_trans h2 r1,fun e=>?_⟩
    have e1:M'.fr id=M.fr id:=by omega
    obtain ⟨a,b,c⟩:=r2 e1
    rw [a,b,c]
    exact h3 (by omega)
 | @elem b off x u k hcell _ ih =>
  refine .elem u k (fun j hj=>?_) ih
  obtain ⟨f,d⟩:=hcell j hj
  obtain ⟨v,hv⟩:=Zk0 (u:=u) (j:=j) hj
  obtain ⟨k1,k2⟩:=hx.cell _ _ v f (d.trans hv)
  exact ⟨k2,k1.trans hv.symm⟩
 | box hl=>rw [←hx.bx _ hl];exact .box (Nat.lt_of_lt_of_le hl hx.N)
 | clo hl _ ih=>exact .clo hl ih
 | yld hk=>rw [←hx.lb _ hk];exact .yld (Nat.lt_of_lt_of_le hk hx.NL)
 | @vec id ver o n p cap hi hv h =>
  obtain ⟨r1,r2⟩:=hx.rows id hi
  refine .vec (Nat.lt_of_lt_of_le hi hx.NR) (Nat.le_trans hv r1) (fun e=>?_)
  obtain ⟨q1,q2,q3⟩:=r2 (by omega)
  rw [q1,q2,q3]
  exact h (by omega)
 | @vel id ver off a hi hv h =>
  obtain ⟨r1,r2⟩:=hx.rows id hi
  refine .vel (Nat.lt_of_lt_of_le hi hx.NR) (Nat.le_trans hv r1) (fun e=>?_)
  obtain ⟨q1,q2,q3⟩:=r2 (by omega)
  rw [q1]
  exact h (by omega)
theorem R.cells {w0:World} {M:Mem} {w:World} {v:Value} {x:AV} (h:R w0 M w v x) :
  v.cells.size=x.cells.length∧∀ i (h1:i<v.cells.size) (h2:i<x.cells.length),R w0 M w v.cells[i] x.cells[i]:=by
 have one:∀ (u:Value) (y:AV),u.cells = #[u]→y.cells=[y]→R w0 M w u y →
   u.cells.size=y.cells.length∧∀ i (h1:i<u.cells.size) (h2:i<y.cells.length),R w0 M w u.cells[i] y.cells[i]:=by
  intro u y hu hy hr
  rw [hu,hy]
  refine ⟨rfl,fun i h1 h2=>?_⟩
  have:i=0:=by simp at h2;exact h2
  subst this
  exact hr
 cases h with
 | agg hl _ h=>exact ⟨hl,h⟩
 | flat hf=>exact one _ _ (by cases v<;>first | rfl | simp [Zh8] at hf) rfl (.flat hf)
 | tup hl h=>exact one _ _ rfl rfl (.tup hl h)
 | nil ho=>exact one _ _ rfl rfl (.nil ho)
 | emp ho=>exact one _ _ rfl rfl (.emp ho)
 | list sz us hc hm hcell hu ho=>exact one _ _ rfl rfl (.list sz us hc hm hcell hu ho)
 | elem u k hcell hu=>exact one _ _ rfl rfl (.elem u k hcell hu)
 | box hl=>exact one _ _ rfl rfl (.box hl)
 | clo hl h=>exact one _ _ rfl rfl (.clo hl h)
 | yld hk=>exact one _ _ rfl rfl (.yld hk)
 | vec hi hv h=>exact one _ _ rfl rfl (.vec hi hv h)
 | vel hi hv h=>exact one _ _ rfl rfl (.vel hi hv h)
theorem R.oneCell {w0:World} {M:Mem} {w:World} {v:Value} {x:AV} (h:R w0 M w v x) (hx:x.one=true):v.oneCell'=true:=by
 cases h with
 | agg=>cases hx
 | flat hf=>cases v<;>first | rfl | simp [Zh8] at hf
 | tup=>cases hx
 | _=>rfl
theorem R.cellsOne {w0:World} {M:Mem} {w:World} {v:Value} {x:AV} (h:R w0 M w v x) (ht:∀ vs,x ≠ .tup vs):∀ c∈x.cells,c.one=true:=by
 cases h with
 | agg hl h1 h=>exact h1
 | tup=>exact absurd rfl (ht _)
 | _=>intro c hc;simp only [AV.cells,List.mem_singleton] at hc;subst hc;rfl
theorem R.isAgg {w0:World} {M:Mem} {w:World} {v:Value} {xs:List AV} (h:R w0 M w v (.agg xs)):∃ cs,v = .agg cs:=by
 cases h with
 | agg hl h1 h=>exact ⟨_,rfl⟩
theorem R.cells_one {w0:World} {M:Mem} {w:World} {v:Value} {x:AV} (h:R w0 M w v x) (hx:x.one=true):v.cells = #[v]∧x.cells=[x]:=by
 cases h with
 | agg=>cases hx
 | flat hf=>exact ⟨by cases v<;>first | rfl | simp [Zh8] at hf,rfl⟩
 | tup=>cases hx
 | _=>exact ⟨rfl,rfl⟩
def AV.pubCell:AV→AV
 | .list xs _ => .list xs .none
 | x=>x
def AV.pub:AV→AV
 | .agg cs => .agg (cs.map AV.pubCell)
 | .list xs _ => .list xs .none
 | x=>x
theorem R.pubCell {w0:World} {M:Mem} {w:World} {v:Value} {x:AV} (h:R w0 M w v x):R w0 M w v x.pubCell:=by
 cases h with
 | nil ho=>exact .nil (fun id=>by simp)
 | emp ho=>exact .emp (fun id=>by simp)
 | list sz us hc hm hcell hu ho=>exact .list sz us hc hm hcell hu trivial
 | flat hf=>exact .flat hf
 | agg hl h1 h=>exact .agg hl h1 h
 | tup hl h=>exact .tup hl h
 | elem u k hcell hu=>exact .elem u k hcell hu
 | box hl=>exact .box hl
 | clo hl h=>exact .clo hl h
 | yld hk=>exact .yld hk
 | vec hi hv h=>exact .vec hi hv h
 | vel hi hv h=>exact .vel hi hv h
theorem AV.one_pubCell (x:AV):x.pubCell.one=x.one:=by cases x<;>rfl
theorem R.pub {w0:World} {M:Mem} {w:World} {v:Value} {x:AV} (h:R w0 M w v x):R w0 M w v x.pub:=by
 cases h with
 | nil ho=>exact .nil (fun id=>by simp)
 | emp ho=>exact .emp (fun id=>by simp)
 | list sz us hc hm hcell hu ho=>exact .list sz us hc hm hcell hu trivial
 | flat hf=>exact .flat hf
 | agg hl h1 h=>exact .agg (by simpa using hl) (fun x hx=>by obtain ⟨y,hy,rfl⟩:=List.mem_map.1 hx;rw [AV.one_pubCell];exact h1 y hy) (fun i a b=>by simp only [List.getElem_map];exact (h i a (by simpa using b)).pubCell)
 | tup hl h=>exact .tup hl h
 | elem u k hcell hu=>exact .elem u k hcell hu
 | box hl=>exact .box hl
 | clo hl h=>exact .clo hl h
 | yld hk=>exact .yld hk
 | vec hi hv h=>exact .vec hi hv h
 | vel hi hv h=>exact .vel hi hv h
theorem AV.pub_cells_length (x:AV):x.pub.cells.length=x.cells.length:=by cases x<;>simp [AV.pub,AV.cells]
def tyT (P:Program) (t:TypeId):Option (Nat × Bool) :=
 match P.info? t,P.underlying t with
 | some i,some d=>some (i.size,match d with | .struct _ | .array _ _=>true | _=>false)
 | _,_=>none
def ZiU (P:Program) (t:TypeId) (f:Nat):Option (Nat × Nat × Bool) :=
 match P.underlying t with
 | some (.struct fs)=>match fs[f]? with
  | some x=>(tyT P x.type).map fun (s,a)=>(x.offset,s,a)
  | none=>none
 | _=>none
def elT (P:Program) (t:TypeId):Option (TypeId × Nat × Bool × Nat) :=
 match P.underlying t with
 | some (.slice e)=>match P.info? e,tyT P e with
  | some i,some (s,a)=>some (e,s,a,i.bytes)
  | _,_=>none
 | _=>none
def ZvM (P:Program) (t:TypeId):Option (Nat × Nat × Bool) :=
 match P.underlying t with
 | some (.array n e)=>(tyT P e).map fun (s,a)=>(n,s,a)
 | _=>none
def ZmO (P:Program) (t:TypeId):Bool :=
 match P.underlying t with | some .string=>true | _=>false
def ZoZ (P:Program) (t:TypeId):Bool :=
 match P.underlying t with
 | some (.slice e)=>(match P.underlying e with | some (.int .u8)=>true | _=>false)&&(match tyT P e with | some (1,false)=>true | _=>false)
 | _=>false
def ZrH (P:Program) (t:TypeId):Option IntKind :=
 match P.underlying t with | some (.int k)=>some k | _=>none
def Zk9:Value→AV
 | .slice none 0 0 => .list [] .full
 | v => .val v
def ZiV:Value→AV
 | .agg cs => .agg (cs.toList.map Zk9)
 | v=>Zk9 v
def Znh:Value→Bool
 | .slice none 0 0=>true
 | v=>Zh8 v
def Zlt:Value→Bool
 | .agg cs=>cs.toList.all Znh
 | v=>Znh v
def ZeE (P:Program) (t:TypeId):Option (List AV) :=
 match P.info? t with
 | some i=>match i.zero with
  | some z=>if Zlt z&&z.cells.size == i.size then some (ZiV z).cells else none
  | none=>none
 | none=>none
abbrev Env:=List (Nat × Bool × AV)
def ZfS:Env→Nat→Option (Bool × AV)
 | [],_=>none
 | (k,c,v)::r,s=>if k=s then some (c,v) else ZfS r s
def Zdg:List Nat→Env→Env
 | [],_=>[]
 | s::K,e=>match ZfS e s with
  | some (c,v)=>(s,c,v)::Zdg K e
  | none=>Zdg K e
def Zav (e:Env):Operand→AV
 | .tmp t=>match ZfS e t with | some (_,v)=>v | none => .junk
 | .const v=>ZiV v
 | .func f => .clo f []
 | .global _ => .junk
def ZaT (e:Env) (c:Bool):Operand→Prop
 | .tmp t=>match ZfS e t with | some (c',_)=>(c=true→c'=true) | none=>False
 | .const v=>Zlt v=true
 | .func _=>True
 | .global _=>False
def ZiN:AV→Bool
 | .val (.bool b)=>b
 | _=>false
def isB:AV→Bool
 | .val (.bool _)=>true
 | _=>false
def AV.sel (t:Bool):AV→AV→AV
 | .val (.bool x),.val (.bool y) => .val (.bool (if t then x else y))
 | a,b=>if t then a else b
def Zc9 (l:List AV) (off:Nat) (xs:List AV):List AV:=l.take off++xs++l.drop (off+xs.length)
def nth (l:List AV) (i:Nat):AV:=l.getD i .junk
def Zmv (P:Program):List Field→Option (List (Nat × Nat))
 | []=>some []
 | f::fs=>match P.info? f.type,Zmv P fs with
  | some i,some r=>some ((f.offset,i.size)::r)
  | _,_=>none
def ZeS (P:Program) (t:TypeId):Option (List (Nat × Nat)) :=
 match P.underlying t with
 | some (.struct fs)=>Zmv P fs.toList
 | _=>none
def ZiO (P:Program) (t:TypeId) (i:Nat):Option (Nat × Nat) :=
 match ZeS P t with
 | some l=>l[i]?
 | none=>match ZvM P t with
  | some (_,s,_)=>some (i*s,s)
  | none=>none
def Zpj (P:Program) (t:TypeId):List AV→List (Nat × AV)→List AV
 | cs,[]=>cs
 | cs,(i,x)::r=>match ZiO P t i with
  | some (o,_)=>Zpj P t (Zc9 cs o x.cells) r
  | none=>cs
def Zmh (P:Program) (t:TypeId):Nat→List (Nat × AV)→Prop
 | _,[]=>True
 | n,(i,x)::r=>(match ZiO P t i with
  | some (o,s)=>x.cells.length=s∧o+s≤n
  | none=>False)∧Zmh P t n r
def ZbS:AV→Bool
 | .tup _=>false
 | _=>true
def Zf2:AV→Bool
 | .agg _=>true
 | _=>false
def inK:IntKind→Int→Prop
 | .i8,n => -128≤n∧n≤127
 | .i16,n => -32768≤n∧n≤32767
 | .i32,n => -2147483648≤n∧n≤2147483647
 | .i64,n => -9223372036854775808≤n∧n≤9223372036854775807
 | .u8,n=>0≤n∧n≤255
 | .u16,n=>0≤n∧n≤65535
 | .u32,n=>0≤n∧n≤4294967295
 | .u64,n=>0≤n∧n≤18446744073709551615
def sEq (x y:ByteArray):Bool:=x.data.toList == y.data.toList
def sLt (x y:ByteArray):Bool:=Op.bytesLess x.data.toList y.data.toList
def evBin:BinOp→Value→Value→Prop × Value
 | .add,.int k a,.int k' b=>(k=k'∧inK k (a+b),.int k (a+b))
 | .sub,.int k a,.int k' b=>(k=k'∧inK k (a-b),.int k (a-b))
 | .mul,.int k a,.int k' b=>(k=k'∧inK k (a*b),.int k (a*b))
 | .quo,.int k a,.int k' b=>(k=k'∧b≠0∧inK k (a.tdiv b),.int k (a.tdiv b))
 | .rem,.int k a,.int k' b=>(k=k'∧b≠0,.int k (a.tmod b))
 | .eql,.int k a,.int k' b=>(k=k',.bool (decide (a=b)))
 | .neq,.int k a,.int k' b=>(k=k',.bool (!decide (a=b)))
 | .lss,.int k a,.int k' b=>(k=k',.bool (decide (a<b)))
 | .leq,.int k a,.int k' b=>(k=k',.bool (decide (a≤b)))
 | .gtr,.int k a,.int k' b=>(k=k',.bool (decide (b<a)))
 | .geq,.int k a,.int k' b=>(k=k',.bool (decide (b≤a)))
 | .add,.string x,.string y=>(x.size+y.size≤9223372036854775807,.string (x++y))
 | .eql,.string x,.string y=>(True,.bool (sEq x y))
 | .neq,.string x,.string y=>(True,.bool (!sEq x y))
 | .lss,.string x,.string y=>(True,.bool (sLt x y))
 | .leq,.string x,.string y=>(True,.bool (sLt x y||sEq x y))
 | .gtr,.string x,.string y=>(True,.bool (!(sLt x y||sEq x y)))
 | .geq,.string x,.string y=>(True,.bool (!sLt x y))
 | .shr,.int k a,.int _ b=>(b=1∧0≤a,.int k (a / 2))
 | _,_,_=>(False,undef)
def evBB:BinOp→Bool→Bool→Prop × Bool
 | .eql,a,b=>(True,a == b)
 | .neq,a,b=>(True,a != b)
 | _,_,_=>(False,false)
def Zmq (P:Program) (t:TypeId):Bool :=
 match P.underlying t with | some .bool=>true | _=>false
def Zij (P:Program) (t:TypeId):AV→AV→Prop
 | .val (.int k _),.val (.int k' _)=>(ZrH P t).isSome=true∧k=k'
 | .val (.string _),.val (.string _)=>ZmO P t=true
 | .val (.bool _),.val (.bool _)=>Zmq P t=true
 | _,_=>False
def eqCell:AV→AV→Bool
 | .val (.int _ a),.val (.int _ b)=>decide (a=b)
 | .val (.string a),.val (.string b)=>sEq a b
 | .val (.bool a),.val (.bool b)=>a == b
 | _,_=>false
def ZpQ:List AV→List AV→Bool
 | [],[]=>true
 | x::xs,y::ys=>eqCell x y&&ZpQ xs ys
 | _,_=>false
def Zx6 (P:Program):List Field→Nat→List AV→List AV→Prop
 | [],_,[],[]=>True
 | f::fs,i,x::xs,y::ys=>f.name ≠ "_" ∧ f.offset=i∧tyT P f.type=some (1,false)∧Zij P f.type x y∧Zx6 P fs (i+1) xs ys
 | _,_,_,_=>False
def eqT (P:Program) (t:TypeId):Option (List Field) :=
 match P.underlying t with
 | some (.struct fs)=>if P.stoodInHeld t=false∧P.eqGuardType P.depth t=false then some fs.toList else none
 | _=>none
def Zrj (P:Program) (op:BinOp) (t:TypeId) (xs ys:List AV):Prop × Bool :=
 match eqT P t,op with
 | some fs,.eql=>(Zx6 P fs 0 xs ys,ZpQ xs ys)
 | some fs,.neq=>(Zx6 P fs 0 xs ys,!ZpQ xs ys)
 | _,_=>(False,false)
def ZjE:AV→List AV
 | .agg xs=>xs
 | _=>[]
def evUn:UnOp→Value→Prop × Value
 | .not,.bool b=>(True,.bool (!b))
 | .neg,.int k a=>(inK k (0-a),.int k (0-a))
 | _,_=>(False,undef)
def ZgY:AV→Value
 | .val v=>v
 | _=>undef
def Zfm:AV→Bool
 | .val _=>true
 | _=>false
def ZaF:AV→Int
 | .val (.int _ n)=>n
 | _=>0
def ZiH:AV→IntKind
 | .val (.int k _)=>k
 | _ => .i64
def ZeK:AV→Bool
 | .val (.int _ _)=>true
 | _=>false
def ZaN:AV→List AV
 | .list xs _=>xs
 | _=>[]
def Zb5:AV→Bool
 | .list _ _=>true
 | _=>false
def Zmp:AV→Bool
 | .val (.string _)=>true
 | _=>false
def ZAn:AV→ByteArray
 | .val (.string s)=>s
 | _ => .empty
def Zsx:AV→Prop
 | .val (.int .u8 n)=>0≤n∧n≤255
 | _=>False
def Zfu (xs:List AV):ByteArray:=⟨(xs.map fun x=>UInt8.ofNat (ZaF x).toNat).toArray⟩
def Zfn (l:List UInt8):List AV:=l.map fun b => .val (.int .u8 b.toNat)
def Zj0 (rows:List RowA) (id ver:Nat):Option (Nat × List AV) :=
 match rows[id]? with
 | some (.vec v sz cs)=>if v=ver then some (sz,cs) else none
 | _=>none
def Za7 (st:St):AV→List AV
 | .box l _=>st.boxes.getD l []
 | .elem x _=>x.cells
 | .vel id ver _=>match Zj0 st.rows id ver with | some (_,cs)=>cs | none=>[]
 | _=>[]
def Zfb:AV→Nat
 | .box _ o=>o
 | .elem _ o=>o
 | .vel _ _ o=>o
 | _=>0
def Zds (st:St):AV→Bool
 | .box l _=>decide (l<st.boxes.length)
 | .elem (.tup _) _=>false
 | .elem _ _=>true
 | .vel id ver _=>(Zj0 st.rows id ver).isSome
 | _=>false
def Zor (x:AV) (n:Nat):AV :=
 match x with
 | .box l o => .box l (o+n)
 | .elem y o => .elem y (o+n)
 | .vel id ver o => .vel id ver (o+n)
 | x=>x
def Zn1 (agg:Bool) (cs:List AV) (off sz:Nat):AV:=if agg then .agg ((cs.drop off).take sz) else nth cs off
def Zqf (st:St) (a:AV) (xs:List AV):St :=
 match a with
 | .box l o=>{ st with boxes:=st.boxes.set l (Zc9 (st.boxes.getD l []) o xs) }
 | .vel id ver o=>match Zj0 st.rows id ver with
  | some (sz,cs)=>{ st with rows:=st.rows.set id (.vec ver sz (Zc9 cs o xs)) }
  | none=>st
 | _=>st
def ZmH:AV→Bool
 | .box _ _=>true
 | .vel _ _ _=>true
 | _=>false
def ZqF (P:Program) (t:TypeId) (x:AV):Prop × AV :=
 match x with
 | .val (.string s)=>(ZmO P t=true,.val (.int .i64 s.size))
 | .list xs _=>((elT P t).isSome=true,.val (.int .i64 xs.length))
 | .vec _ _ _ n=>((elT P t).isSome=true,.val (.int .i64 n))
 | _=>(False,.junk)
def Zb8 (P:Program) (el sz by8:Nat) (n:Nat) (xs:List AV):Prop :=
 0<sz∧(ZeE P el).isSome=true∧(n+xs.length)*by8≤140737488355328∧n+xs.length≤4611686018427387904∧(∀ y∈xs,y.cells.length=sz∧ZbS y=true)
def Zbh (P:Program) (st:St) (t:TypeId) (s x:AV):Prop × AV × St :=
 match elT P t with
 | some (el,sz,_,by8) =>
  match s with
  | .list ys .full=>if (ZaN x).length=0 then (Zb5 x=true∧0<sz,.list ys .full,st)
   else (Zb5 x=true∧Zb8 P el sz by8 ys.length (ZaN x)∧(∀ y∈ys,y.cells.length=sz),.list (ys++(ZaN x).map AV.pub) (.row st.rows.length),{ st with rows:=st.rows++[.grow (ys.length+(ZaN x).length) sz] })
  | .list ys (.row id)=>(Zb5 x=true∧Zb8 P el sz by8 ys.length (ZaN x)∧(∀ y∈ys,y.cells.length=sz)∧st.rows[id]? = some (.grow ys.length sz),.list (ys++(ZaN x).map AV.pub) (.row id),{ st with rows:=st.rows.set id (.grow (ys.length+(ZaN x).length) sz) })
  | .list ys .seed=>(Zb5 x=true∧Zb8 P el sz by8 0 (ZaN x)∧ys.length=0∧0<(ZaN x).length,.vec st.rows.length 0 0 (ZaN x).length,{ st with rows:=st.rows++[.vec 0 sz ((ZaN x).flatMap fun y=>y.pub.cells)] })
  | .vec id ver o n=>match Zj0 st.rows id ver with
   | some (sz',cs)=>(Zb5 x=true∧Zb8 P el sz by8 n (ZaN x)∧sz'=sz∧o=0∧n*sz≤cs.length,.vec id (ver+1) 0 (n+(ZaN x).length),{ st with rows:=st.rows.set id (.vec (ver+1) sz (cs.take (n*sz)++(ZaN x).flatMap fun y=>y.pub.cells)) })
   | none=>(False,.junk,st)
  | _=>(False,.junk,st)
 | none=>(False,.junk,st)
def Zdn (e:Env) (d:Int):Option Operand→Int
 | some y=>ZaF (Zav e y)
 | none=>d
def Zmk (e:Env) (c:Bool):Option Operand→Prop
 | some y=>ZaT e c y∧ZeK (Zav e y)=true
 | none=>True
def ZrL (st:St) (x:Prop × AV × St):Prop × AV × St:=(x.1,x.2.1,st)
def Zhx (e:Env) (t:TypeId):Bool :=
 match ZfS e (1000000+t) with
 | some _=>true
 | none=>false
def Zcl (P:Program) (e:Env) (c:Bool) (st:St):Op→Prop × AV × St
 | .move x | .assign x=>(ZaT e c x,Zav e x,st)
 | .pick b x y=>(ZaT e c b∧isB (Zav e b)=true∧(c=true→ZiN (Zav e b)=true→ZaT e true x)∧(c=true→ZiN (Zav e b)=false→ZaT e true y),AV.sel (ZiN (Zav e b)) (Zav e x) (Zav e y),st)
 | .alloc t=>match ZeE P t with
  | some z=>(c=true,.box st.boxes.length 0,{ st with boxes:=st.boxes++[z] })
  | none=>(False,.junk,st)
 | .box _ x=>(c=true∧ZaT e c x∧ZbS (Zav e x)=true,.box st.boxes.length 0,{ st with boxes:=st.boxes++[(Zav e x).cells] })
 | .build t ps=>match ZeE P t with
  | some z=>(((ZeS P t).isSome=true∨(ZvM P t).isSome=true)∧(∀ p∈ps.toList,ZaT e c p.2∧ZbS (Zav e p.2)=true)∧Zmh P t z.length (ps.toList.map fun p=>(p.1,Zav e p.2)),.agg (Zpj P t z (ps.toList.map fun p=>(p.1,Zav e p.2))),st)
  | none=>(False,.junk,st)
 | .buildSlice t n ps =>
  let vs:=ps.toList.map fun p=>Zav e p.2
  match elT P t with
  | some (el,sz,_,_)=>match Zhx e t with
   | false=>((∀ p∈ps.toList,ZaT e c p.2)∧ps.toList.map (·.1)=List.range n∧n*sz≤16777216∧0<sz∧(ZeE P el).isSome=true∧(∀ x∈vs,x.cells.length=sz),.list (vs.map AV.pub) .full,st)
   | true=>(c=true∧(∀ p∈ps.toList,ZaT e c p.2)∧ps.toList.map (·.1)=List.range n∧n*sz≤16777216∧0<sz∧(ZeE P el).isSome=true∧(∀ x∈vs,x.cells.length=sz)∧(∀ x∈vs,ZbS x=true),.vec st.rows.length 0 0 n,{ st with rows:=st.rows++[.vec 0 sz (vs.flatMap fun x=>x.pub.cells)] })
  | none=>(False,.junk,st)
 | .load t a=>match tyT P t with
  | some (sz,ag)=>(ZaT e c a∧Zds st (Zav e a)=true∧Zfb (Zav e a)+sz≤(Za7 st (Zav e a)).length∧(ag=true∨sz=1),Zn1 ag (Za7 st (Zav e a)) (Zfb (Zav e a)) sz,st)
  | none=>(False,.junk,st)
 | .store t a v=>match tyT P t with
  | some (sz,_)=>(c=true∧ZaT e c a∧ZaT e c v∧ZmH (Zav e a)=true∧Zds st (Zav e a)=true∧ZbS (Zav e v)=true∧(Zav e v).cells.length=sz∧Zfb (Zav e a)+sz≤(Za7 st (Zav e a)).length,.junk,Zqf st (Zav e a) (Zav e v).cells)
  | none=>(False,.junk,st)
 | .nilCheck x=>(ZaT e c x∧Zds st (Zav e x)=true,Zav e x,st)
 | .binOp op t x y _=>if isB (Zav e x)&&isB (Zav e y) then (ZaT e c x∧ZaT e c y∧Zmq P t=true∧(evBB op (ZiN (Zav e x)) (ZiN (Zav e y))).1,.val (.bool (evBB op (ZiN (Zav e x)) (ZiN (Zav e y))).2),st)
  else if Zf2 (Zav e x)&&Zf2 (Zav e y) then (ZaT e c x∧ZaT e c y∧(Zrj P op t (ZjE (Zav e x)) (ZjE (Zav e y))).1,.val (.bool (Zrj P op t (ZjE (Zav e x)) (ZjE (Zav e y))).2),st)
  else (ZaT e c x∧ZaT e c y∧Zfm (Zav e x)=true∧Zfm (Zav e y)=true∧(evBin op (ZgY (Zav e x)) (ZgY (Zav e y))).1,.val (evBin op (ZgY (Zav e x)) (ZgY (Zav e y))).2,st)
 | .unOp op _ x=>(ZaT e c x∧Zfm (Zav e x)=true∧(evUn op (ZgY (Zav e x))).1,.val (evUn op (ZgY (Zav e x))).2,st)
 | .convert s d x=>match ZrH P s,ZrH P d with
  | some _,some k=>(ZaT e c x∧ZeK (Zav e x)=true∧inK k (ZaF (Zav e x)),.val (.int k (ZaF (Zav e x))),st)
  | some _,none=>(ZaT e c x∧ZeK (Zav e x)=true∧ZmO P d=true,.val (.string (Utf8.encode (ZaF (Zav e x)))),st)
  | none,_=>if ZmO P s&&ZmO P d then (ZaT e c x∧Zmp (Zav e x)=true,Zav e x,st)
   else if ZoZ P s&&ZmO P d then match Zav e x with
    | .vec id ver o n=>match Zj0 st.rows id ver with
     | some (sz',cs)=>(ZaT e c x∧sz'=1∧o+n≤cs.length∧n≤9223372036854775807∧(∀ y∈(cs.drop o).take n,Zsx y),.val (.string (Zfu ((cs.drop o).take n))),st)
     | none=>(False,.junk,st)
    | _=>(ZaT e c x∧Zb5 (Zav e x)=true∧(ZaN (Zav e x)).length≤9223372036854775807∧(∀ y∈ZaN (Zav e x),Zsx y),.val (.string (Zfu (ZaN (Zav e x)))),st)
   else if ZmO P s&&ZoZ P d then (c=true∧ZaT e c x∧Zmp (Zav e x)=true,.list (Zfn (ZAn (Zav e x)).data.toList) .none,st)
   else (False,.junk,st)
 | .makeFunc (.func f) fi cap=>(fi.size=0∧(∀ x∈cap.toList,ZaT e c x),.clo f (cap.toList.map (Zav e)),st)
 | .makeSlice t len cap=>match elT P t with
  | some (el,sz,_,by8)=>match ZeE P el with
   | some z=>(c=true∧ZaT e c len∧ZaT e c cap∧ZeK (Zav e len)=true∧ZeK (Zav e cap)=true∧0≤ZaF (Zav e len)∧ZaF (Zav e len)≤ZaF (Zav e cap)∧ZaF (Zav e cap)*by8≤140737488355328∧ZaF (Zav e cap)≤4611686018427387904∧0<sz∧z.length=sz∧(ZaF (Zav e len)=0∨Zhx e t=true∨sz=1),
     if ZaF (Zav e len)=0 then .list [] (.row st.rows.length) else if Zhx e t=true then .vec st.rows.length 0 0 (ZaF (Zav e len)).toNat else .list (List.replicate (ZaF (Zav e len)).toNat (nth z 0)) .none,
     if ZaF (Zav e len)=0 then { st with rows:=st.rows++[.grow 0 sz] } else if Zhx e t=true then { st with rows:=st.rows++[.vec 0 sz ((List.replicate (ZaF (Zav e len)).toNat z).flatten)] } else st)
   | none=>(False,.junk,st)
  | none=>(False,.junk,st)
 | .slice t x lo hi mx=>match Zav e x with
  | .vec id ver o n=>match elT P t,Zj0 st.rows id ver with
   | some (_,sz,_,_),some (sz',_)=>(ZaT e c x∧Zmk e c lo∧Zmk e c hi∧mx.isNone=true∧0≤Zdn e 0 lo∧Zdn e 0 lo≤Zdn e n hi∧Zdn e n hi≤n∧(Zdn e 0 lo=0∨Zdn e 0 lo<n)∧sz'=sz,.vec id ver (o+(Zdn e 0 lo).toNat) ((Zdn e n hi).toNat-(Zdn e 0 lo).toNat),st)
   | _,_=>(False,.junk,st)
  | .val (.string s) =>
   (ZmO P t=true∧ZaT e c x∧Zmk e c lo∧Zmk e c hi∧mx.isNone=true∧0≤Zdn e 0 lo∧Zdn e 0 lo≤Zdn e s.size hi∧Zdn e s.size hi≤s.size,.val (.string (s.extract (Zdn e 0 lo).toNat (Zdn e s.size hi).toNat)),st)
  | .list xs _=>match elT P t with
   | some (_,sz,_,_)=>match mx with
    | none=>(ZaT e c x∧Zmk e c lo∧Zmk e c hi∧0≤Zdn e 0 lo∧Zdn e 0 lo≤Zdn e xs.length hi∧Zdn e xs.length hi≤xs.length∧(Zdn e 0 lo=0∨∀ y∈xs,y.cells.length=sz),.list ((xs.take (Zdn e xs.length hi).toNat).drop (Zdn e 0 lo).toNat) .none,st)
    | some m=>(ZaT e c x∧Zmk e c lo∧Zmk e c hi∧Zmk e c (some m)∧Zdn e 0 lo=0∧Zdn e 1 hi=0∧Zdn e 1 (some m)=0,.list [] .full,st)
   | none=>(False,.junk,st)
  | _=>(False,.junk,st)
 | .fieldAddr t x f=>match ZiU P t f with
  | some (o,sz,_)=>(ZaT e c x∧Zds st (Zav e x)=true∧0<sz,Zor (Zav e x) o,st)
  | none=>(False,.junk,st)
 | .field t x f=>match ZiU P t f with
  | some (o,sz,ag)=>(ZaT e c x∧Zf2 (Zav e x)=true∧o+sz≤(Zav e x).cells.length∧(ag=true∨sz=1),Zn1 ag (Zav e x).cells o sz,st)
  | none=>(False,.junk,st)
 | .indexAddr t x i=>ZrL st <| match elT P t with
  | some (_,sz,_,_)=>match Zav e x with
   | .vec id ver o n=>match Zj0 st.rows id ver with
    | some (sz',_)=>(ZaT e c x∧ZaT e c i∧ZeK (Zav e i)=true∧0≤ZaF (Zav e i)∧ZaF (Zav e i)<n∧sz'=sz,.vel id ver ((o+(ZaF (Zav e i)).toNat)*sz),st)
    | none=>(False,.junk,st)
   | _=>(ZaT e c x∧ZaT e c i∧Zb5 (Zav e x)=true∧ZeK (Zav e i)=true∧0≤ZaF (Zav e i)∧ZaF (Zav e i)<(ZaN (Zav e x)).length∧(nth (ZaN (Zav e x)) (ZaF (Zav e i)).toNat).cells.length=sz,.elem (nth (ZaN (Zav e x)) (ZaF (Zav e i)).toNat) 0,st)
  | none=>match ZvM P t with
   | some (n,sz,_)=>(ZaT e c x∧ZaT e c i∧Zds st (Zav e x)=true∧ZeK (Zav e i)=true∧0≤ZaF (Zav e i)∧ZaF (Zav e i)<n,Zor (Zav e x) ((ZaF (Zav e i)).toNat*sz),st)
   | none=>(False,.junk,st)
 | .index t x i=>ZrL st <| match Zav e x with
  | .val (.string s)=>(ZmO P t=true∧ZaT e c x∧ZaT e c i∧ZeK (Zav e i)=true∧0≤ZaF (Zav e i)∧ZaF (Zav e i)<s.size,.val (.int .u8 (s.get! (ZaF (Zav e i)).toNat).toNat),st)
  | .agg cs=>match ZvM P t with
   | some (n,sz,ag)=>(ZaT e c x∧ZaT e c i∧ZeK (Zav e i)=true∧0≤ZaF (Zav e i)∧ZaF (Zav e i)<n∧cs.length=n*sz∧(ag=true∨sz=1),Zn1 ag cs ((ZaF (Zav e i)).toNat*sz) sz,st)
   | none=>(False,.junk,st)
  | _=>(False,.junk,st)
 | .extract x i=>ZrL st <| match Zav e x with
  | .tup vs=>(ZaT e c x∧i<vs.length,nth vs i,st)
  | _=>(False,.junk,st)
 | .call ⟨.builtin .len,args,ts⟩=>match args.toList,ts.toList with
  | [x],[t]=>(ZaT e c x∧(ZqF P t (Zav e x)).1,(ZqF P t (Zav e x)).2,st)
  | _,_=>(False,.junk,st)
 | .call ⟨.builtin .append,args,ts⟩=>match args.toList,ts.toList with
  | [s,x],[t,t']=>(c=true∧ZaT e c s∧ZaT e c x∧t=t'∧(Zbh P st t (Zav e s) (Zav e x)).1,(Zbh P st t (Zav e s) (Zav e x)).2)
  | _,_=>(False,.junk,st)
 | .call ⟨.builtin .min,args,_⟩=>match args.toList with
  | [x,y]=>(ZaT e c x∧ZaT e c y∧ZeK (Zav e x)=true∧ZeK (Zav e y)=true∧True,.val (.int (ZiH (Zav e x)) (if ZaF (Zav e y)<ZaF (Zav e x) then ZaF (Zav e y) else ZaF (Zav e x))),st)
  | _=>(False,.junk,st)
 | .call ⟨.builtin .max,args,_⟩=>match args.toList with
  | [x,y]=>(ZaT e c x∧ZaT e c y∧ZeK (Zav e x)=true∧ZeK (Zav e y)=true,.val (.int (ZiH (Zav e x)) (if ZaF (Zav e x)<ZaF (Zav e y) then ZaF (Zav e y) else ZaF (Zav e x))),st)
  | _=>(False,.junk,st)
 | _=>(False,.junk,st)
def entryOk (w0:World) (M:Mem) (w:World) (v:Value) (x:Bool × AV):Prop:=if x.1=true then R w0 M w v x.2 else v=undef
structure LoopSt (w0:World) (M:Mem) (w:World) (ls:List LoopA):Prop where
 NL:M.NL=ls.length
 inj:∀ k k',k<M.NL→k'<M.NL→M.lb k=M.lb k'→k=k'
 record:∀ k la,ls[k]? = some la→w0.heap.size≤M.lb k∧∃ r:Loop,w.heap[M.lb k]? = some (.loop r)∧r.state=la.st∧r.pending=la.pend∧r.params=la.ps∧r.assign=la.asg∧r.body=la.body ∧
  r.tmps.size=la.n∧∀ s x,ZfS la.e s=some x→entryOk w0 M w (r.tmps.getD s undef) x
theorem entryOk.mono {w0:World} {M M':Mem} {w w':World} (hx:Ext w0 M w M' w') {v:Value} {x:Bool × AV} (h:entryOk w0 M w v x):entryOk w0 M' w' v x:=by
 unfold entryOk at *
 split
 ·
  rename_i c;rw [if_pos c] at h;exact h.mono hx
 ·
  rename_i c;rw [if_neg c] at h;exact h
theorem LoopSt.mono {w0:World} {M M':Mem} {w w':World} {ls:List LoopA} (h:LoopSt w0 M w ls) (hx:Ext w0 M w M' w') (hN:M'.NL=M.NL) (hk:KeepsObj w w'):LoopSt w0 M' w' ls where
 NL:=hN.trans h.NL
 inj:=fun k k' h1 h2 e=>h.inj k k' (hN▸h1) (hN▸h2) (by rw [hx.lb k (hN▸h1),hx.lb k' (hN▸h2)] at e;exact e)
 record:=fun k la a=>by
  have b:k<M.NL:=by rw [h.NL];exact (List.getElem?_eq_some_iff.1 a).1
  obtain ⟨a1,r,a2,a3,a4,a5,a6,a7,a8,a9⟩:=h.record k la a
  rw [hx.lb k b]
  exact ⟨a1,r,hk _ _ a2 rfl,a3,a4,a5,a6,a7,a8,fun s x hs=>(a9 s x hs).mono hx⟩
def RowOk (w0:World) (M:Mem) (w:World) (id:Nat):RowA→Prop
 | .grow n sz=>M.fr id=n∧M.rsz id=sz∧w0.heap.size≤M.blk id∧M.top (M.blk id)=n*sz∧(∀ l,l<M.N→M.bx l≠M.blk id)∧M.cap id≤maxLen∧n≤M.cap id ∧
  ∃ c ty,w.heap[M.blk id]? = some (.cells c ty (0,0))∧c.size=M.cap id*sz
 | .vec ver sz cs=>M.fr id=ver∧M.rsz id=sz∧w0.heap.size≤M.blk id∧M.top (M.blk id)=0∧(∀ l,l<M.N→M.bx l≠M.blk id)∧M.cap id≤maxLen∧0<sz ∧
  ∃ c ty,w.heap[M.blk id]? = some (.cells c ty (0,0))∧c.size=M.cap id*sz∧cs.length≤c.size∧(∀ x∈cs,x.one=true)∧∀ i (h1:i<c.size) (h2:i<cs.length),R w0 M w c[i] cs[i]
 | .dead ver=>M.fr id=ver∧w0.heap.size≤M.blk id∧(∀ l,l<M.N→M.bx l≠M.blk id)∧M.blk id<w.heap.size
theorem RowOk.base {w0:World} {M:Mem} {w:World} {id:Nat} {x:RowA} (h:RowOk w0 M w id x):w0.heap.size≤M.blk id:=by
 cases x with
 | grow n sz=>exact h.2.2.1
 | vec v sz cs=>exact h.2.2.1
 | dead v=>exact h.2.1
theorem RowOk.ne {w0:World} {M:Mem} {w:World} {id:Nat} {x:RowA} (h:RowOk w0 M w id x):∀ l,l<M.N→M.bx l≠M.blk id:=by
 cases x with
 | grow n sz=>exact h.2.2.2.2.1
 | vec v sz cs=>exact h.2.2.2.2.1
 | dead v=>exact h.2.2.1
theorem RowOk.lt {w0:World} {M:Mem} {w:World} {id:Nat} {x:RowA} (h:RowOk w0 M w id x):M.blk id<w.heap.size:=by
 cases x with
 | grow n sz=>obtain ⟨_,_,_,_,_,_,_,c,ty,hc,_⟩:=h;exact (Array.getElem?_eq_some_iff.1 hc).1
 | vec v sz cs=>obtain ⟨_,_,_,_,_,_,_,c,ty,hc,_⟩:=h;exact (Array.getElem?_eq_some_iff.1 hc).1
 | dead v=>exact h.2.2.2
theorem RowOk.keep {w0:World} {M M':Mem} {w w':World} {id:Nat} {x:RowA} (h:RowOk w0 M w id x) (hx:Ext w0 M w M' w') (e1:M'.fr id=M.fr id) (e2:M'.rsz id=M.rsz id) (e3:M'.blk id=M.blk id) (e4:M'.cap id=M.cap id)
  (e5:M'.top (M.blk id)=M.top (M.blk id)) (e6:∀ l,l<M'.N→M'.bx l≠M.blk id) (e7:w'.heap[M.blk id]? = w.heap[M.blk id]?):RowOk w0 M' w' id x:=by
 cases x with
 | grow n sz =>
  obtain ⟨a1,a2,a3,a4,a5,a6,a7,c,ty,a8,a9⟩:=h
  simp only [RowOk,e1,e2,e3,e4,e5,e7]
  exact ⟨a1,a2,a3,a4,e6,a6,a7,c,ty,a8,a9⟩
 | vec v sz cs =>
  obtain ⟨a1,a2,a3,a4,a5,a6,a7,c,ty,a8,a9,b1,b2,b3⟩:=h
  simp only [RowOk,e1,e2,e3,e4,e5,e7]
  exact ⟨a1,a2,a3,a4,e6,a6,a7,c,ty,a8,a9,b1,b2,fun i h1 h2=>(b3 i h1 h2).mono hx⟩
 | dead v =>
  obtain ⟨a1,a2,a3,a4⟩:=h
  simp only [RowOk,e1,e3]
  exact ⟨a1,a2,e6,Nat.lt_of_lt_of_le a4 hx.size⟩
structure RelSt (w0:World) (M:Mem) (st:St) (w:World):Prop where
 below:Below w0.heap.size w0 w
 N:M.N=st.boxes.length
 NR:M.NR=st.rows.length
 top:∀ b,w.heap.size≤b→M.top b=0
 inj:∀ l l',l<M.N→l'<M.N→M.bx l=M.bx l'→l=l'
 box:∀ l cs,st.boxes[l]? = some cs→w0.heap.size≤M.bx l∧M.top (M.bx l)=0∧∃ c ty,w.heap[M.bx l]? = some (.cells c ty (0,0))∧c.size=cs.length∧(∀ x∈cs,x.one=true) ∧
  ∀ i (h1:i<c.size) (h2:i<cs.length),R w0 M w c[i] cs[i]
 row:∀ id x,st.rows[id]? = some x→RowOk w0 M w id x
 rowinj:∀ i j,i<M.NR→j<M.NR→M.blk i=M.blk j→i=j
 loop:LoopSt w0 M w st.loops
structure Rel (w0:World) (n:Nat) (M:Mem) (e:Env) (st:St) (a:Act) (w:World):Prop where
 st:RelSt w0 M st w
 size:a.tmps.size=n
 env:∀ s x,ZfS e s=some x→entryOk w0 M w (a.tmps.getD s undef) x
section
variable {P:Program} {w0:World} {n:Nat} {M:Mem} {e:Env} {st:St} {a:Act} {w:World}
theorem ZjG {t:TypeId} {s:Nat} {b:Bool} (h:tyT P t=some (s,b)):∃ i d,P.info? t=some i∧i.size=s∧P.underlying t=some d∧(match d with | .struct _ | .array _ _=>true | _=>false)=b:=by
 unfold tyT at h
 split at h
 ·
  rename_i i d h1 h2
  simp only [Option.some.injEq,Prod.mk.injEq] at h
  exact ⟨i,d,h1,h.1,h2,h.2⟩
 ·
  cases h
theorem Zbk {t:TypeId} {s:Nat} {b:Bool} (h:tyT P t=some (s,b)) (w:World):(sizeOf t).run P w = .ok s w:=by
 obtain ⟨i,d,h1,h2,_,_⟩:=ZjG h
 simp [sizeOf,typeInfo,h1,h2]
theorem Zob {t:TypeId} {s:Nat} {b:Bool} (h:tyT P t=some (s,b)) (w:World):(isAgg t).run P w = .ok b w:=by
 obtain ⟨i,d,_,_,h3,h4⟩:=ZjG h
 unfold isAgg
 rw [Sem.run_bind,run_underlying h3 w]
 subst h4
 cases d<;>rfl
theorem Zrr {t:TypeId} {f o s:Nat} {b:Bool} (h:ZiU P t f=some (o,s,b)):∃ fs x,P.underlying t=some (.struct fs)∧fs[f]? = some x∧x.offset=o∧tyT P x.type=some (s,b):=by
 unfold ZiU at h
 split at h
 ·
  rename_i fs h1
  split at h
  ·
   rename_i x h2
   obtain ⟨⟨s',b'⟩,h3,h4⟩:=Option.map_eq_some_iff.1 h
   simp only [Prod.mk.injEq] at h4
   obtain ⟨rfl,rfl,rfl⟩:=h4
   exact ⟨fs,x,h1,h2,rfl,h3⟩
  ·
   cases h
 ·
  cases h
theorem Zfk {t el:TypeId} {s by8:Nat} {b:Bool} (h:elT P t=some (el,s,b,by8)):∃ i,P.underlying t=some (.slice el)∧P.info? el=some i∧i.bytes=by8∧tyT P el=some (s,b):=by
 unfold elT at h
 split at h
 ·
  rename_i e' h1
  split at h
  ·
   rename_i i s' b' h2 h3
   simp only [Option.some.injEq,Prod.mk.injEq] at h
   obtain ⟨rfl,rfl,rfl,rfl⟩:=h
   exact ⟨i,h1,h2,rfl,h3⟩
  ·
   cases h
 ·
  cases h
theorem Zm3 {t:TypeId} {m s:Nat} {b:Bool} (h:ZvM P t=some (m,s,b)):∃ el,P.underlying t=some (.array m el)∧tyT P el=some (s,b):=by
 unfold ZvM at h
 split at h
 ·
  rename_i m' el h1
  obtain ⟨⟨s',b'⟩,h3,h4⟩:=Option.map_eq_some_iff.1 h
  simp only [Prod.mk.injEq] at h4
  obtain ⟨rfl,rfl,rfl⟩:=h4
  exact ⟨el,h1,h3⟩
 ·
  cases h
theorem ZdK {t:TypeId} (h:ZmO P t=true):P.underlying t=some .string:=by
 unfold ZmO at h
 split at h
 ·
  assumption
 ·
  cases h
theorem Znu {t:TypeId} {k:IntKind} (h:ZrH P t=some k):P.underlying t=some (.int k):=by
 unfold ZrH at h
 split at h
 ·
  rename_i k' h1;cases h;exact h1
 ·
  cases h
theorem Zwf:R w0 M w undef .junk := .tup rfl (fun i h1=>absurd h1 (by simp))
theorem ZsS {v:Value} (h:Znh v=true):R w0 M w v (Zk9 v):=by
 unfold Zk9
 split
 ·
  exact .nil (fun id=>by simp)
 ·
  rename_i hne
  refine .flat ?_
  unfold Znh at h
  split at h
  ·
   exact absurd rfl hne
  ·
   exact h
theorem ZtM {v:Value} (h:Znh v=true):(Zk9 v).one=true:=by
 unfold Zk9
 split<;>rfl
theorem ZnG {v:Value} (h:Zlt v=true):R w0 M w v (ZiV v):=by
 cases v with
 | agg cs =>
  have h':∀ x∈cs.toList,Znh x=true:=List.all_eq_true.1 h
  refine .agg (by simp) (fun x hx=>?_) (fun i h1 h2=>?_)
  ·
   obtain ⟨y,hy,rfl⟩:=List.mem_map.1 hx
   exact ZtM (h' y hy)
  ·
   simp only [List.getElem_map,Array.getElem_toList]
   exact ZsS (h' _ (by simp))
 | _=>exact ZsS h
theorem Zbv (h:Rel w0 n M e st a w) {x:Operand} (ho:ZaT e true x):R w0 M w (a.eval x) (Zav e x):=by
 cases x with
 | tmp t =>
  simp only [ZaT,Zav] at *
  cases hl:ZfS e t with
  | none=>simp [hl] at ho
  | some x =>
   obtain ⟨c',v⟩:=x
   simp only [hl] at ho ⊢
   have:=h.env t _ hl
   unfold entryOk at this
   rw [if_pos (by simpa using ho)] at this
   exact this
 | const v=>exact ZnG ho
 | func f=>exact .clo rfl (fun i h1=>absurd h1 (by simp))
 | global g=>exact ho.elim
theorem R.val_inv {v u:Value} (h:R w0 M w v (.val u)):v=u∧Zh8 u=true:=by cases h;exact ⟨rfl,‹_›⟩
theorem R.plain {v:Value} {x:AV} (h:R w0 M w v x) (hp:Zfm x=true):v=ZgY x∧Zh8 (ZgY x)=true∧x = .val (ZgY x):=by
 cases x with
 | val u=>obtain ⟨rfl,hf⟩:=h.val_inv;exact ⟨rfl,hf,rfl⟩
 | _=>cases hp
theorem R.int {v:Value} {x:AV} (h:R w0 M w v x) (hp:ZeK x=true):v = .int (ZiH x) (ZaF x)∧x = .val (.int (ZiH x) (ZaF x)):=by
 cases x with
 | val u =>
  obtain ⟨rfl,hf⟩:=h.val_inv
  cases v<;>first | exact ⟨rfl,rfl⟩ | cases hp
 | _=>cases hp
theorem R.bool {v:Value} {x:AV} (h:R w0 M w v x) (hp:isB x=true):v = .bool (ZiN x)∧x = .val (.bool (ZiN x)):=by
 cases x with
 | val u =>
  obtain ⟨rfl,hf⟩:=h.val_inv
  cases v<;>first | exact ⟨rfl,rfl⟩ | cases hp
 | _=>cases hp
def Yields' (P:Program) (w0:World) (M:Mem) (st':St) (r:AV) (w:World) (s:Sem Next):Prop :=
 ∃ v w' M',(s.run P w = .ok (.value v) w'∨(s.run P w = .ok .skip w'∧v=undef))∧Ext w0 M w M' w'∧RelSt w0 M' st' w'∧R w0 M' w' v r
theorem ZiD (hst:RelSt w0 M st w) {s:Sem Next} {v:Value} {r:AV} (hs:s.run P w = .ok (.value v) w) (hr:R w0 M w v r):Yields' P w0 M st r w s :=
 ⟨v,w,M,.inl hs,Ext.refl _ _ _,hst,hr⟩
theorem ZjP {k:IntKind} {m:Int} (h:inK k m):k.wrap m=m:=by
 cases k<;>simp only [inK] at h<;>simp only [IntKind.wrap,IntKind.signed,IntKind.bits]<;>simp<;>omega
theorem Zlh (x y:ByteArray):(x.toList == y.toList)=sEq x y:=by
 unfold sEq
 rw [Lib.toList_data,Lib.toList_data]
theorem ZrM {op:BinOp} {x y:Value} {t:TypeId} {X Y:Operand} (h:(evBin op x y).1) :
  (do eqGuard op t X Y x y;binOp op t x y:Sem Value).run P w = .ok (evBin op x y).2 w:=by
 unfold evBin at h ⊢
 split at h<;>simp only at h ⊢ <;> try exact h.elim
 case h_1 k a k' b=>obtain ⟨rfl,h⟩:=h;simp [eqGuard,binOp,Op.intArith,ZjP h]
 case h_2 k a k' b=>obtain ⟨rfl,h⟩:=h;simp [eqGuard,binOp,Op.intArith,ZjP h]
 case h_3 k a k' b=>obtain ⟨rfl,h⟩:=h;simp [eqGuard,binOp,Op.intArith,ZjP h]
 case h_4 k a k' b =>
  obtain ⟨rfl,hb,h⟩:=h
  simp [eqGuard,binOp,Op.intDiv,hb,ZjP h]
 case h_5 k a k' b =>
  obtain ⟨rfl,hb⟩:=h
  simp [eqGuard,binOp,Op.intDiv,hb]
 case h_6 k a k' b=>subst h;simp [eqGuard,binOp,Op.intCmp];rfl
 case h_7 k a k' b=>subst h;simp [eqGuard,binOp,Op.intCmp];rfl
 case h_8 k a k' b=>subst h;simp [eqGuard,binOp,Op.intCmp]
 case h_9 k a k' b=>subst h;simp [eqGuard,binOp,Op.intCmp]
 case h_10 k a k' b=>subst h;simp [eqGuard,binOp,Op.intCmp]
 case h_11 k a k' b=>subst h;simp [eqGuard,binOp,Op.intCmp]
 case h_12 x y =>
  have e:¬ (((x.size+y.size:Nat):Int) > IntKind.i64.max):=by simp [IntKind.max,IntKind.signed,IntKind.bits];omega
  simp only [eqGuard,binOp,Op.stringOp,if_neg e]
  simp
 case h_13 x y=>simp [eqGuard,binOp,Op.stringOp,Zlh]
 case h_14 x y=>simp [eqGuard,binOp,Op.stringOp,Zlh]
 case h_15 x y=>simp [eqGuard,binOp,Op.stringOp,Lib.toList_data,sLt]
 case h_16 x y=>simp [eqGuard,binOp,Op.stringOp,Lib.toList_data,sLt,sEq]
 case h_17 x y=>simp [eqGuard,binOp,Op.stringOp,Lib.toList_data,sLt,sEq]
 case h_18 x y=>simp [eqGuard,binOp,Op.stringOp,Lib.toList_data,sLt]
 case h_19 k a k' b =>
  obtain ⟨rfl,h⟩:=h
  have e:Nat.min (Int.toNat 1) k.bits=1:=by cases k<;>rfl
  have e2:min (Int.toNat 1) k.bits=1:=by cases k<;>rfl
  simp only [eqGuard,binOp,Op.shift,e,e2]
  simp [Int.fdiv_eq_ediv_of_nonneg]
section
theorem ZqT {d:Nat} {t:TypeId} {u v:Value} (h:Zij P t (.val u) (.val v)):(Op.equalIn (d+1) t u v).run P w = .ok (eqCell (.val u) (.val v)) w:=by
 unfold Zij at h
 split at h
 ·
  rename_i k a k' b e1 e2
  cases e1;cases e2
  obtain ⟨h1,rfl⟩:=h
  unfold ZrH at h1
  split at h1
  ·
   rename_i k1 hk
   rw [run_equalIn_int w d t _ k1 a b hk];rfl
  ·
   cases h1
 ·
  rename_i a b e1 e2
  cases e1;cases e2
  unfold ZmO at h
  split at h
  ·
   rename_i hk
   rw [run_equalIn_string w d t a b hk,Zlh];rfl
  ·
   cases h
 ·
  rename_i a b e1 e2
  cases e1;cases e2
  unfold Zmq at h
  split at h
  ·
   rename_i hk
   rw [run_equalIn_bool' w d t a b hk];rfl
  ·
   cases h
 ·
  exact h.elim
theorem Zq3 {t:TypeId} {x y:AV} (h:Zij P t x y):∃ u v,x = .val u∧y = .val v:=by
 unfold Zij at h
 split at h
 ·
  exact ⟨_,_,rfl,rfl⟩
 ·
  exact ⟨_,_,rfl,rfl⟩
 ·
  exact ⟨_,_,rfl,rfl⟩
 ·
  exact h.elim
theorem Ztv {t:TypeId} (ht:tyT P t=some (1,false)) {cs:Array Value} {i:Nat} {v:Value} (h:cs[i]? = some v):(part t cs i).run P w = .ok v w:=by
 obtain ⟨i0,d,h1,h2,h3,h4⟩:=ZjG ht
 have ha:(isAgg t).run P w = .ok false w:=by
  simp only [isAgg,Sem.run_bind,run_underlying h3,Result.andThen_ok]
  cases d<;>first | (cases h4;done) | rfl | (cases h4;rfl)
 simp [part,ha,h]
theorem Zht (d:Nat) {cs ds:Array Value}:∀ (fs:List Field) (i:Nat) (xs ys:List AV),Zx6 P fs i xs ys→(∀ j v,xs[j]? = some (.val v)→cs[i+j]? = some v)→(∀ j v,ys[j]? = some (.val v)→ds[i+j]? = some v) →
  (Op.eqFields (d+1) cs ds fs).run P w = .ok (ZpQ xs ys) w
 | [],_,[],[],_,_,_=>by simp [Op.eqFields,ZpQ]
 | f::fs,i,x::xs,y::ys,h,hx,hy=>by
  obtain ⟨h1,rfl,h3,h4,h5⟩:=h
  obtain ⟨u,v,rfl,rfl⟩:=Zq3 h4
  have e1:=Ztv (w:=w) h3 (hx 0 u rfl)
  have e2:=Ztv (w:=w) h3 (hy 0 v rfl)
  simp only [Nat.add_zero] at e1 e2
  have ih:=Zht d fs _ xs ys h5 (fun j v hj=>by rw [Nat.add_assoc,Nat.add_comm 1 j];exact hx (j+1) v hj) (fun j v hj=>by rw [Nat.add_assoc,Nat.add_comm 1 j];exact hy (j+1) v hj)
  simp only [Op.eqFields,if_pos h1,Sem.run_bind,e1,e2,Result.andThen_ok,ZqT h4,ZpQ]
  cases hc:eqCell (.val u) (.val v)
  ·
   simp
  ·
   simp [ih]
 | [],_,[],_::_,h,_,_=>h.elim
 | [],_,_::_,_,h,_,_=>h.elim
 | _::_,_,[],_,h,_,_=>h.elim
 | _::_,_,_::_,[],h,_,_=>h.elim
theorem Zvs {op:BinOp} {t:TypeId} {cs ds:Array Value} {xs ys:List AV} {X Y:Operand} (h:(Zrj P op t xs ys).1) (hx:∀ (j:Nat) (v:Value),xs[j]? = some (.val v)→cs[j]? = some v) (hy:∀ (j:Nat) (v:Value),ys[j]? = some (.val v)→ds[j]? = some v) :
  (do eqGuard op t X Y (.agg cs) (.agg ds);binOp op t (.agg cs) (.agg ds):Sem Value).run P w = .ok (.bool (Zrj P op t xs ys).2) w:=by
 unfold Zrj at h ⊢
 unfold eqT at h ⊢
 cases hu:P.underlying t with
 | none=>rw [hu] at h;exact h.elim
 | some d =>
  cases d<;>(try (rw [hu] at h;exact h.elim))
  rename_i fs
  rw [hu] at h
  simp only at h ⊢
  by_cases hc:P.stoodInHeld t=false∧P.eqGuardType P.depth t=false
  ·
   rw [if_pos hc] at h ⊢
   have hf:P.fieldsOf t=fs:=by unfold Program.fieldsOf;rw [hu]
   have a:P.underlying t=some (.struct (P.fieldsOf t)):=by rw [hf];exact hu
   cases op<;>simp only at h ⊢ <;> (try exact h.elim)
   ·
    have:=Zht (P:=P) (w:=w) 9998 fs.toList 0 xs ys h (fun j v hj=>by rw [Nat.zero_add];exact hx j v hj) (fun j v hj=>by rw [Nat.zero_add];exact hy j v hj)
    simp only [Sem.run_bind,run_eqGuard_agg w _ t X Y cs ds hc.2,Result.andThen_ok,run_eql_struct,run_equalIn_agg w 9999 t cs ds a hc.1,hf,this]
   ·
    have:=Zht (P:=P) (w:=w) 9998 fs.toList 0 xs ys h (fun j v hj=>by rw [Nat.zero_add];exact hx j v hj) (fun j v hj=>by rw [Nat.zero_add];exact hy j v hj)
    simp only [Sem.run_bind,run_eqGuard_agg w _ t X Y cs ds hc.2,Result.andThen_ok,run_neq_struct,run_equalIn_agg w 9999 t cs ds a hc.1,hf,this]
  ·
   rw [if_neg hc] at h;exact h.elim
end
theorem R.aggC {w0:World} {M:Mem} {w:World} {v:Value} {x:AV} (h:R w0 M w v x) (hx:Zf2 x=true):∃ cs,v = .agg cs∧∀ (j:Nat) (u:Value),(ZjE x)[j]? = some (.val u)→cs[j]? = some u:=by
 cases h with
 | @agg cs xs hl h1 h =>
  refine ⟨cs,rfl,fun j u hj=>?_⟩
  replace hj:xs[j]? = some (.val u):=hj
  obtain ⟨a,c⟩:=List.getElem?_eq_some_iff.1 hj
  have hr:=h j (by omega) a
  have b:xs[j]'a = .val u:=c
  rw [b] at hr
  have d:j<cs.size:=by omega
  rw [Array.getElem?_eq_getElem d]
  generalize cs[j]=q at hr
  cases hr
  rfl
 | _=>cases hx
theorem ZtQ {op:BinOp} {x y:Value} (h:(evBin op x y).1):Zh8 (evBin op x y).2=true:=by
 unfold evBin at h ⊢
 split at h<;>simp only at h ⊢ <;> try first | exact h.elim | rfl
 rename_i x y
 have e:(x++y).size=x.size+y.size:=ByteArray.size_append
 simp only [Zh8,maxLen,e]
 simp
 omega
theorem ZtT {op:UnOp} {x:Value} (h:(evUn op x).1):(Op.unary op x).run P w = .ok (evUn op x).2 w:=by
 unfold evUn at h ⊢
 split at h<;>simp only at h ⊢ <;> try exact h.elim
 ·
  simp [Op.unary]
 ·
  have e:=ZjP h
  simp only [Op.unary,Op.intArith,e]
  rfl
theorem Zu9 {op:UnOp} {x:Value} (h:(evUn op x).1):Zh8 (evUn op x).2=true:=by
 unfold evUn at h ⊢
 split at h<;>simp only at h ⊢ <;> first | exact h.elim | rfl
theorem ZdD (b o j:Nat):(⟨b,o,none⟩:Addr).add j=⟨b,o+j,none⟩:=by
 unfold Addr.add
 split
 ·
  subst j;rfl
 ·
  rfl
theorem Zfl {rows:List RowA} {id ver sz:Nat} {cs:List AV} (h:Zj0 rows id ver=some (sz,cs)):rows[id]? = some (.vec ver sz cs):=by
 unfold Zj0 at h
 split at h
 ·
  rename_i v s c he
  split at h
  ·
   rename_i hv;cases h;rw [he,hv]
  ·
   cases h
 ·
  cases h
theorem Znz {rows:List RowA} {id ver:Nat} (h:(Zj0 rows id ver).isSome=true):∃ sz cs,Zj0 rows id ver=some (sz,cs):=by
 obtain ⟨⟨a,b⟩,h⟩:=Option.isSome_iff_exists.1 h
 exact ⟨a,b,h⟩
theorem ZsU (hst:RelSt w0 M st w) {v:Value} {x:AV} (h:R w0 M w v x) (hr:Zds st x=true) :
  ∃ b o,v = .pointer (some ⟨b,o+Zfb x,none⟩)∧(∀ c∈Za7 st x,c.one=true)∧∀ j (hj:j<(Za7 st x).length),∃ u,w.cell? ⟨b,o+j,none⟩=some u∧R w0 M w u (Za7 st x)[j]:=by
 cases x with
 | box l off =>
  cases h with
  | box hl =>
   have i:l<st.boxes.length:=by simpa [Zds] using hr
   obtain ⟨cs,d⟩:∃ cs,st.boxes[l]? = some cs:=⟨_,List.getElem?_eq_getElem i⟩
   obtain ⟨_,_,c,ty,hb,n,h1,hR⟩:=hst.box l cs d
   have e:Za7 st (.box l off)=cs:=by simp [Za7,List.getD,d]
   refine ⟨M.bx l,0,by simp [Zfb],by rw [e];exact h1,fun j hj=>?_⟩
   simp only [e] at hj ⊢
   refine ⟨c[j]'(by omega),?_,hR j (by omega) hj⟩
   rw [Nat.zero_add,cell_of_row w _ j c ty _ hb]
   exact Array.getElem?_eq_getElem (by omega)
 | elem y k =>
  cases h with
  | @elem b off x u k hcell hu =>
   obtain ⟨hs,hR⟩:=hu.cells
   refine ⟨b,off,rfl,?_,fun j hj=>?_⟩
   ·
    refine hu.cellsOne (fun vs hv=>?_)
    subst hv
    simp [Zds] at hr
   ·
    have f:j<u.cells.size:=by rw [hs];exact hj
    refine ⟨u.cells[j],?_,hR j f hj⟩
    rw [(hcell j f).2]
    exact Array.getElem?_eq_getElem f
 | vel id ver off =>
  cases h with
  | @vel _ _ _ a hi hv hh =>
   obtain ⟨sz,cs,d⟩:=Znz (show (Zj0 st.rows id ver).isSome=true from hr)
   obtain ⟨f1,f2,f3,f4,f5,f6,f7,c,ty,f8,f9,p,g,m⟩:=hst.row id _ (Zfl d)
   have e:Za7 st (.vel id ver off)=cs:=by simp [Za7,d]
   refine ⟨M.blk id,0,by rw [hh f1.symm];simp [Zfb],by rw [e];exact g,fun j hj=>?_⟩
   simp only [e] at hj ⊢
   refine ⟨c[j]'(by omega),?_,m j (by omega) hj⟩
   rw [Nat.zero_add,cell_of_row w _ j c ty _ f8]
   exact Array.getElem?_eq_getElem (by omega)
 | _=>cases hr
theorem Yields'.value {s:Sem Value} {st':St} {r:AV} (h:∃ v w' M',s.run P w = .ok v w'∧Ext w0 M w M' w'∧RelSt w0 M' st' w'∧R w0 M' w' v r) :
  Yields' P w0 M st' r w (do pure (.value (← s))):=by
 obtain ⟨v,w',M',hs,h1,h2,h3⟩:=h
 exact ⟨v,w',M',.inl (by simp [hs]),h1,h2,h3⟩
theorem Yields'.here (hst:RelSt w0 M st w) {s:Sem Value} {v:Value} {r:AV} (hs:s.run P w = .ok v w) (hr:R w0 M w v r) :
  Yields' P w0 M st r w (do pure (.value (← s))) := .value ⟨v,w,M,hs,Ext.refl _ _ _,hst,hr⟩
theorem Zuk {t:TypeId} (h:Zmq P t=true):P.underlying t=some .bool:=by
 unfold Zmq at h
 split at h
 ·
  assumption
 ·
  cases h
theorem Zxq {op:BinOp} {a b:Bool} {t:TypeId} {X Y:Operand} (ht:Zmq P t=true) (h:(evBB op a b).1):(do eqGuard op t X Y (.bool a) (.bool b);binOp op t (.bool a) (.bool b):Sem Value).run P w = .ok (.bool (evBB op a b).2) w:=by
 have hu:=Zuk ht
 cases op<;>try exact h.elim
 ·
  simp [eqGuard,binOp,run_equal_bool w t a b hu,evBB]
 ·
  simp [eqGuard,binOp,run_equal_bool w t a b hu,evBB];cases a<;>cases b<;>rfl
theorem ZxL (h:Rel w0 n M e st a w) (op:BinOp) (t:TypeId) (x y:Operand) (u:TypeId) (hob:(Zcl P e true st (.binOp op t x y u)).1) :
  Yields' P w0 M (Zcl P e true st (.binOp op t x y u)).2.2 (Zcl P e true st (.binOp op t x y u)).2.1 w (do pure (.value (← (do eqGuard op t x y (a.eval x) (a.eval y);binOp op t (a.eval x) (a.eval y))))):=by
 simp only [Zcl] at hob ⊢
 by_cases hc:(isB (Zav e x)&&isB (Zav e y))=true
 ·
  rw [if_pos hc] at hob ⊢
  simp only [Bool.and_eq_true] at hc
  obtain ⟨hx,hy,ht,hb⟩:=hob
  obtain ⟨ex,_⟩:=(Zbv h hx).bool hc.1
  obtain ⟨ey,_⟩:=(Zbv h hy).bool hc.2
  rw [ex,ey]
  exact .here h.st (Zxq ht hb) (.flat rfl)
 ·
  rw [if_neg hc] at hob ⊢
  by_cases hg:(Zf2 (Zav e x)&&Zf2 (Zav e y))=true
  ·
   rw [if_pos hg] at hob ⊢
   simp only [Bool.and_eq_true] at hg
   obtain ⟨hx,hy,hb⟩:=hob
   obtain ⟨cs,ex,c⟩:=(Zbv h hx).aggC hg.1
   obtain ⟨ds,ey,b⟩:=(Zbv h hy).aggC hg.2
   rw [ex,ey]
   exact .here h.st (Zvs hb c b) (.flat rfl)
  rw [if_neg hg] at hob ⊢
  obtain ⟨hx,hy,px,py,hb⟩:=hob
  obtain ⟨ex,_,_⟩:=(Zbv h hx).plain px
  obtain ⟨ey,_,_⟩:=(Zbv h hy).plain py
  rw [ex,ey]
  exact .here h.st (ZrM hb) (.flat (ZtQ hb))
theorem Zzy (h:Rel w0 n M e st a w) (op:UnOp) (t:TypeId) (x:Operand) (hob:(Zcl P e true st (.unOp op t x)).1) :
  Yields' P w0 M st (.val (evUn op (ZgY (Zav e x))).2) w (do pure (.value (← Op.unary op (a.eval x)))):=by
 obtain ⟨hx,px,hb⟩:=hob
 obtain ⟨ex,_,_⟩:=(Zbv h hx).plain px
 rw [ex]
 exact .here h.st (ZtT hb) (.flat (Zu9 hb))
theorem ZCY {t:Bool} {u v:Value} {x y:AV} (hx:t=true→R w0 M w u x) (hy:t=false→R w0 M w v y):R w0 M w (if t then u else v) (AV.sel t x y):=by
 have hf:AV.sel false x y=y:=by unfold AV.sel;split<;>rfl
 have ht:AV.sel true x y=x:=by unfold AV.sel;split<;>rfl
 cases t
 ·
  rw [hf];exact hy rfl
 ·
  rw [ht];exact hx rfl
theorem Zz5 (h:Rel w0 n M e st a w) (b x y:Operand) (hob:(Zcl P e true st (.pick b x y)).1) :
  Yields' P w0 M st (AV.sel (ZiN (Zav e b)) (Zav e x) (Zav e y)) w (do pure (.value (if ← asBool (a.eval b) then a.eval x else a.eval y))):=by
 obtain ⟨hb,c,hx,hy⟩:=hob
 obtain ⟨eb,_⟩:=(Zbv h hb).bool c
 refine ZiD h.st (v:=if ZiN (Zav e b) then a.eval x else a.eval y) ?_ (ZCY (fun q=>Zbv h (hx rfl q)) (fun q=>Zbv h (hy rfl q)))
 rw [eb]
 simp [asBool]
theorem Zmb {t:TypeId} {sz:Nat} {ag:Bool} (ht:tyT P t=some (sz,ag)) {b o:Nat} {f:Nat→Value} (hc:∀ j,j<sz→w.cell? ⟨b,o+j,none⟩=some (f j)) (h1:ag=true∨sz=1) :
  (loadVar t ⟨b,o,none⟩).run P w = .ok (if ag then .agg ((List.range sz).map f).toArray else f 0) w:=by
 unfold loadVar
 rw [Sem.run_bind,Zob ht]
 cases ag with
 | true =>
  simp only [Result.andThen_ok,if_true,Sem.run_bind,Zbk ht,run_loadCells w ⟨b,o,none⟩ sz f (fun j hj=>by rw [ZdD];exact hc j hj)]
  rfl
 | false =>
  have:sz=1:=by simpa using h1
  subst this
  have:=hc 0 (by omega)
  simp only [Nat.add_zero] at this
  simp [this]
theorem Zna {cs:List AV} {f:Nat→Value} {o sz:Nat} {ag:Bool} (h1:∀ c∈cs,c.one=true) (ho:o+sz≤cs.length) (hs:ag=true∨sz=1)
  (hR:∀ j (hj:o+j<cs.length),R w0 M w (f j) cs[o+j]):R w0 M w (if ag then .agg ((List.range sz).map f).toArray else f 0) (Zn1 ag cs o sz):=by
 unfold Zn1
 cases ag with
 | true =>
  simp only [if_true]
  refine .agg (by simp;omega) (fun x hx=>h1 x (List.mem_of_mem_drop (List.mem_of_mem_take hx))) (fun i a1 a2=>?_)
  simp only [List.getElem_take,List.getElem_drop,List.getElem_toArray,List.getElem_map,List.getElem_range]
  exact hR i (by simp at a1;omega)
 | false =>
  have:sz=1:=by simpa using hs
  subst this
  have:=hR 0 (by omega)
  simp only [Nat.add_zero] at this
  simpa [nth,List.getD,List.getElem?_eq_getElem (show o<cs.length by omega)] using this
theorem ZzQ (h:Rel w0 n M e st a w) (t:TypeId) (x:Operand) (hob:(Zcl P e true st (.load t x)).1) :
  Yields' P w0 M st (Zcl P e true st (.load t x)).2.1 w (do pure (.value (← Instr.loadAt t (a.eval x)))):=by
 unfold Zcl at hob ⊢
 cases ht:tyT P t with
 | none=>simp [ht] at hob
 | some p =>
  obtain ⟨sz,ag⟩:=p
  simp only [ht] at hob ⊢
  obtain ⟨hx,hr,g,h1⟩:=hob
  obtain ⟨b,o,ev,c,hc⟩:=ZsU h.st (Zbv h hx) hr
  rw [ev]
  have d:∀ j,j<sz→∃ u,w.cell? ⟨b,o+Zfb (Zav e x)+j,none⟩=some u∧∀ hj,R w0 M w u ((Za7 st (Zav e x))[Zfb (Zav e x)+j]'hj):=by
   intro j hj
   obtain ⟨u,h2,h3⟩:=hc (Zfb (Zav e x)+j) (by omega)
   exact ⟨u,by rw [←h2,Nat.add_assoc],fun _=>h3⟩
  let f:Nat→Value:=fun j=>((w.cell? ⟨b,o+Zfb (Zav e x)+j,none⟩).getD undef)
  have hf:∀ j,j<sz→w.cell? ⟨b,o+Zfb (Zav e x)+j,none⟩=some (f j):=fun j hj=>by
   obtain ⟨u,hu,_⟩:=d j hj
   simp [f,hu]
  refine .here h.st (v:=if ag then .agg ((List.range sz).map f).toArray else f 0) ?_ (Zna c g h1 (fun j hj=>?_))
  ·
   simp only [Instr.loadAt,Instr.sureAddr,Sem.run_bind,Sem.run_pure,Result.andThen_ok]
   exact Zmb ht hf h1
  ·
   by_cases hjs:j<sz
   ·
    obtain ⟨u,hu,hR⟩:=d j hjs
    have:f j=u:=by simp [f,hu]
    rw [this]
    exact hR hj
   ·
    obtain ⟨u,hu,hR⟩:=hc (Zfb (Zav e x)+j) hj
    have:f j=u:=by simp [f,Nat.add_assoc,hu]
    rw [this]
    exact hR
theorem ZnP (hst:RelSt w0 M st w) {v:Value} {x:AV} (h:R w0 M w v x) (hr:Zds st x=true):∃ b o,v = .pointer (some ⟨b,o,none⟩)∧∀ k,R w0 M w (.pointer (some ⟨b,o+k,none⟩)) (Zor x k):=by
 cases x with
 | box l off=>cases h with | box hl=>exact ⟨_,_,rfl,fun k => .box hl⟩
 | elem y k =>
  cases h with
  | @elem b off x u k hcell hu=>exact ⟨_,_,rfl,fun k'=>by rw [Nat.add_assoc];exact .elem u (k+k') hcell hu⟩
 | vel id ver off =>
  cases h with
  | @vel _ _ _ a hi hv hh =>
   obtain ⟨sz,cs,c⟩:=Znz (show (Zj0 st.rows id ver).isSome=true from hr)
   have f1:=(hst.row id _ (Zfl c)).1
   have ha:=hh f1.symm
   exact ⟨M.blk id,off,by rw [ha],fun k => .vel hi hv fun _=>rfl⟩
 | _=>cases hr
theorem ZrY (h:Rel w0 n M e st a w) (o:Oper) (x:Operand) (ho:o.op = .nilCheck x) (hob:(Zcl P e true st (.nilCheck x)).1) :
  Yields' P w0 M st (Zav e x) w (execOp a.eval o):=by
 obtain ⟨hx,hr⟩:=hob
 obtain ⟨b,o',ev,_⟩:=ZnP h.st (Zbv h hx) hr
 refine ZiD h.st (v:=a.eval x) ?_ (Zbv h hx)
 simp only [execOp,ho,ev]
 rfl
theorem Zr9 (h:Rel w0 n M e st a w) (f:FuncId) (fi cap:Array Operand) (hob:(Zcl P e true st (.makeFunc (.func f) fi cap)).1) :
  Yields' P w0 M st (.clo f (cap.toList.map (Zav e))) w (do pure (.value (← Instr.makeFunc (.func f) (fi.map a.eval) (cap.map a.eval)))):=by
 obtain ⟨h0,hc⟩:=hob
 refine .here h.st (v := .func (.func f) (fi.map a.eval) (cap.map a.eval)) rfl ?_
 have:fi.map a.eval = #[]:=by simp [Array.size_eq_zero_iff.1 h0]
 rw [this]
 refine .clo (by simp) (fun i h1 h2=>?_)
 simp only [Array.getElem_map,List.getElem_map,Array.getElem_toList]
 exact Zbv h (hc _ (by simp))
theorem Zq5 (h:Rel w0 n M e st a w) (t:TypeId) (x:Operand) (f:Nat) (hob:(Zcl P e true st (.fieldAddr t x f)).1) :
  Yields' P w0 M (Zcl P e true st (.fieldAddr t x f)).2.2 (Zcl P e true st (.fieldAddr t x f)).2.1 w (do pure (.value (← Instr.fieldAt t (a.eval x) f))):=by
 unfold Zcl at hob ⊢
 cases hf:ZiU P t f with
 | none=>simp [hf] at hob
 | some p =>
  obtain ⟨o,sz,ag⟩:=p
  simp only [hf] at hob ⊢
  obtain ⟨hx,hr,hz⟩:=hob
  obtain ⟨fs,y,h1,h2,h3,h4⟩:=Zrr hf
  obtain ⟨b,o',ev,hk⟩:=ZnP h.st (Zbv h hx) hr
  refine .here h.st (v := .pointer (some ⟨b,o'+o,none⟩)) ?_ (hk o)
  rw [ev]
  have c:¬ sz=0:=by omega
  simp [Instr.fieldAt,run_underlying h1,h2,Instr.sureAddr,fieldPlace,h3,ZdD,Zbk h4,c]
theorem ZqN {t:TypeId} {sz:Nat} {ag:Bool} (ht:tyT P t=some (sz,ag)) {cs:Array Value} {o:Nat} (ho:o+sz≤cs.size) (h1:ag=true∨sz=1) :
  (part t cs o).run P w = .ok (if ag then .agg ((List.range sz).map fun j=>cs.getD (o+j) undef).toArray else cs.getD o undef) w:=by
 unfold part
 rw [Sem.run_bind,Zob ht]
 cases ag with
 | true =>
  simp only [Result.andThen_ok,if_true,Sem.run_bind,Zbk ht,Sem.run_pure]
  congr 2
  apply Array.ext
  ·
   simp;omega
  ·
   intro i h1 h2
   simp at h1 h2
   simp [show o+i<cs.size by omega]
 | false =>
  have:sz=1:=by simpa using h1
  subst this
  have a:o<cs.size:=by omega
  simp [a]
theorem R.agg_inv {v:Value} {x:AV} (h:R w0 M w v x) (ha:Zf2 x=true):∃ cs,v = .agg cs∧cs.size=x.cells.length∧(∀ y∈x.cells,y.one=true)∧∀ j (hj:j<x.cells.length),R w0 M w (cs.getD j undef) x.cells[j]:=by
 cases x with
 | agg xs =>
  cases h with
  | agg hl h1 hR =>
   rename_i cs
   refine ⟨cs,rfl,hl,h1,fun j hj=>?_⟩
   have a:j<cs.size:=by rw [hl];exact hj
   have e:cs.getD j undef=cs[j]:=by simp [a]
   rw [e]
   exact hR j a hj
 | _=>cases ha
theorem Zyk (h:Rel w0 n M e st a w) (t:TypeId) (x:Operand) (f:Nat) (hob:(Zcl P e true st (.field t x f)).1) :
  Yields' P w0 M (Zcl P e true st (.field t x f)).2.2 (Zcl P e true st (.field t x f)).2.1 w (do pure (.value (← Instr.field t (a.eval x) f))):=by
 unfold Zcl at hob ⊢
 cases hf:ZiU P t f with
 | none=>simp [hf] at hob
 | some p =>
  obtain ⟨o,sz,ag⟩:=p
  simp only [hf] at hob ⊢
  obtain ⟨hx,hr,c,hs⟩:=hob
  obtain ⟨fs,y,h1,h2,h3,h4⟩:=Zrr hf
  obtain ⟨cs,ev,hl,b,hR⟩:=(Zbv h hx).agg_inv hr
  rw [ev]
  refine .here h.st (v:=if ag then .agg ((List.range sz).map fun j=>cs.getD (o+j) undef).toArray else cs.getD o undef) ?_ (Zna (f:=fun j=>cs.getD (o+j) undef) b c hs (fun j hj=>hR _ hj))
  subst h3
  simp [Instr.field,run_underlying h1,h2,asAgg,ZqN (w:=w) h4 (cs:=cs) (o:=y.offset) (by omega) hs]
theorem R.list_inv {v:Value} {x:AV} (h:R w0 M w v x) (hl:Zb5 x=true) :
  (∃ a cap,v = .slice a (ZaN x).length cap∧(a=none→ZaN x=[]∧cap=0)∧(ZaN x).length≤cap∧cap≤maxLen):=by
 cases x with
 | list xs o =>
  cases h with
  | nil ho=>exact ⟨none,0,rfl,fun _=>⟨rfl,rfl⟩,Nat.zero_le _,by simp [maxLen]⟩
  | emp ho=>exact ⟨_,0,rfl,fun e=>(by cases e),Nat.zero_le _,by simp [maxLen]⟩
  | list sz us hc hm hcell hu ho=>exact ⟨_,_,rfl,fun e=>(by cases e),hc,hm⟩
 | _=>cases hl
theorem R.list_elem {v:Value} {xs:List AV} {o:Own} (h:R w0 M w v (.list xs o)) {i:Nat} (hi:i<xs.length) {sz:Nat} (hsz:xs[i].cells.length=sz) :
  ∃ b off cap,v = .slice (some ⟨b,off,none⟩) xs.length cap∧R w0 M w (.pointer (some ⟨b,off+i*sz,none⟩)) (.elem xs[i] 0):=by
 cases h with
 | nil ho=>exact absurd hi (by simp)
 | emp ho=>exact absurd hi (by simp)
 | @list b off cap _ _ sz' us hc hm hcell hu ho =>
  obtain ⟨h1,h2⟩:=hcell i hi
  have e:sz'=sz:=by rw [←h1,(hu i hi).cells.1,hsz]
  subst e
  exact ⟨b,off,cap,rfl,.elem (us i) 0 (fun j hj=>h2 j (by omega)) (hu i hi)⟩
theorem ZfT {x:AV} (h:Zb5 x=true):∃ xs o,x = .list xs o:=by
 cases x with
 | list xs o=>exact ⟨xs,o,rfl⟩
 | _=>cases h
theorem Zzd {l:List AV} {i:Nat} (h:i<l.length):nth l i=l[i]:=by simp [nth,List.getD,List.getElem?_eq_getElem h]
theorem ZqK (h:Rel w0 n M e st a w) (t:TypeId) (x i:Operand) (hob:(Zcl P e true st (.indexAddr t x i)).1) :
  Yields' P w0 M (Zcl P e true st (.indexAddr t x i)).2.2 (Zcl P e true st (.indexAddr t x i)).2.1 w (do pure (.value (← Instr.indexAt t (a.eval x) (a.eval i)))):=by
 unfold Zcl ZrL at hob ⊢
 cases he:elT P t with
 | some p =>
  obtain ⟨el,sz,ag,y⟩:=p
  simp only [he] at hob ⊢
  split at hob
  ·
   rename_i id ver o n' hx0
   cases hvr:Zj0 st.rows id ver with
   | none=>simp [hvr] at hob
   | some p =>
    obtain ⟨r,cs⟩:=p
    simp only [hvr] at hob ⊢
    obtain ⟨hx,hi,f,h0,h1,rfl⟩:=hob
    obtain ⟨g,hu,_,_,c⟩:=Zfk he
    obtain ⟨ei,_⟩:=(Zbv h hi).int f
    have hR:=Zbv h hx
    rw [hx0] at hR
    generalize ZaF (Zav e i)=m at *
    obtain ⟨k,rfl⟩:=Int.eq_ofNat_of_zero_le h0
    have hk:k<n':=by omega
    generalize hev:a.eval x=v at hR
    cases hR with
    | @vec _ _ _ _ p l hid hv hh =>
     obtain ⟨f1,f2,_⟩:=h.st.row id _ (Zfl hvr)
     obtain ⟨rfl,u,aa⟩:=hh f1.symm
     refine .here h.st (v := .pointer (some ⟨M.blk id,o*M.rsz id+k*r,none⟩)) ?_ ?_
     ·
      rw [ei]
      simp [Instr.indexAt,asIntOf,run_underlying hu,Zbk c,ZdD]
      omega
     ·
      refine .vel hid hv fun _=>?_
      rw [f2,Int.toNat_natCast,Nat.add_mul]
  rename_i hx0
  obtain ⟨hx,hi,hl,f,h0,h1,d⟩:=hob
  obtain ⟨g,hu,_,_,c⟩:=Zfk he
  obtain ⟨ei,_⟩:=(Zbv h hi).int f
  have hR:=Zbv h hx
  obtain ⟨xs,o,j⟩:=ZfT hl
  rw [j] at hR h1 d ⊢
  simp only [ZaN] at h1 d ⊢
  generalize ZaF (Zav e i)=m at *
  obtain ⟨k,rfl⟩:=Int.eq_ofNat_of_zero_le h0
  have hk:k<xs.length:=by omega
  simp only [Int.toNat_natCast] at d ⊢
  rw [Zzd hk] at d ⊢
  obtain ⟨b,s,l,ev,hE⟩:=hR.list_elem hk d
  refine .here h.st (v := .pointer (some ⟨b,s+k*sz,none⟩)) ?_ hE
  rw [ev,ei]
  simp [Instr.indexAt,asIntOf,run_underlying hu,Zbk c,ZdD]
  omega
 | none =>
  simp only [he] at hob ⊢
  cases ha:ZvM P t with
  | none=>simp [ha] at hob
  | some p =>
   obtain ⟨m,sz,ag⟩:=p
   simp only [ha] at hob ⊢
   obtain ⟨hx,hi,hr,f,h0,h1⟩:=hob
   obtain ⟨el,hu,c⟩:=Zm3 ha
   obtain ⟨ei,_⟩:=(Zbv h hi).int f
   obtain ⟨b,o',ev,hk⟩:=ZnP h.st (Zbv h hx) hr
   generalize ZaF (Zav e i)=q at *
   obtain ⟨k,rfl⟩:=Int.eq_ofNat_of_zero_le h0
   have z:k<m:=by omega
   refine .here h.st (v := .pointer (some ⟨b,o'+k*sz,none⟩)) ?_ (by simpa using hk (k*sz))
   rw [ev,ei]
   simp [Instr.indexAt,asIntOf,run_underlying hu,Zbk c,Instr.sureAddr,ZdD]
   omega
theorem getElem?_get! (s:ByteArray) (k:Nat) (hk:k<s.size):s[k]? = some (s.get! k):=by
 rw [getElem?_pos s k hk]
 congr 1
 simp only [ByteArray.get!]
 have:k<s.data.size:=hk
 rw [getElem!_pos s.data k this]
 rfl
theorem ZxE (h:Rel w0 n M e st a w) (t:TypeId) (x i:Operand) (hob:(Zcl P e true st (.index t x i)).1) :
  Yields' P w0 M (Zcl P e true st (.index t x i)).2.2 (Zcl P e true st (.index t x i)).2.1 w (do pure (.value (← Instr.index t (a.eval x) (a.eval i)))):=by
 unfold Zcl ZrL at hob ⊢
 simp only at hob ⊢
 split at hob
 ·
  rename_i s hx0
  obtain ⟨hs,hx,hi,d,h0,h1⟩:=hob
  obtain ⟨ei,_⟩:=(Zbv h hi).int d
  have hR:=Zbv h hx
  rw [hx0] at hR
  obtain ⟨ev,_⟩:=hR.val_inv
  generalize ZaF (Zav e i)=q at *
  obtain ⟨k,rfl⟩:=Int.eq_ofNat_of_zero_le h0
  have hk:k<s.size:=by omega
  refine .here h.st (v := .int .u8 (s.get! k).toNat) ?_ (.flat rfl)
  rw [ev,ei]
  have hg:s[k]? = some (s.get! k):=getElem?_get! s k hk
  simp [Instr.index,asIntOf,run_underlying (ZdK hs),hg]
 ·
  rename_i cs hx0
  cases ha:ZvM P t with
  | none=>simp [ha] at hob
  | some p =>
   obtain ⟨m,sz,ag⟩:=p
   simp only [ha] at hob ⊢
   obtain ⟨hx,hi,d,h0,h1,hl,hs⟩:=hob
   obtain ⟨el,hu,g⟩:=Zm3 ha
   obtain ⟨ei,_⟩:=(Zbv h hi).int d
   have hR:=Zbv h hx
   rw [hx0] at hR
   obtain ⟨c,ev,o,b,r⟩:=hR.agg_inv rfl
   simp only [AV.cells] at o b r
   generalize ZaF (Zav e i)=q at *
   obtain ⟨k,rfl⟩:=Int.eq_ofNat_of_zero_le h0
   have hk:k<m:=by omega
   have l:k*sz+sz≤cs.length:=by rw [hl,←Nat.succ_mul];exact Nat.mul_le_mul_right _ hk
   refine .here h.st (v:=if ag then .agg ((List.range sz).map fun j=>c.getD (k*sz+j) undef).toArray else c.getD (k*sz) undef) ?_ ?_
   ·
    rw [ev,ei]
    simp only [Instr.index,asIntOf,Sem.run_bind,Sem.run_pure,Result.andThen_ok,run_underlying hu]
    rw [if_pos ⟨by omega,by omega⟩]
    simp only [Sem.run_bind,Zbk g,Result.andThen_ok,Int.toNat_natCast]
    exact ZqN g (by rw [o];exact l) hs
   ·
    simp only [Int.toNat_natCast]
    exact Zna (f:=fun j=>c.getD (k*sz+j) undef) b l hs (fun j hj=>r _ hj)
 ·
  exact hob.elim
theorem Zup (h:Rel w0 n M e st a w) (x:Operand) (i:Nat) (hob:(Zcl P e true st (.extract x i)).1) :
  Yields' P w0 M (Zcl P e true st (.extract x i)).2.2 (Zcl P e true st (.extract x i)).2.1 w (do pure (.value (← Instr.extract (a.eval x) i))):=by
 unfold Zcl ZrL at hob ⊢
 simp only at hob ⊢
 split at hob
 ·
  rename_i vs hx0
  obtain ⟨hx,hi⟩:=hob
  have hR:=Zbv h hx
  rw [hx0] at hR
  generalize a.eval x=v at hR ⊢
  cases hR with
  | tup hl hR =>
   rename_i cs
   rw [Zzd hi]
   refine .here h.st (v:=cs[i]'(by omega)) ?_ (hR i (by omega) hi)
   simp [Instr.extract,show i<cs.size by omega]
 ·
  exact hob.elim
theorem ZBr (h:Rel w0 n M e st a w) (x:Operand) (t ty:TypeId) (hx:ZaT e true x) (hob:(ZqF P t (Zav e x)).1) :
  Yields' P w0 M st (ZqF P t (Zav e x)).2 w (do pure (.value (← Builtin.len_ #[t] ty #[a.eval x]))):=by
 have hR:=Zbv h hx
 unfold ZqF at hob ⊢
 split at hob
 ·
  rename_i s hx0
  rw [hx0] at hR
  obtain ⟨ev,_⟩:=hR.val_inv
  refine .here h.st (v := .int .i64 s.size) ?_ (.flat rfl)
  rw [ev]
  simp [Builtin.len_,run_underlying (ZdK hob),goInt]
 ·
  rename_i xs o hx0
  rw [hx0] at hR
  obtain ⟨b,d,ev,_⟩:=hR.list_inv rfl
  simp only [ZaN] at ev
  obtain ⟨p,hp⟩:=Option.isSome_iff_exists.1 hob
  obtain ⟨el,sz,ag,c⟩:=p
  obtain ⟨i,hu,_⟩:=Zfk hp
  refine .here h.st (v := .int .i64 xs.length) ?_ (.flat rfl)
  rw [ev]
  simp [Builtin.len_,run_underlying hu,goInt]
 ·
  rename_i id ver o n' hx0
  rw [hx0] at hR
  obtain ⟨p,hp⟩:=Option.isSome_iff_exists.1 hob
  obtain ⟨el,sz,ag,c⟩:=p
  obtain ⟨i,hu,_⟩:=Zfk hp
  generalize hev:a.eval x=v at hR
  cases hR with
  | @vec _ _ _ _ p d hid hv hh =>
   refine .here h.st (v := .int .i64 n') ?_ (.flat rfl)
   simp [Builtin.len_,run_underlying hu,goInt]
 ·
  exact hob.elim
theorem ZcP {v:Value} {k:IntKind} {q:Nat} {y:Nat} {code:BoundsCode} (hv:v = .int k q) (h:q≤y) (w:World):(Instr.sliceBound v y code).run P w = .ok q w:=by
 subst hv
 simp [Instr.sliceBound,asIntOf]
 omega
theorem Zle (h:Rel w0 n M e st a w) (isl:Bool) (len cap:Nat) (hlc:len≤cap) {lo hi:Option Operand} (hlo:Zmk e true lo) (hhi:Zmk e true hi)
  {l u:Nat} (el:Zdn e 0 lo=l) (eu:Zdn e len hi=u) (h1:l≤u) (h2:u≤len) :
  (Instr.sliceBounds isl len cap (lo.map a.eval) (hi.map a.eval) none).run P w = .ok (l,u,cap) w:=by
 have H:∀ (y:Operand),(ZaT e true y∧ZeK (Zav e y)=true)→∃ k,a.eval y = .int k (ZaF (Zav e y)):=fun y hy=>⟨_,((Zbv h hy.1).int hy.2).1⟩
 cases hi with
 | none =>
  simp only [Zdn] at eu
  have eu':u=len:=by omega
  subst eu'
  cases lo with
  | none =>
   simp only [Zdn] at el
   have el':l=0:=by omega
   subst el'
   simp [Instr.sliceBounds]
  | some y =>
   obtain ⟨k,ky⟩:=H y hlo
   simp only [Zdn] at el
   rw [el] at ky
   simp [Instr.sliceBounds,ZcP ky h1]
 | some z =>
  obtain ⟨k2,kz⟩:=H z hhi
  simp only [Zdn] at eu
  rw [eu] at kz
  have hz:u≤cap:=by omega
  cases lo with
  | none =>
   simp only [Zdn] at el
   have el':l=0:=by omega
   subst el'
   simp [Instr.sliceBounds,ZcP kz hz]
  | some y =>
   obtain ⟨k,ky⟩:=H y hlo
   simp only [Zdn] at el
   rw [el] at ky
   simp [Instr.sliceBounds,ZcP kz hz,ZcP ky h1]
theorem R.empty (b off cap:Nat) (hm:cap≤maxLen):R w0 M w (.slice (some ⟨b,off,none⟩) 0 cap) (.list [] .none) :=
 R.list (xs:=[]) 0 (fun _=>undef) (Nat.zero_le _) hm (fun i hi=>absurd hi (by simp)) (fun i hi=>absurd hi (by simp)) trivial
theorem R.sub {b off cap : Nat} {xs : List AV} {o : Own} (h : R w0 M w (.slice (some ⟨b, off, none⟩) xs.length cap) (.list xs o)) {l u sz : Nat} (hl : l ≤ u) (hu : u ≤ xs.length) (hsz : l = 0 ∨ ∀ y ∈ xs, y.cells.length = sz) (hne : cap ≠ l) :
    R w0 M w (.slice (some ⟨b, off + l * sz, none⟩) (u - l) (cap - l)) (.list ((xs.take u).drop l) .none) := by
  generalize hv : Value.slice (some ⟨b, off, none⟩) xs.length cap = v at h
  cases h with
  | nil ho => cases hv
  | emp ho => cases hv; simp at hu; subst hu; have : l = 0 := by omega
              subst this; exact absurd rfl hne
  | @list b' off' cap' _ _ sz' us hc hm hcell hus ho =>
    cases hv
    have hlen : ((xs.take u).drop l).length = u - l := by simp; omega
    rw [← hlen]
    have eo : ∀ i, i < u - l → off + l * sz + i * sz' = off + (l + i) * sz' := by
      intro i hi
      rcases hsz with rfl | hsz
      · simp
      · have e : sz' = sz := by
          have h1 : (us i).cells.size = sz' := (hcell i (by omega)).1
          rw [← h1, (hus i (by omega)).cells.1, hsz _ (List.getElem_mem _)]
        rw [e, Nat.add_mul]; omega
    refine .list sz' (fun i => us (l + i)) (by rw [hlen]; omega) (by omega) (fun i hi => ?_) (fun i hi => ?_) trivial
    · rw [hlen] at hi
      obtain ⟨h1, h2⟩ := hcell (l + i) (by omega)
      refine ⟨h1, fun j hj => ?_⟩
      rw [eo i hi]
      exact h2 j hj
    · rw [hlen] at hi
      simp only [List.getElem_drop, List.getElem_take]
      exact hus (l + i) (by omega)
theorem Zx4 (h:Rel w0 n M e st a w) (t:TypeId) (x:Operand) (lo hi mx:Option Operand) (hob:(Zcl P e true st (.slice t x lo hi mx)).1) :
  Yields' P w0 M (Zcl P e true st (.slice t x lo hi mx)).2.2 (Zcl P e true st (.slice t x lo hi mx)).2.1 w (do pure (.value (← Instr.sliceAt t (a.eval x) (lo.map a.eval) (hi.map a.eval) (mx.map a.eval)))):=by
 unfold Zcl at hob ⊢
 simp only at hob ⊢
 split at hob
 ·
  rename_i id ver o n' hx0
  cases hp:elT P t with
  | none=>simp [hp] at hob
  | some p =>
  obtain ⟨el,sz,ag,ai⟩:=p
  cases hvr:Zj0 st.rows id ver with
  | none=>simp [hp,hvr] at hob
  | some q =>
  obtain ⟨u,cs⟩:=q
  simp only [hp,hvr] at hob ⊢
  obtain ⟨hx,g,j,hm,h0,h1,h2,h3,rfl⟩:=hob
  have hR:=Zbv h hx
  rw [hx0] at hR
  obtain ⟨i,hu,_,_,l⟩:=Zfk hp
  cases mx with
  | some _=>cases hm
  | none =>
   obtain ⟨l',d⟩:=Int.eq_ofNat_of_zero_le h0
   obtain ⟨u',f⟩:=Int.eq_ofNat_of_zero_le (Int.le_trans h0 h1)
   rw [d,f] at h1
   rw [f] at h2
   rw [d] at h3
   rw [d,f]
   simp only [Int.toNat_natCast]
   generalize hev:a.eval x=v at hR
   cases hR with
   | @vec _ _ _ _ p c hid hv hh =>
    obtain ⟨f1,f2,_⟩:=h.st.row id _ (Zfl hvr)
    obtain ⟨rfl,ak,aj⟩:=hh f1.symm
    have hb:=Zle (P:=P) h true n' c aj g j d f (by omega) (by omega)
    refine .here h.st (v := .slice (if c=l' then some ⟨M.blk id,o*M.rsz id,none⟩ else (some (⟨M.blk id,o*M.rsz id,none⟩:Addr)).map (·.add (l'*u))) (u'-l') (c-l')) ?_ ?_
    ·
     simp only [Instr.sliceAt,Instr.slice,Sem.run_bind,run_underlying hu,Result.andThen_ok,Option.map_none,hb,Zbk l,Sem.run_pure]
    ·
     refine .vec hid hv fun _=>⟨?_,by omega,by omega⟩
     by_cases hcl:c=l'
     ·
      have:l'=0:=by omega
      rw [if_pos hcl,this];simp
     ·
      rw [if_neg hcl]
      simp only [Option.map_some,ZdD]
      rw [f2,Nat.add_mul]
 ·
  rename_i s hx0
  obtain ⟨hs,hx,g,j,hm,h0,h1,h2⟩:=hob
  have hR:=Zbv h hx
  rw [hx0] at hR
  obtain ⟨ev,hf⟩:=hR.val_inv
  cases mx with
  | some _=>cases hm
  | none =>
   have hb:=Zle (P:=P) h false s.size s.size (Nat.le_refl _) g j (Int.toNat_of_nonneg h0).symm (Int.toNat_of_nonneg (Int.le_trans h0 h1)).symm (by omega) (by omega)
   refine .here h.st (v := .string (s.extract (Zdn e 0 lo).toNat (Zdn e s.size hi).toNat)) ?_ (.flat ?_)
   ·
    rw [ev]
    simp only [Instr.sliceAt,Instr.slice,Sem.run_bind,run_underlying (ZdK hs),Result.andThen_ok,Option.map_none,Option.isSome_none,Bool.false_eq_true,if_false,hb,Sem.run_pure]
   ·
    simp only [Zh8,decide_eq_true_eq] at hf ⊢
    simp only [ByteArray.size_extract]
    omega
 ·
  rename_i xs o hx0
  cases hp:elT P t with
  | none=>simp [hp] at hob
  | some p =>
   obtain ⟨el,sz,ag,ai⟩:=p
   simp only [hp] at hob ⊢
   cases mx with
   | some m =>
    simp only at hob ⊢
    obtain ⟨hx,g,j,hm,h0,h1,h2⟩:=hob
    have hR:=Zbv h hx
    rw [hx0] at hR
    obtain ⟨i,hu,_,_,l⟩:=Zfk hp
    have H:∀ (y:Operand),(ZaT e true y∧ZeK (Zav e y)=true)→∃ k,a.eval y = .int k (ZaF (Zav e y)):=fun y hy=>⟨_,((Zbv h hy.1).int hy.2).1⟩
    cases hi with
    | none=>simp [Zdn] at h1
    | some z =>
     obtain ⟨k2,kz⟩:=H z j
     obtain ⟨k3,km⟩:=H m hm
     simp only [Zdn] at h1 h2
     rw [h1] at kz
     rw [h2] at km
     have hb:∀ (ln c:Nat),ln≤c→(Instr.sliceBounds true ln c (lo.map a.eval) ((some z).map a.eval) ((some m).map a.eval)).run P w = .ok (0,0,0) w:=by
      intro ln c aa
      have e1:=ZcP (P:=P) (k:=k3) (q:=0) (y:=c) (code := .slice3Acap) km (Nat.zero_le _) w
      have e2:=ZcP (P:=P) (k:=k2) (q:=0) (y:=0) (code := .slice3B) kz (Nat.zero_le _) w
      cases lo with
      | none=>simp [Instr.sliceBounds,e1,e2]
      | some y =>
       obtain ⟨k,ky⟩:=H y g
       simp only [Zdn] at h0
       rw [h0] at ky
       have e3:=ZcP (P:=P) (k:=k) (q:=0) (y:=0) (code := .slice3C) ky (Nat.zero_le _) w
       simp [Instr.sliceBounds,e1,e2,e3]
     obtain ⟨v,hv⟩:∃ v,a.eval x=v:=⟨_,rfl⟩
     rw [hv] at hR
     have fin:∀ (ad:Option Addr) (ln c:Nat),ln≤c→v = .slice ad ln c→R w0 M w (.slice ad 0 0) (.list [] .full) →
       Yields' P w0 M st (.list [] .full) w (do pure (.value (← Instr.sliceAt t (a.eval x) (lo.map a.eval) (Option.map a.eval (some z)) (Option.map a.eval (some m))))):=by
      intro ad ln c aa e1 hr
      refine .here h.st ?_ hr
      rw [hv,e1]
      simp only [Instr.sliceAt,Instr.slice,Sem.run_bind,run_underlying hu,Result.andThen_ok,hb ln c aa,Zbk l,Sem.run_pure]
      simp
     cases hR with
     | nil ho=>exact fin none 0 0 (Nat.le_refl _) rfl (by simpa using R.nil (fun id=>by simp))
     | @emp ad _ ho=>exact fin (some ad) 0 0 (Nat.le_refl _) rfl (.emp (fun id=>by simp))
     | @list b off c _ _ u us hc hm' hcell hu' ho =>
      exact fin _ _ c hc rfl (R.list (xs:=[]) 0 (fun _=>undef) (Nat.zero_le _) (Nat.zero_le _) (fun i hi=>absurd hi (by simp)) (fun i hi=>absurd hi (by simp)) rfl)
   | none =>
   obtain ⟨hx,g,j,h0,h1,h2,h3⟩:=hob
   have hR:=Zbv h hx
   rw [hx0] at hR
   obtain ⟨i,hu,_,_,l⟩:=Zfk hp
   ·
    obtain ⟨l',d⟩:=Int.eq_ofNat_of_zero_le h0
    obtain ⟨u',f⟩:=Int.eq_ofNat_of_zero_le (Int.le_trans h0 h1)
    rw [d,f] at h1
    rw [f] at h2
    rw [d] at h3
    rw [d,f]
    have ab:l'≤u':=by omega
    have r:u'≤xs.length:=by omega
    simp only [Int.toNat_natCast]
    have af:l'=0∨∀ y∈xs,y.cells.length=sz:=h3.imp (fun q=>by omega) id
    have go:∀ (ad:Option Addr) (c:Nat),xs.length≤c→a.eval x = .slice ad xs.length c →
      R w0 M w (.slice (if c=l' then ad else ad.map (·.add (l'*sz))) (u'-l') (c-l')) (.list ((xs.take u').drop l') .none) →
      Yields' P w0 M st (.list ((xs.take u').drop l') .none) w (do pure (.value (← Instr.sliceAt t (a.eval x) (lo.map a.eval) (hi.map a.eval) (Option.map a.eval none)))):=by
     intro ad c ae ev hr
     have hb:=Zle (P:=P) h true xs.length c ae g j d f ab r
     refine .here h.st ?_ hr
     rw [ev]
     simp only [Instr.sliceAt,Instr.slice,Sem.run_bind,run_underlying hu,Result.andThen_ok,Option.map_none,hb,Zbk l,Sem.run_pure]
    generalize hv:a.eval x=v at hR go
    have ah:=hR
    cases hR with
    | nil ho =>
     have e1:u'=0:=by simpa using r
     have e2:l'=0:=by omega
     subst e1;subst e2
     refine go none 0 (Nat.le_refl _) rfl ?_
     simpa using (R.nil (w0:=w0) (M:=M) (w:=w) (o := .none) (fun id=>by simp))
    | @emp ad _ ho =>
     have e1:u'=0:=by simpa using r
     have e2:l'=0:=by omega
     subst e1;subst e2
     refine go (some ad) 0 (Nat.le_refl _) rfl ?_
     simpa using (R.emp (w0:=w0) (M:=M) (w:=w) (a:=ad) (o := .none) (fun id=>by simp))
    | @list b off c _ _ u us hc hm' hcell hu' ho =>
     refine go (some ⟨b,off,none⟩) c hc rfl ?_
     by_cases hcl:c=l'
     ·
      have e1:u'=l':=by omega
      have:(xs.take u').drop l'=[]:=by rw [e1];simp
      rw [this,if_pos hcl,e1,Nat.sub_self]
      exact R.empty _ _ _ (by omega)
     ·
      rw [if_neg hcl]
      simp only [Option.map_some,ZdD]
      exact ah.sub ab r af hcl
 ·
  exact hob.elim
theorem ZBa (h:Rel w0 n M e st a w) (x y:Operand) (ts:Array TypeId) (t:TypeId) (hx:ZaT e true x) (hy:ZaT e true y) (ix:ZeK (Zav e x)=true) (iy:ZeK (Zav e y)=true) :
  Yields' P w0 M st (.val (.int (ZiH (Zav e x)) (if ZaF (Zav e y)<ZaF (Zav e x) then ZaF (Zav e y) else ZaF (Zav e x)))) w (do pure (.value (← Builtin.min_ ts t #[a.eval x,a.eval y]))):=by
 rw [((Zbv h hx).int ix).1,((Zbv h hy).int iy).1]
 exact .here h.st (by simp [Builtin.min_,Builtin.min2]) (.flat rfl)
theorem ZBx (h:Rel w0 n M e st a w) (x y:Operand) (ts:Array TypeId) (t:TypeId) (hx:ZaT e true x) (hy:ZaT e true y) (ix:ZeK (Zav e x)=true) (iy:ZeK (Zav e y)=true) :
  Yields' P w0 M st (.val (.int (ZiH (Zav e x)) (if ZaF (Zav e x)<ZaF (Zav e y) then ZaF (Zav e y) else ZaF (Zav e x)))) w (do pure (.value (← Builtin.max_ ts t #[a.eval x,a.eval y]))):=by
 rw [((Zbv h hx).int ix).1,((Zbv h hy).int iy).1]
 exact .here h.st (by simp [Builtin.max_,Builtin.max2]) (.flat rfl)
end
section
variable {P:Program} {w0:World} {n:Nat} {M:Mem} {e:Env} {st:St} {a:Act} {w:World}
theorem RelSt.box_lt (h:RelSt w0 M st w) {l:Nat} (hl:l<M.N):M.bx l<w.heap.size:=by
 have a:l<st.boxes.length:=by rw [←h.N];exact hl
 obtain ⟨_,_,c,ty,hb,_⟩:=h.box l _ (List.getElem?_eq_getElem a)
 exact (Array.getElem?_eq_some_iff.1 hb).1
theorem RelSt.row_lt (h:RelSt w0 M st w) {i:Nat} (hi:i<M.NR):M.blk i<w.heap.size:=by
 have a:i<st.rows.length:=by rw [←h.NR];exact hi
 exact (h.row i _ (List.getElem?_eq_getElem a)).lt
theorem RelSt.base_le (h:RelSt w0 M st w):w0.heap.size≤w.heap.size:=h.below.size
theorem RelSt.drew (h:RelSt w0 M st w):RelSt w0 M st w.drew∧Ext w0 M w M w.drew :=
 have hx:Ext w0 M w M w.drew:=⟨Nat.le_refl _,fun _ _=>rfl,Nat.le_refl _,fun _ _=>⟨Nat.le_refl _,fun _=>⟨rfl,rfl,rfl⟩⟩,fun _ _ _ hi hc=>⟨hc,hi⟩,Nat.le_refl _,Nat.le_refl _,fun _ _=>rfl,fun _ _ _=>by omega,fun _ _ h _ _=>h⟩
 ⟨⟨h.below.drew,h.N,h.NR,h.top,h.inj,fun l cs hl=>by
   obtain ⟨a1,a2,c,ty,a3,a4,a5,a6⟩:=h.box l cs hl
   exact ⟨a1,a2,c,ty,a3,a4,a5,fun i h1 h2=>(a6 i h1 h2).mono hx⟩,fun id x a=>(h.row id x a).keep hx rfl rfl rfl rfl rfl (h.row id x a).ne rfl,h.rowinj,h.loop.mono hx rfl fun _ _ h _=>h⟩,hx⟩
def Mem.newTop (M:Mem) (b k:Nat):Mem:={ M with top:=fun x=>if x=b then k else M.top x }
theorem ZlF (M':Mem) (o:Obj) (hN:M'.N=M.N∨M'.N=M.N+1) (hb:∀ l,l<M.N→M'.bx l=M.bx l) (hNR:M.NR≤M'.NR)
  (hr:∀ id,id<M.NR→M.fr id≤M'.fr id∧(M'.fr id=M.fr id→M'.blk id=M.blk id∧M'.cap id=M.cap id∧M'.rsz id=M.rsz id)) (ht:∀ b,b<w.heap.size→M.top b≤M'.top b) (hNL:M'.NL=M.NL:=by rfl) (hlb:M'.lb=M.lb:=by rfl) :
  Ext w0 M w M' (w.alloc o) :=
 ⟨by omega,hb,hNR,hr,fun b c v hi hc=>by
  have a:=World.block_lt_of_cell? w _ hc
  refine ⟨by rw [World.cell?_alloc_lt _ _ _ a];exact hc,?_⟩
  rcases hi with hi | hi
  ·
   exact .inl hi
  ·
   exact .inr (Nat.lt_of_lt_of_le hi (ht b a)),by simp,by omega,fun _ _=>by rw [hlb],fun _ _ _=>by omega,fun b o' h1 h2 _=>KeepsObj.alloc w o b o' h1 h2⟩
theorem Za1 (w:World) (o:Obj) {k:Nat} (h:k<w.heap.size):(w.alloc o).heap[k]? = w.heap[k]? := Below.heap_alloc w o k h
theorem RelSt.newTop (h:RelSt w0 M st w) (cs:Array Value) (ty:TypeId) (k:Nat) :
  RelSt w0 (M.newTop w.heap.size k) st (w.alloc (.cells cs ty))∧Ext w0 M w (M.newTop w.heap.size k) (w.alloc (.cells cs ty)):=by
 have tp:∀ b,b<w.heap.size→(M.newTop w.heap.size k).top b=M.top b:=fun b hb=>by simp [Mem.newTop];omega
 have hx:Ext w0 M w (M.newTop w.heap.size k) (w.alloc (.cells cs ty)) :=
  ZlF _ _ (.inl rfl) (fun _ _=>rfl) (Nat.le_refl _) (fun _ _=>⟨Nat.le_refl _,fun _=>⟨rfl,rfl,rfl⟩⟩) (fun b hb=>by rw [tp b hb];exact Nat.le_refl _)
 refine ⟨⟨h.below.alloc h.base_le _,h.N,h.NR,fun b hb=>?_,h.inj,fun l c hl=>?_,fun id x a=>(h.row id x a).keep hx rfl rfl rfl rfl (tp _ (h.row id x a).lt) (h.row id x a).ne (Za1 _ _ (h.row id x a).lt),h.rowinj,h.loop.mono hx rfl (KeepsObj.alloc _ _)⟩,hx⟩
 ·
  simp at hb
  have:(M.newTop w.heap.size k).top b=M.top b:=by simp [Mem.newTop];omega
  rw [this]
  exact h.top b (by omega)
 ·
  obtain ⟨a1,a2,c',e,a3,a4,a5,a6⟩:=h.box l c hl
  have d:=(Array.getElem?_eq_some_iff.1 a3).1
  exact ⟨a1,by rw [show (M.newTop w.heap.size k).bx l=M.bx l from rfl,tp _ d];exact a2,c',e,by rw [show (M.newTop w.heap.size k).bx l=M.bx l from rfl,Za1 _ _ d];exact a3,a4,a5,fun i h1 h2=>(a6 i h1 h2).mono hx⟩
theorem RelSt.later (h:RelSt w0 M st w) {w':World} (hb:Below w.heap.size w w') (b k:Nat) (hw:w.heap.size≤b) (hk:b<w'.heap.size∨k=0) :
  RelSt w0 (M.newTop b k) st w'∧Ext w0 M w (M.newTop b k) w':=by
 have tp:∀ x,x<w.heap.size→(M.newTop b k).top x=M.top x:=fun x hx=>by simp [Mem.newTop];omega
 have hh:∀ x,x<w.heap.size→w'.heap[x]? = w.heap[x]? := hb.block
 have f:KeepsObj w w':=fun x o h1 _=>(hh x (Array.getElem?_eq_some_iff.1 h1).1).trans h1
 have hx:Ext w0 M w (M.newTop b k) w' :=
  ⟨Nat.le_refl _,fun _ _=>rfl,Nat.le_refl _,fun _ _=>⟨Nat.le_refl _,fun _=>⟨rfl,rfl,rfl⟩⟩,fun x m v hi hc=>by
   have a:=World.block_lt_of_cell? w _ hc
   refine ⟨?_,hi.imp id fun q=>by rw [tp x a];exact q⟩
   unfold World.cell? at hc ⊢
   simp only [hh x a] at hc ⊢
   exact hc,hb.size,Nat.le_refl _,fun _ _=>rfl,fun _ h1 h2=>absurd h2 (Nat.not_lt.2 h1),fun x o h1 h2 _=>f x o h1 h2⟩
 refine ⟨⟨h.below.trans (hb.mono h.base_le),h.N,h.NR,fun x j=>?_,h.inj,fun l c hl=>?_,fun id x d=>(h.row id x d).keep hx rfl rfl rfl rfl (tp _ (h.row id x d).lt) (h.row id x d).ne (hh _ (h.row id x d).lt),h.rowinj,h.loop.mono hx rfl f⟩,hx⟩
 ·
  have:=hb.size
  by_cases c:x=b
  ·
   have e:(M.newTop b k).top x=k:=by simp [Mem.newTop,c]
   rw [e]
   rcases hk with hk | hk
   ·
    omega
   ·
    exact hk
  ·
   have e:(M.newTop b k).top x=M.top x:=by simp [Mem.newTop,c]
   rw [e]
   exact h.top x (by omega)
 ·
  obtain ⟨a1,a2,c',g,a3,a4,a5,a6⟩:=h.box l c hl
  have a:=(Array.getElem?_eq_some_iff.1 a3).1
  exact ⟨a1,by rw [show (M.newTop b k).bx l=M.bx l from rfl,tp _ a];exact a2,c',g,by rw [show (M.newTop b k).bx l=M.bx l from rfl,hh _ a];exact a3,a4,a5,fun i h1 h2=>(a6 i h1 h2).mono hx⟩
def Mem.newBox (M:Mem) (b:Nat):Mem:={ M with N:=M.N+1,bx:=fun l=>if l=M.N then b else M.bx l }
theorem RelSt.newBox (h:RelSt w0 M st w) (v:Value) (x:AV) (ty:TypeId) (hR:R w0 M w v x) (hn:ZbS x=true) :
  RelSt w0 (M.newBox w.heap.size) { st with boxes:=st.boxes++[x.cells] } (w.alloc (.cells v.cells ty))∧Ext w0 M w (M.newBox w.heap.size) (w.alloc (.cells v.cells ty)) ∧
   R w0 (M.newBox w.heap.size) (w.alloc (.cells v.cells ty)) (.pointer (some ⟨w.heap.size,0,none⟩)) (.box st.boxes.length 0):=by
 have d:∀ l,l<M.N→(M.newBox w.heap.size).bx l=M.bx l:=fun l hl=>by simp [Mem.newBox];omega
 have a:(M.newBox w.heap.size).bx M.N=w.heap.size:=by simp [Mem.newBox]
 have hx:Ext w0 M w (M.newBox w.heap.size) (w.alloc (.cells v.cells ty)) :=
  ZlF _ _ (.inr rfl) d (Nat.le_refl _) (fun _ _=>⟨Nat.le_refl _,fun _=>⟨rfl,rfl,rfl⟩⟩) (fun b hb=>Nat.le_refl _)
 have m:=hR.mono hx
 refine ⟨⟨h.below.alloc h.base_le _,by simp [Mem.newBox,h.N],h.NR,fun b hb=>h.top b (by simp at hb;omega),fun l l' hl f e=>?_,fun l c hl=>?_,fun id x j=>?_,h.rowinj,h.loop.mono hx rfl (KeepsObj.alloc _ _)⟩,hx,?_⟩
 ·
  have hN:(M.newBox w.heap.size).N=M.N+1:=rfl
  rw [hN] at hl f
  by_cases e1:l=M.N
  ·
   by_cases e2:l'=M.N
   ·
    omega
   ·
    subst e1
    rw [a,d l' (by omega)] at e
    have:=h.box_lt (l:=l') (by omega)
    omega
  ·
   by_cases e2:l'=M.N
   ·
    subst e2
    rw [a,d l (by omega)] at e
    have:=h.box_lt (l:=l) (by omega)
    omega
   ·
    rw [d l (by omega),d l' (by omega)] at e
    exact h.inj l l' (by omega) (by omega) e
 ·
  by_cases e1:l=M.N
  ·
   subst e1
   simp only [h.N,List.getElem?_concat_length,Option.some.injEq] at hl
   subst hl
   rw [a]
   obtain ⟨hs,hc⟩:=m.cells
   refine ⟨h.base_le,h.top _ (Nat.le_refl _),v.cells,ty,heap_alloc_new w _,hs,hR.cellsOne (fun vs e=>by subst e;cases hn),hc⟩
  ·
   have f:l<M.N:=by
    have:l<(st.boxes++[x.cells]).length:=(List.getElem?_eq_some_iff.1 hl).1
    have hN:=h.N
    simp at this
    omega
   rw [List.getElem?_append_left (by rw [←h.N];exact f)] at hl
   obtain ⟨a1,a2,c',k,a3,a4,a5,a6⟩:=h.box l c hl
   have g:=(Array.getElem?_eq_some_iff.1 a3).1
   rw [d l f]
   exact ⟨a1,a2,c',k,by rw [Za1 _ _ g];exact a3,a4,a5,fun i h1 h2=>(a6 i h1 h2).mono hx⟩
 ·
  have g:=(h.row id x j).lt
  refine (h.row id x j).keep hx rfl rfl rfl rfl rfl (fun l hl=>?_) (Za1 _ _ g)
  by_cases e1:l=M.N
  ·
   subst e1
   rw [a]
   show w.heap.size≠M.blk id
   omega
  ·
   have hN:(M.newBox w.heap.size).N=M.N+1:=rfl
   rw [d l (by omega)]
   exact (h.row id x j).ne l (by omega)
 ·
  have:=R.box (w0:=w0) (M:=M.newBox w.heap.size) (w:=w.alloc (.cells v.cells ty)) (l:=st.boxes.length) (off:=0) (by rw [←h.N];exact Nat.lt_succ_self _)
  rwa [←h.N,a,h.N] at this
theorem Zd5 {t:TypeId} {z:List AV} (h:ZeE P t=some z):∃ i v,P.info? t=some i∧i.zero=some v∧Zlt v=true∧v.cells.size=i.size∧z=(ZiV v).cells:=by
 unfold ZeE at h
 split at h
 ·
  rename_i i hi
  split at h
  ·
   rename_i v hv
   split at h
   ·
    rename_i hc
    simp only [Bool.and_eq_true,beq_iff_eq] at hc
    exact ⟨i,v,hi,hv,hc.1,hc.2,(Option.some.inj h).symm⟩
   ·
    cases h
  ·
   cases h
 ·
  cases h
theorem Zi8 {v:Value} (h:Zlt v=true):ZbS (ZiV v)=true:=by
 have hc:∀ u,ZbS (Zk9 u)=true:=fun u=>by unfold Zk9;split<;>rfl
 cases v<;>first | rfl | exact hc _
theorem Zxz (h:Rel w0 n M e st a w) (t:TypeId) (hob:(Zcl P e true st (.alloc t)).1) :
  Yields' P w0 M (Zcl P e true st (.alloc t)).2.2 (Zcl P e true st (.alloc t)).2.1 w (do pure (.value (← Instr.alloc t true (.tuple #[])))):=by
 unfold Zcl at hob ⊢
 cases hz:ZeE P t with
 | none=>simp [hz] at hob
 | some z =>
  simp only [hz]
  obtain ⟨i,v,hi,hv,hc,hs,rfl⟩:=Zd5 hz
  obtain ⟨h1,h2,h3⟩:=h.st.newBox v (ZiV v) t (ZnG hc) (Zi8 hc)
  refine .value ⟨_,_,_,?_,h2,h1,h3⟩
  simp [Instr.alloc,zeroValue,typeInfo,hi,hv,newVar,newRow]
theorem ZBI (h:Rel w0 n M e st a w) (t:TypeId) (x:Operand) (hob:(Zcl P e true st (.box t x)).1) :
  Yields' P w0 M (Zcl P e true st (.box t x)).2.2 (Zcl P e true st (.box t x)).2.1 w (do pure (.value (← Instr.box t (a.eval x)))):=by
 obtain ⟨_,hx,hn⟩:=hob
 obtain ⟨h1,h2,h3⟩:=h.st.newBox (a.eval x) (Zav e x) t (Zbv h hx) hn
 refine .value ⟨_,_,_,?_,h2,h1,h3⟩
 simp [Instr.box,newVar,newRow]
theorem Zro (vs:List Value):∀ (k:Nat) (cs:Array Value) (off:Nat),off+k+vs.length≤cs.size →
  ((vs.zipIdx k).foldl (fun cs (x:Value × Nat)=>cs.setIfInBounds (off+x.2) x.1) cs).size=cs.size ∧
  ∀ j,((vs.zipIdx k).foldl (fun cs (x:Value × Nat)=>cs.setIfInBounds (off+x.2) x.1) cs)[j]? = if off+k≤j∧j<off+k+vs.length then vs[j-(off+k)]? else cs[j]? := by
 induction vs with
 | nil=>intro k cs off h;exact ⟨rfl,fun j=>by simp;omega⟩
 | cons v vs ih =>
  intro k cs off h
  simp only [List.length_cons] at h
  simp only [List.zipIdx_cons,List.foldl_cons,List.length_cons]
  obtain ⟨i1,i2⟩:=ih (k+1) (cs.setIfInBounds (off+k) v) off (by simp;omega)
  refine ⟨by rw [i1];simp,fun j=>?_⟩
  rw [i2 j]
  by_cases c1:off+(k+1)≤j∧j<off+(k+1)+vs.length
  ·
   rw [if_pos c1,if_pos (by omega),show j-(off+k)=(j-(off+(k+1)))+1 from by omega]
   simp
  ·
   rw [if_neg c1]
   by_cases c2:j=off+k
   ·
    subst c2
    have a:off+k<cs.size:=by omega
    rw [if_pos (by omega)]
    simp [a]
   ·
    rw [if_neg (by omega),Array.getElem?_setIfInBounds_ne (by omega)]
theorem Zir {l xs:List AV} {off:Nat} (h:off+xs.length≤l.length):(Zc9 l off xs).length=l.length:=by
 simp [Zc9];omega
theorem Zul {l xs:List AV} {off:Nat} (h:off+xs.length≤l.length) (j:Nat):(Zc9 l off xs)[j]? = if off≤j∧j<off+xs.length then xs[j-off]? else l[j]? := by
 unfold Zc9
 rw [List.append_assoc,List.getElem?_append]
 simp only [List.length_take]
 have e:min off l.length=off:=by omega
 rw [e]
 by_cases c1:j<off
 ·
  rw [if_pos c1,if_neg (by omega),List.getElem?_take,if_pos c1]
 ·
  rw [if_neg c1,List.getElem?_append]
  by_cases c2:j-off<xs.length
  ·
   rw [if_pos c2,if_pos (by omega)]
  ·
   rw [if_neg c2,if_neg (by omega),List.getElem?_drop]
   congr 1
   omega
theorem ZlP {l xs:List AV} {off:Nat} (h1:∀ x∈l,x.one=true) (h2:∀ x∈xs,x.one=true):∀ x∈Zc9 l off xs,x.one=true:=by
 intro x hx
 simp only [Zc9,List.mem_append] at hx
 rcases hx with (hx | hx) | hx
 ·
  exact h1 x (List.mem_of_mem_take hx)
 ·
  exact h2 x hx
 ·
  exact h1 x (List.mem_of_mem_drop hx)
def RowR (w0:World) (M:Mem) (w:World) (cs:Array Value) (l:List AV):Prop:=cs.size=l.length∧∀ i (h1:i<cs.size) (h2:i<l.length),R w0 M w cs[i] l[i]
theorem RowR.get {cs:Array Value} {l:List AV} (h:RowR w0 M w cs l) {i:Nat} {v:Value} {x:AV} (hv:cs[i]? = some v) (hx:l[i]? = some x):R w0 M w v x:=by
 obtain ⟨a1,rfl⟩:=Array.getElem?_eq_some_iff.1 hv
 obtain ⟨a2,rfl⟩:=List.getElem?_eq_some_iff.1 hx
 exact h.2 i a1 a2
theorem RowR.mk {cs:Array Value} {l:List AV} (hs:cs.size=l.length) (h:∀ (i:Nat) (v:Value) (x:AV),cs[i]? = some v→l[i]? = some x→R w0 M w v x):RowR w0 M w cs l :=
 ⟨hs,fun i h1 h2=>h i _ _ (Array.getElem?_eq_getElem h1) (List.getElem?_eq_getElem h2)⟩
theorem RowR.put {cs cs':Array Value} {l:List AV} (h:RowR w0 M w cs l) {v:Value} {x:AV} (hR:R w0 M w v x) {off:Nat} (hoff:off+x.cells.length≤l.length) (hs:cs'.size=cs.size)
  (hg:∀ j,cs'[j]? = if off≤j∧j<off+v.cells.toList.length then v.cells.toList[j-off]? else cs[j]?):RowR w0 M w cs' (Zc9 l off x.cells):=by
 obtain ⟨c1,c2⟩:=hR.cells
 refine .mk (by rw [hs,Zir hoff];exact h.1) (fun i u y hu hy=>?_)
 rw [hg i] at hu
 rw [Zul hoff] at hy
 simp only [Array.length_toList] at hu
 rw [←c1] at hy
 by_cases c:off≤i∧i<off+v.cells.size
 ·
  rw [if_pos c] at hu hy
  rw [Array.getElem?_toList] at hu
  exact RowR.get ⟨c1,c2⟩ hu hy
 ·
  rw [if_neg c] at hu hy
  exact h.get hu hy
theorem ZrS (t:TypeId) (pl:Nat→Option (Nat × Nat)) (hpl:∀ i o s,ZiO P t i=some (o,s)→pl i=some (o,s)) :
  ∀ (vs:List (Nat × Value)) (xs:List (Nat × AV)) (cs:Array Value) (l:List AV),vs.length=xs.length→(∀ (k:Nat) (p:Nat × Value) (q:Nat × AV),vs[k]? = some p→xs[k]? = some q→p.1=q.1∧R w0 M w p.2 q.2∧ZbS q.2=true) →
   RowR w0 M w cs l→(∀ y∈l,y.one=true)→Zmh P t l.length xs→∃ cs',Instr.fill pl cs vs=some cs'∧RowR w0 M w cs' (Zpj P t l xs)∧(∀ y∈Zpj P t l xs,y.one=true)
 | [],[],cs,l,_,_,h,h1,_=>⟨cs,rfl,h,h1⟩
 | [],_::_,_,_,hl,_,_,_,_=>by cases hl
 | _::_,[],_,_,hl,_,_,_,_=>by cases hl
 | (i,v)::vs,(i',x)::xs,cs,l,hl,hp,h,h1,hf=>by
  obtain ⟨rfl,hR,hn⟩:=hp 0 _ _ rfl rfl
  simp only at hR hn
  simp only [Zmh] at hf
  obtain ⟨a,g⟩:=hf
  simp only [Instr.fill,Zpj]
  cases hpp:ZiO P t i with
  | none=>simp [hpp] at a
  | some p =>
   obtain ⟨o,s⟩:=p
   simp only [hpp] at a ⊢
   obtain ⟨a1,a2⟩:=a
   obtain ⟨c1,c2⟩:=hR.cells
   rw [hpl i o s hpp]
   have e1:(decide (v.cells.size≠s)||decide (o+v.cells.size > cs.size))=false:=by have:=h.1;simp;omega
   simp only [e1,Bool.false_eq_true,if_false]
   have b:=Zro v.cells.toList 0 cs o (by simp;have:=h.1;omega)
   have d:(v.cells.zipIdx.foldl (fun cs (c,j)=>cs.setIfInBounds (o+j) c) cs)=(v.cells.toList.zipIdx 0).foldl (fun cs (x:Value × Nat)=>cs.setIfInBounds (o+x.2) x.1) cs:=by
    rw [←Array.foldl_toList]
    simp
   rw [d]
   simp only [Nat.add_zero] at b
   have f:=h.put hR (off:=o) (by omega) b.1 b.2
   refine ZrS t pl hpl vs xs _ _ (by simpa using hl) (fun k p q hk hq=>hp (k+1) p q (by simpa using hk) (by simpa using hq)) f (ZlP h1 (hR.cellsOne (fun vs e=>by subst e;cases hn))) ?_
   rw [Zir (by omega)]
   exact g
theorem Zsz {α β:Type} (f:α→Sem β) (g:α→β):∀ (l:List α),(∀ x∈l,∀ w,(f x).run P w = .ok (g x) w)→∀ w,(l.mapM f).run P w = .ok (l.map g) w
 | [],_,w=>by simp
 | x::l,h,w=>by simp [h x (by simp),Zsz f g l (fun y hy=>h y (by simp [hy])) w]
theorem ZuZ {α β:Type} (f:α→Sem β) (g:α→β) (xs:Array α) (h:∀ x∈xs.toList,∀ w,(f x).run P w = .ok (g x) w) (w:World):(xs.mapM f).run P w = .ok (xs.map g) w:=by
 rw [Array.mapM_eq_mapM_toList]
 simp only [Sem.run_map,Zsz f g xs.toList h w,Result.andThen_ok]
 congr 1
 apply Array.ext'
 simp
theorem ZkG:∀ (fs:List Field) (l:List (Nat × Nat)),Zmv P fs=some l →
  l=fs.map (fun f=>(f.offset,P.cellsOf f.type))∧∀ f∈fs,∀ w,(sizeOf f.type).run P w = .ok (P.cellsOf f.type) w
 | [],l,h=>by cases h;exact ⟨rfl,fun f hf=>by cases hf⟩
 | f::fs,l,h=>by
  simp only [Zmv] at h
  split at h
  ·
   rename_i i r hi hr
   cases h
   obtain ⟨e1,e2⟩:=ZkG fs r hr
   have hc:P.cellsOf f.type=i.size:=by simp [Program.cellsOf,hi]
   refine ⟨by simp [hc,←e1],fun g hg w=>?_⟩
   rcases List.mem_cons.1 hg with rfl | hg
   ·
    simp [sizeOf,typeInfo,hi,hc]
   ·
    exact e2 g hg w
  ·
   cases h
theorem ZwW (h:Rel w0 n M e st a w) (t:TypeId) (ps:Array (Nat × Operand)) (hob:(Zcl P e true st (.build t ps)).1) :
  Yields' P w0 M (Zcl P e true st (.build t ps)).2.2 (Zcl P e true st (.build t ps)).2.1 w (do pure (.value (← Instr.build t (ps.map fun (i,x)=>(i,a.eval x))))):=by
 unfold Zcl at hob ⊢
 cases hz:ZeE P t with
 | none=>simp [hz] at hob
 | some z =>
  simp only [hz] at hob ⊢
  obtain ⟨aa,u,hf⟩:=hob
  obtain ⟨i,v,hi,hv,hc,hs,rfl⟩:=Zd5 hz
  have y:R w0 M w v (ZiV v):=ZnG hc
  have g:RowR w0 M w v.cells (ZiV v).cells:=y.cells
  have d:=y.cellsOne (fun vs e=>by have:=Zi8 hc;rw [e] at this;cases this)
  have c:∀ (k:Nat) (p:Nat × Value) (q:Nat × AV),((ps.map fun (i,x)=>(i,a.eval x)).toList)[k]? = some p→(ps.toList.map fun p=>(p.1,Zav e p.2))[k]? = some q→p.1=q.1∧R w0 M w p.2 q.2∧ZbS q.2=true:=by
   intro k p q hp hq
   simp only [Array.toList_map,List.getElem?_map,Option.map_eq_some_iff] at hp hq
   obtain ⟨p0,h1,rfl⟩:=hp
   obtain ⟨q0,h2,rfl⟩:=hq
   rw [h1] at h2
   cases h2
   have hm:p0∈ps.toList:=List.mem_of_getElem? h1
   exact ⟨rfl,Zbv h (u p0 hm).1,(u p0 hm).2⟩
  have j:((ps.map fun (i,x)=>(i,a.eval x)).toList).length=(ps.toList.map fun p=>(p.1,Zav e p.2)).length:=by simp
  cases hpp:ZeS P t with
  | some l =>
   unfold ZeS at hpp
   split at hpp
   ·
    rename_i fs hu
    obtain ⟨e1,e2⟩:=ZkG _ _ hpp
    have b:∀ i o s,ZiO P t i=some (o,s)→((fs.map fun f=>(f.offset,P.cellsOf f.type))[·]?) i=some (o,s):=by
     intro i o s hp
     simp only [ZiO,ZeS,hu,hpp] at hp
     rw [e1] at hp
     simpa using hp
    obtain ⟨r,f1,f2,f3⟩:=ZrS t _ b _ _ v.cells _ j c g d hf
    refine .here h.st (v := .agg r) ?_ (.agg f2.1 f3 f2.2)
    have hm:=ZuZ (P:=P) (fun (f:Field)=>(do pure (f.offset,←sizeOf f.type):Sem (Nat × Nat))) (fun f=>(f.offset,P.cellsOf f.type)) fs (fun f hf w=>by simp [e2 f hf]) w
    simp only [Instr.build,zeroValue,typeInfo,Sem.run_bind,run_program,Result.andThen_ok,hi,hv,Sem.run_pure,run_underlying hu,hm,f1]
   ·
    cases hpp
  | none =>
   cases ha:ZvM P t with
   | none=>simp [hpp,ha] at aa
   | some p =>
    obtain ⟨m,s,ag⟩:=p
    obtain ⟨el,hu,ab⟩:=Zm3 ha
    have b:∀ i o s',ZiO P t i=some (o,s')→(fun i=>some (i*s,s)) i=some (o,s'):=by
     intro i o s' hp
     simpa [ZiO,hpp,ha] using hp
    obtain ⟨r,f1,f2,f3⟩:=ZrS t _ b _ _ v.cells _ j c g d hf
    refine .here h.st (v := .agg r) ?_ (.agg f2.1 f3 f2.2)
    simp only [Instr.build,zeroValue,typeInfo,Sem.run_bind,run_program,Result.andThen_ok,hi,hv,Sem.run_pure,run_underlying hu,Zbk ab,f1]
theorem Zpy (sz:Nat):∀ (vals:List Value) (k:Nat) (cs:Array Value),(∀ v∈vals,v.cells.size=sz)→(k+vals.length)*sz≤cs.size →
  ∃ cs',Instr.fill (fun i=>some (i*sz,sz)) cs ((vals.zipIdx k).map fun x=>(x.2,x.1))=some cs'∧cs'.size=cs.size∧(∀ j,j<k*sz→cs'[j]? = cs[j]?) ∧
   ∀ i v,vals[i]? = some v→∀ j,j<sz→cs'[(k+i)*sz+j]? = v.cells[j]?
 | [],k,cs,_,_=>⟨cs,rfl,rfl,fun _ _=>rfl,fun i v h=>by simp at h⟩
 | v::vals,k,cs,hv,hl=>by
  have h0:=hv v (by simp)
  simp only [List.length_cons] at hl
  have d:(k+1)*sz≤cs.size:=Nat.le_trans (Nat.mul_le_mul_right _ (by omega)) hl
  rw [Nat.succ_mul] at d
  simp only [List.zipIdx_cons,List.map_cons,Instr.fill]
  have e1:(decide (v.cells.size≠sz)||decide (k*sz+v.cells.size > cs.size))=false:=by simp;omega
  simp only [e1,Bool.false_eq_true,if_false]
  have b:(v.cells.zipIdx.foldl (fun cs (c,j)=>cs.setIfInBounds (k*sz+j) c) cs)=(v.cells.toList.zipIdx 0).foldl (fun cs (x:Value × Nat)=>cs.setIfInBounds (k*sz+x.2) x.1) cs:=by
   rw [←Array.foldl_toList]
   simp
  have a:=Zro v.cells.toList 0 cs (k*sz) (by simp;omega)
  rw [b]
  simp only [Nat.add_zero,Array.length_toList,h0] at a
  obtain ⟨cs',a1,a2,a3,a4⟩:=Zpy sz vals (k+1) ((v.cells.toList.zipIdx 0).foldl (fun cs (x:Value × Nat)=>cs.setIfInBounds (k*sz+x.2) x.1) cs) (fun u hu=>hv u (by simp [hu])) (by rw [a.1];rw [show k+1+vals.length=k+(vals.length+1) from by omega];exact hl)
  refine ⟨cs',a1,by rw [a2,a.1],fun j hj=>?_,fun i u hu j hj=>?_⟩
  ·
   rw [a3 j (by rw [Nat.succ_mul];omega),a.2 j,if_neg (by omega)]
  ·
   cases i with
   | zero =>
    simp only [List.getElem?_cons_zero,Option.some.injEq] at hu
    subst hu
    simp only [Nat.add_zero]
    rw [a3 _ (by rw [Nat.succ_mul];omega),a.2,if_pos (by omega),Array.getElem?_toList]
    congr 1
    omega
   | succ i =>
    have:=a4 i u (by simpa using hu) j hj
    rw [←this,show k+(i+1)=k+1+i from by omega]
theorem Zrs {ps:List (Nat × Operand)} {m:Nat} (h:ps.map (·.1)=List.range m) (f:Operand→Value) :
  (ps.map fun p=>(p.1,f p.2))=((ps.map fun p=>f p.2).zipIdx 0).map fun x=>(x.2,x.1):=by
 have hl:ps.length=m:=by simpa using congrArg List.length h
 apply List.ext_getElem?
 intro i
 simp only [List.getElem?_map,List.getElem?_zipIdx]
 cases hp:ps[i]? with
 | none=>simp
 | some p =>
  have hi:i<m:=by rw [←hl];exact (List.getElem?_eq_some_iff.1 hp).1
  have:=congrArg (·[i]?) h
  simp [hp,hi] at this
  simp [this]
theorem R.row {cs:Array Value} {ty:TypeId} {xs:List AV} {sz k:Nat} (us:Nat→Value) (hu:∀ i (hi:i<xs.length),(us i).cells.size=sz∧R w0 M w (us i) xs[i])
  (hc:∀ i,i<xs.length→∀ j,j<sz→cs[i*sz+j]? = (us i).cells[j]?) {cap:Nat} (hcap:xs.length≤cap) (hm:cap≤maxLen) {o:Own} (hk:xs.length*sz≤k) (M':Mem) (hM:M'.top w.heap.size=k)
  (hx:Ext w0 M w M' (w.alloc (.cells cs ty))) (ho:ZAr M' w.heap.size 0 cap xs.length sz o) :
  R w0 M' (w.alloc (.cells cs ty)) (.slice (some ⟨w.heap.size,0,none⟩) xs.length cap) (.list xs o):=by
 refine .list sz us hcap hm (fun i hi=>⟨(hu i hi).1,fun j hj=>⟨.inr ?_,?_⟩⟩) (fun i hi=>((hu i hi).2).mono hx) ho
 ·
  rw [hM]
  have:(i+1)*sz≤xs.length*sz:=Nat.mul_le_mul_right _ hi
  rw [Nat.succ_mul] at this
  omega
 ·
  rw [Nat.zero_add,World.cell?_alloc_new]
  exact hc i hi j hj
theorem ZpM (h:Rel w0 n M e st a w) (t:TypeId) (m:Nat) (ps:Array (Nat × Operand)) (hmk:Zhx e t=false) (hob:(Zcl P e true st (.buildSlice t m ps)).1) :
  Yields' P w0 M (Zcl P e true st (.buildSlice t m ps)).2.2 (Zcl P e true st (.buildSlice t m ps)).2.1 w (do pure (.value (← Instr.buildSlice t m (ps.map fun (i,x)=>(i,a.eval x))))):=by
 unfold Zcl at hob ⊢
 cases he:elT P t with
 | none=>simp [he] at hob
 | some p =>
  obtain ⟨el,sz,ag,af⟩:=p
  simp only [he,hmk] at hob ⊢
  obtain ⟨s,hr,ae,y,hz,ab⟩:=hob
  obtain ⟨i,hu,hi,_,l⟩:=Zfk he
  obtain ⟨z,ad⟩:=Option.isSome_iff_exists.1 hz
  obtain ⟨i',v,aa,hv,hc,hs,rfl⟩:=Zd5 ad
  have hl:ps.toList.length=m:=by simpa using congrArg List.length hr
  have c:∀ p∈ps.toList,(a.eval p.2).cells.size=sz:=fun p hp=>by
   rw [(Zbv h (s p hp)).cells.1]
   exact ab _ (List.mem_map.2 ⟨p,hp,rfl⟩)
  obtain ⟨zc,hzc⟩:∃ zc:Array Value,if m*sz=0 then zc = #[] else zc=v.cells:=by
   by_cases h0:m*sz=0
   ·
    exact ⟨#[],by rw [if_pos h0]⟩
   ·
    exact ⟨v.cells,by rw [if_neg h0]⟩
  obtain ⟨g,a1,a2,a3,a4⟩:=Zpy sz (ps.toList.map fun p=>a.eval p.2) 0 ((Array.range (m*sz)).map (zc[· % zc.size]!)) (fun u hu=>by obtain ⟨p,hp,rfl⟩:=List.mem_map.1 hu;exact c p hp) (by simp [hl])
  obtain ⟨r,hx⟩:=h.st.newTop g el (m*sz)
  have b:((ps.toList.map fun p=>Zav e p.2).map AV.pub).length=m:=by simp [←hl]
  have f:=R.row (us:=fun i=>((ps.toList.map fun p=>a.eval p.2).getD i undef)) (xs:=(ps.toList.map fun p=>Zav e p.2).map AV.pub) (cs:=g) (ty:=el) (sz:=sz) (k:=m*sz) (cap:=m) (o := .full) ?hu ?hc (by rw [b];exact Nat.le_refl _) ?hm (by rw [b];exact Nat.le_refl _) (M.newTop w.heap.size (m*sz)) (by simp [Mem.newTop]) hx b
  case hu =>
   intro k hk
   have d:k<ps.toList.length:=by simpa using hk
   have e1:(ps.toList.map fun p=>a.eval p.2).getD k undef=a.eval (ps.toList[k]).2:=by simp [List.getD,List.getElem?_eq_getElem d]
   rw [e1]
   refine ⟨c _ (List.getElem_mem _),?_⟩
   simp only [List.getElem_map]
   exact (Zbv h (s _ (List.getElem_mem _))).pub
  case hc =>
   intro k hk j hj
   have d:k<ps.toList.length:=by simpa using hk
   have:=a4 k (a.eval (ps.toList[k]).2) (by simp [List.getElem?_eq_getElem d]) j hj
   rw [Nat.zero_add] at this
   rw [this]
   simp [List.getD,List.getElem?_eq_getElem d]
  case hm =>
   have:m*1≤m*sz:=Nat.mul_le_mul_left _ y
   simp [maxLen]
   omega
  rw [b] at f
  refine .value ⟨_,_,_,?_,hx,r,f⟩
  have e0:¬ (m*sz > 2 ^ 24):=by omega
  have q:(ps.map fun (i,x)=>(i,a.eval x)).toList=((ps.toList.map fun p=>a.eval p.2).zipIdx 0).map fun x=>(x.2,x.1):=by
   rw [Array.toList_map]
   exact Zrs hr a.eval
  by_cases h0:m*sz=0
  ·
   rw [if_pos h0] at hzc
   subst hzc
   simp only [Instr.buildSlice,Sem.run_bind,run_underlying hu,Result.andThen_ok,Zbk l,if_neg e0,if_pos h0,Sem.run_pure,q,a1,newRow,run_newObj]
   rfl
  ·
   rw [if_neg h0] at hzc
   subst hzc
   simp only [Instr.buildSlice,Sem.run_bind,run_underlying hu,Result.andThen_ok,Zbk l,if_neg e0,if_neg h0,Sem.run_pure,zeroValue,typeInfo,run_program,aa,hv,q,a1,newRow,run_newObj]
   rfl
theorem Below.setRow {B:Nat} {x y:World} (h:Below B x y) {g:Nat} (hg:B≤g) (cs:Array Value):Below B x (y.setRow g cs) :=
 h.trans ⟨rfl,rfl,rfl,by simp,fun k hk=>setRow_other y g k cs (by omega)⟩
theorem KeepsObj.setRow {g:Nat} {c:Array Value} {ty:TypeId} (hg:w.heap[g]? = some (.cells c ty (0,0))) (c':Array Value):KeepsObj w (w.setRow g c'):=by
 intro b o h1 h2
 by_cases q:b=g
 ·
  subst q;rw [hg] at h1;cases h1;cases h2
 ·
  rw [setRow_other w g b c' q];exact h1
theorem ZhQ (M':Mem) (hN:M'.N=M.N) (hb:∀ l,l<M.N→M'.bx l=M.bx l) (hNR:M'.NR=M.NR)
  (hr:∀ id,id<M.NR→M.fr id≤M'.fr id∧(M'.fr id=M.fr id→M'.blk id=M.blk id∧M'.cap id=M.cap id∧M'.rsz id=M.rsz id)) (ht:∀ b,M.top b≤M'.top b)
  {g:Nat} {c c':Array Value} {ty:TypeId} (hg:w.heap[g]? = some (.cells c ty (0,0))) (hg0:w0.heap.size≤g) (hkeep:∀ j,j<M.top g→c'[j]? = c[j]?) (hNL:M'.NL=M.NL:=by rfl) (hlb:M'.lb=M.lb:=by rfl) :
  Ext w0 M w M' (w.setRow g c') :=
 ⟨by omega,hb,by omega,hr,fun b a v hi hc=>by
  refine ⟨?_,hi.imp id (fun q=>Nat.lt_of_lt_of_le q (ht b))⟩
  by_cases hbg:b=g
  ·
   subst hbg
   have h0:a<M.top b:=hi.resolve_left (by omega)
   rw [cell_of_row w b a c ty _ hg] at hc
   rw [cell_of_row _ b a c' ty _ (setRow_heap w b c c' ty _ hg),hkeep a h0]
   exact hc
  ·
   rw [cell_setRow_other w g c' ⟨b,a,none⟩ hbg]
   exact hc,by simp,by omega,fun _ _=>by rw [hlb],fun _ _ _=>by omega,fun b o h1 h2 _=>KeepsObj.setRow hg c' b o h1 h2⟩
theorem Zxt (h:Rel w0 n M e st a w) (t:TypeId) (x v:Operand) (hob:(Zcl P e true st (.store t x v)).1) :
  Yields' P w0 M (Zcl P e true st (.store t x v)).2.2 (Zcl P e true st (.store t x v)).2.1 w (do Instr.storeAt t (a.eval x) (a.eval v);pure .skip):=by
 unfold Zcl at hob ⊢
 cases ht:tyT P t with
 | none=>simp [ht] at hob
 | some p =>
  obtain ⟨sz,ag⟩:=p
  simp only [ht] at hob ⊢
  obtain ⟨_,hx,hv,hbx,hr,hn,hl,hle⟩:=hob
  have hRx:=Zbv h hx
  have g:=Zbv h hv
  generalize Zav e x=X at hRx hbx hr hle ⊢
  generalize a.eval x=vx at hRx ⊢
  cases X with
  | box l off =>
   cases hRx with
   | box hlN =>
    have am:l<st.boxes.length:=by simpa [Zds] using hr
    obtain ⟨cs,hcs⟩:∃ cs,st.boxes[l]? = some cs:=⟨_,List.getElem?_eq_getElem am⟩
    have ak:st.boxes.getD l []=cs:=by simp [List.getD,hcs]
    obtain ⟨b1,b2,c,ty,b3,b4,b5,b6⟩:=h.st.box l cs hcs
    simp only [Za7,Zfb,ak] at hle
    simp only [Zqf,ak]
    obtain ⟨v1,v2⟩:=g.cells
    have v3:=g.cellsOne (fun vs e=>by rw [e] at hn;cases hn)
    have o:∀ u∈(a.eval v).cells.toList,u.oneCell'=true:=by
     intro u hu
     obtain ⟨k,hk,rfl⟩:=List.getElem_of_mem hu
     simp only [Array.length_toList] at hk
     rw [Array.getElem_toList]
     exact (v2 k hk (by omega)).oneCell (v3 _ (List.getElem_mem _))
    have hst:=run_storeCells_at P (M.bx l) off ty (a.eval v).cells.toList 0 c w b3 (by simp;omega) o
    simp only [Nat.add_zero] at hst
    generalize hc':(c.toList.take off++(a.eval v).cells.toList++c.toList.drop (off+(a.eval v).cells.toList.length)).toArray=c' at hst
    have z:c'.size=c.size:=by rw [←hc'];simp;omega
    have r:∀ j,c'[j]? = if off≤j∧j<off+(a.eval v).cells.toList.length then (a.eval v).cells.toList[j-off]? else c[j]? := by
     intro j
     rw [←hc',List.getElem?_toArray,List.append_assoc,List.getElem?_append]
     simp only [List.length_take,Array.length_toList]
     have e:min off c.size=off:=by omega
     rw [e]
     by_cases c1:j<off
     ·
      rw [if_pos c1,if_neg (by omega),List.getElem?_take,if_pos c1,Array.getElem?_toList]
     ·
      rw [if_neg c1,List.getElem?_append]
      simp only [Array.length_toList]
      by_cases c2:j-off<(a.eval v).cells.size
      ·
       rw [if_pos c2,if_pos (by omega)]
      ·
       rw [if_neg c2,if_neg (by omega),List.getElem?_drop,Array.getElem?_toList]
       congr 1
       omega
    have hx:Ext w0 M w M (w.setRow (M.bx l) c'):=ZhQ M rfl (fun _ _=>rfl) rfl (fun _ _=>⟨Nat.le_refl _,fun _=>⟨rfl,rfl,rfl⟩⟩) (fun _=>Nat.le_refl _) b3 b1 (fun j hj=>by rw [b2] at hj;omega)
    have f:RowR w0 M w c' (Zc9 cs off (Zav e v).cells):=RowR.put ⟨b4,b6⟩ g (by omega) z r
    refine ⟨undef,_,M,.inr ⟨?_,rfl⟩,hx,⟨Below.setRow h.st.below b1 _,by simp [h.st.N],h.st.NR,fun b hb=>h.st.top b (by simpa using hb),h.st.inj,fun l' ae hl'=>?_,fun id x m=>(h.st.row id x m).keep hx rfl rfl rfl rfl rfl (h.st.row id x m).ne (setRow_other w _ _ _ (Ne.symm ((h.st.row id x m).ne l hlN))),h.st.rowinj,h.st.loop.mono hx rfl (KeepsObj.setRow b3 _)⟩,Zwf⟩
    ·
     have e0:¬ ((a.eval v).cells.size≠sz):=by omega
     simp only [Instr.storeAt,Instr.sureAddr,Sem.run_bind,Sem.run_pure,Result.andThen_ok,storeVar,Zbk ht,if_neg e0,hst]
    ·
     by_cases ell:l'=l
     ·
      subst ell
      rw [List.getElem?_set_self am] at hl'
      cases hl'
      exact ⟨b1,b2,c',ty,setRow_heap w _ c c' ty _ b3,f.1,ZlP b5 v3,fun i h1 h2=>(f.2 i h1 h2).mono hx⟩
     ·
      rw [List.getElem?_set_ne (Ne.symm ell)] at hl'
      obtain ⟨d1,d2,d,aa,d3,d4,d5,d6⟩:=h.st.box l' ae hl'
      have y:l'<M.N:=by rw [h.st.N];exact (List.getElem?_eq_some_iff.1 hl').1
      have ab:M.bx l'≠M.bx l:=fun q=>ell (h.st.inj l' l y hlN q)
      exact ⟨d1,d2,d,aa,by rw [setRow_other w _ _ _ ab];exact d3,d4,d5,fun i h1 h2=>(d6 i h1 h2).mono hx⟩
  | vel id ver off =>
   cases hRx with
   | @vel _ _ _ ad m hver hh =>
    obtain ⟨ap,cs,ah⟩:=Znz (show (Zj0 st.rows id ver).isSome=true from hr)
    have f:=Zfl ah
    obtain ⟨f1,f2,b1,b2,f5,f6,f7,c,ty,b3,b4,aq,b5,b6⟩:=h.st.row id _ f
    have had:=hh f1.symm
    subst had
    simp only [Za7,Zfb,ah] at hle
    simp only [Zqf,ah]
    obtain ⟨v1,v2⟩:=g.cells
    have v3:=g.cellsOne (fun vs e=>by rw [e] at hn;cases hn)
    have o:∀ u∈(a.eval v).cells.toList,u.oneCell'=true:=by
     intro u hu
     obtain ⟨k,hk,rfl⟩:=List.getElem_of_mem hu
     simp only [Array.length_toList] at hk
     rw [Array.getElem_toList]
     exact (v2 k hk (by omega)).oneCell (v3 _ (List.getElem_mem _))
    have hst:=run_storeCells_at P (M.blk id) off ty (a.eval v).cells.toList 0 c w b3 (by simp;omega) o
    simp only [Nat.add_zero] at hst
    generalize hc':(c.toList.take off++(a.eval v).cells.toList++c.toList.drop (off+(a.eval v).cells.toList.length)).toArray=c' at hst
    have z:c'.size=c.size:=by rw [←hc'];simp;omega
    have r:∀ j,c'[j]? = if off≤j∧j<off+(a.eval v).cells.toList.length then (a.eval v).cells.toList[j-off]? else c[j]? := by
     intro j
     rw [←hc',List.getElem?_toArray,List.append_assoc,List.getElem?_append]
     simp only [List.length_take,Array.length_toList]
     have e:min off c.size=off:=by omega
     rw [e]
     by_cases c1:j<off
     ·
      rw [if_pos c1,if_neg (by omega),List.getElem?_take,if_pos c1,Array.getElem?_toList]
     ·
      rw [if_neg c1,List.getElem?_append]
      simp only [Array.length_toList]
      by_cases c2:j-off<(a.eval v).cells.size
      ·
       rw [if_pos c2,if_pos (by omega)]
      ·
       rw [if_neg c2,if_neg (by omega),List.getElem?_drop,Array.getElem?_toList]
       congr 1
       omega
    have hx:Ext w0 M w M (w.setRow (M.blk id) c'):=ZhQ M rfl (fun _ _=>rfl) rfl (fun _ _=>⟨Nat.le_refl _,fun _=>⟨rfl,rfl,rfl⟩⟩) (fun _=>Nat.le_refl _) b3 b1 (fun j hj=>by rw [b2] at hj;omega)
    have aj:id<st.rows.length:=(List.getElem?_eq_some_iff.1 f).1
    have ar:=Zir (l:=cs) (xs:=(Zav e v).cells) (off:=off) (by omega)
    refine ⟨undef,_,M,.inr ⟨?_,rfl⟩,hx,⟨Below.setRow h.st.below b1 _,h.st.N,by simp [h.st.NR],fun b hb=>h.st.top b (by simpa using hb),h.st.inj,fun l' ae hl'=>?_,fun s x hid'=>?_,h.st.rowinj,h.st.loop.mono hx rfl (KeepsObj.setRow b3 _)⟩,Zwf⟩
    ·
     have e0:¬ ((a.eval v).cells.size≠sz):=by omega
     simp only [Instr.storeAt,Instr.sureAddr,Sem.run_bind,Sem.run_pure,Result.andThen_ok,storeVar,Zbk ht,if_neg e0,hst]
    ·
     obtain ⟨d1,d2,d,aa,d3,d4,d5,d6⟩:=h.st.box l' ae hl'
     have y:l'<M.N:=by rw [h.st.N];exact (List.getElem?_eq_some_iff.1 hl').1
     exact ⟨d1,d2,d,aa,by rw [setRow_other w _ _ _ (f5 l' y)];exact d3,d4,d5,fun i h1 h2=>(d6 i h1 h2).mono hx⟩
    ·
     by_cases ell:s=id
     ·
      subst ell
      rw [List.getElem?_set_self aj] at hid'
      cases hid'
      refine ⟨f1,f2,b1,b2,f5,f6,f7,c',ty,setRow_heap w _ c c' ty _ b3,z.trans b4,by omega,ZlP b5 v3,fun i h1 h2=>?_⟩
      have ai:RowR w0 M w (c'.extract 0 cs.length) (Zc9 cs off (Zav e v).cells):=by
       have ao:RowR w0 M w (c.extract 0 cs.length) cs:=⟨by simp;omega,fun i h1 h2=>by rw [Array.getElem_extract];simp only [Nat.zero_add];exact b6 i (by omega) h2⟩
       refine RowR.put ao g (by omega) (by simp;omega) (fun j=>?_)
       simp only [Array.getElem?_extract,Nat.zero_add,r]
       by_cases q1:j<min cs.length c'.size
       ·
        rw [if_pos (by omega)]
        by_cases q2:off≤j∧j<off+(a.eval v).cells.toList.length
        ·
         rw [if_pos q2,if_pos q2]
        ·
         rw [if_neg q2,if_neg q2,if_pos (by omega)]
       ·
        rw [if_neg (by omega),if_neg (by simp;omega),if_neg (by omega)]
      have h3:i<(c'.extract 0 cs.length).size:=by simp;omega
      have:=(ai.2 i h3 h2).mono hx
      rw [Array.getElem_extract] at this
      simpa using this
     ·
      rw [List.getElem?_set_ne (Ne.symm ell)] at hid'
      have hk:=h.st.row s x hid'
      have af:s<M.NR:=by rw [h.st.NR];exact (List.getElem?_eq_some_iff.1 hid').1
      have ab:M.blk s≠M.blk id:=fun q=>ell (h.st.rowinj s id af m q)
      exact hk.keep hx rfl rfl rfl rfl rfl hk.ne (setRow_other w _ _ _ ab)
  | _=>cases hbx
end
section
variable {P:Program} {w0:World} {n:Nat} {M:Mem} {e:Env} {st:St} {a:Act} {w:World}
def flat (us:Nat→Value) (m:Nat):List Value:=(List.range m).flatMap fun i=>(us i).cells.toList
theorem Zq6 (us:Nat→Value) (m:Nat):flat us (m+1)=flat us m++(us m).cells.toList:=by
 simp [flat,List.range_succ]
theorem ZaA {us:Nat→Value} {sz:Nat}:∀ {m:Nat},(∀ i,i<m→(us i).cells.size=sz)→(flat us m).length=m*sz
 | 0,_=>by simp [flat]
 | m+1,h=>by
  rw [Zq6,List.length_append,ZaA (fun i hi=>h i (by omega)),Array.length_toList,h m (by omega),Nat.succ_mul]
theorem Zhn {us:Nat→Value} {sz:Nat}:∀ {m:Nat},(∀ i,i<m→(us i).cells.size=sz)→∀ i,i<m→∀ j,j<sz→(flat us m)[i*sz+j]? = (us i).cells[j]?
 | 0,_,i,hi,_,_=>absurd hi (by omega)
 | m+1,h,i,hi,j,hj=>by
  have hl:=ZaA (us:=us) (m:=m) (fun i hi=>h i (by omega))
  rw [Zq6,List.getElem?_append,hl]
  by_cases c:i=m
  ·
   subst c
   rw [if_neg (by omega),show i*sz+j-i*sz=j from by omega,Array.getElem?_toList]
  ·
   have h1:(i+1)*sz≤m*sz:=Nat.mul_le_mul_right _ (by omega)
   rw [Nat.succ_mul] at h1
   rw [if_pos (by omega)]
   exact Zhn (fun i hi=>h i (by omega)) i (by omega) j hj
theorem Zer {us:Nat→Value} {sz m:Nat} (hs:∀ i,i<m→(us i).cells.size=sz) {b off:Nat} (hsz:0<sz) (hc:∀ i,i<m→∀ j,j<sz→w.cell? ⟨b,off+i*sz+j,none⟩=(us i).cells[j]?) :
  ∀ j u,(flat us m)[j]? = some u→w.cell? ((⟨b,off,none⟩:Addr).add j)=some u:=by
 intro j u hu
 have hl:=ZaA hs
 have hj:j<m*sz:=by rw [←hl];exact (List.getElem?_eq_some_iff.1 hu).1
 have e:=Nat.div_add_mod j sz
 have hi:j / sz<m:=(Nat.div_lt_iff_lt_mul hsz).2 hj
 have a:=Nat.mod_lt j hsz
 have h1:=Zhn hs (j / sz) hi (j % sz) a
 have h2:=hc (j / sz) hi (j % sz) a
 have e':j / sz*sz+j % sz=j:=by rw [Nat.mul_comm];exact e
 rw [e'] at h1
 rw [Nat.add_assoc,e'] at h2
 rw [ZdD,h2,←h1,hu]
theorem R.list_open {v:Value} {xs:List AV} {o:Own} {sz:Nat} (h:R w0 M w v (.list xs o)) (hs:∀ y∈xs,y.cells.length=sz) :
  ∃ us:Nat→Value,(∀ i (hi:i<xs.length),(us i).cells.size=sz∧R w0 M w (us i) xs[i]) ∧
   (((v = .slice none 0 0∨∃ ad,v = .slice (some ad) 0 0)∧xs=[]∧∀ id,o ≠ .row id)∨∃ b off cap sz',v = .slice (some ⟨b,off,none⟩) xs.length cap∧xs.length≤cap∧cap≤maxLen∧ZAr M b off cap xs.length sz' o ∧
    ∀ i,i<xs.length→∀ j,j<sz→w.cell? ⟨b,off+i*sz+j,none⟩=(us i).cells[j]?):=by
 cases h with
 | nil ho=>exact ⟨fun _=>undef,fun i hi=>absurd hi (by simp),.inl ⟨.inl rfl,rfl,ho⟩⟩
 | emp ho=>exact ⟨fun _=>undef,fun i hi=>absurd hi (by simp),.inl ⟨.inr ⟨_,rfl⟩,rfl,ho⟩⟩
 | @list b off cap _ _ sz' us hc hm hcell hu ho =>
  have a:∀ i (hi:i<xs.length),(us i).cells.size=sz:=fun i hi=>by rw [(hu i hi).cells.1];exact hs _ (List.getElem_mem _)
  refine ⟨us,fun i hi=>⟨a i hi,hu i hi⟩,.inr ⟨b,off,cap,sz',rfl,hc,hm,ho,fun i hi j hj=>?_⟩⟩
  have e:sz'=sz:=by rw [←(hcell i hi).1,a i hi]
  subst e
  exact ((hcell i hi).2 j hj).2
theorem ZpS {us:Nat→Value} {xs:List AV} {sz:Nat} (hu:∀ i (hi:i<xs.length),(us i).cells.size=sz∧R w0 M w (us i) xs[i]) (hn:∀ y∈xs,ZbS y=true):∀ u∈flat us xs.length,u.oneCell'=true:=by
 intro u hm
 obtain ⟨i,hi,b⟩:=List.mem_flatMap.1 hm
 have a:i<xs.length:=List.mem_range.1 hi
 obtain ⟨hs,hR⟩:=hu i a
 obtain ⟨k,hk,rfl⟩:=List.getElem_of_mem b
 simp only [Array.length_toList] at hk
 rw [Array.getElem_toList]
 have c:=hR.cellsOne (fun vs e=>by have:=hn _ (List.getElem_mem a);rw [e] at this;cases this)
 exact (hR.cells.2 k hk (by rw [←hR.cells.1];exact hk)).oneCell (c _ (List.getElem_mem _))
def Mem.addRow (M:Mem) (b cap k sz tp:Nat):Mem :=
  { M with NR:=M.NR+1,fr:=fun i=>if i=M.NR then k else M.fr i,blk:=fun i=>if i=M.NR then b else M.blk i,cap:=fun i=>if i=M.NR then cap else M.cap i,
           rsz:=fun i=>if i=M.NR then sz else M.rsz i,top:=fun x=>if x=b then tp else M.top x }
def Mem.growRow (M:Mem) (id b cap k tp:Nat):Mem :=
 { M with fr:=fun i=>if i=id then k else M.fr i,blk:=fun i=>if i=id then b else M.blk i,cap:=fun i=>if i=id then cap else M.cap i,top:=fun x=>if x=b then tp else M.top x }
theorem RelSt.addRow' (h:RelSt w0 M st w) {cs:Array Value} {ty:TypeId} {cap k sz tp:Nat} {x:RowA}
  (hnew:Ext w0 M w (M.addRow w.heap.size cap k sz tp) (w.alloc (.cells cs ty))→(∀ l,l<M.N→M.bx l≠w.heap.size)→RowOk w0 (M.addRow w.heap.size cap k sz tp) (w.alloc (.cells cs ty)) M.NR x) :
  RelSt w0 (M.addRow w.heap.size cap k sz tp) { st with rows:=st.rows++[x] } (w.alloc (.cells cs ty))∧Ext w0 M w (M.addRow w.heap.size cap k sz tp) (w.alloc (.cells cs ty)):=by
 have f:∀ b,b<w.heap.size→(M.addRow w.heap.size cap k sz tp).top b=M.top b:=fun b hb=>by simp [Mem.addRow];omega
 have a:∀ i,i<M.NR→(M.addRow w.heap.size cap k sz tp).fr i=M.fr i∧(M.addRow w.heap.size cap k sz tp).blk i=M.blk i∧(M.addRow w.heap.size cap k sz tp).cap i=M.cap i∧(M.addRow w.heap.size cap k sz tp).rsz i=M.rsz i:=by
  intro i hi
  have:¬ i=M.NR:=by omega
  simp [Mem.addRow,this]
 have hx:Ext w0 M w (M.addRow w.heap.size cap k sz tp) (w.alloc (.cells cs ty)) :=
  ZlF _ _ (.inl rfl) (fun _ _=>rfl) (Nat.le_succ _) (fun i hi=>by obtain ⟨a1,a2,a3,a4⟩:=a i hi;exact ⟨by omega,fun _=>⟨a2,a3,a4⟩⟩) (fun b hb=>by rw [f b hb];exact Nat.le_refl _)
 have n:∀ l,l<M.N→M.bx l≠w.heap.size:=fun l hl=>by have:=h.box_lt hl;omega
 refine ⟨⟨h.below.alloc h.base_le _,h.N,by simp [Mem.addRow,h.NR],fun b hb=>?_,h.inj,fun l c hl=>?_,fun id y hid=>?_,fun i j hi hj d=>?_,h.loop.mono hx rfl (KeepsObj.alloc _ _)⟩,hx⟩
 ·
  simp at hb
  have:(M.addRow w.heap.size cap k sz tp).top b=M.top b:=by simp [Mem.addRow];omega
  rw [this]
  exact h.top b (by omega)
 ·
  obtain ⟨a1,a2,c',m,a3,a4,a5,a6⟩:=h.box l c hl
  have g:=(Array.getElem?_eq_some_iff.1 a3).1
  exact ⟨a1,by rw [show (M.addRow w.heap.size cap k sz tp).bx l=M.bx l from rfl,f _ g];exact a2,c',m,by rw [show (M.addRow w.heap.size cap k sz tp).bx l=M.bx l from rfl,Za1 _ _ g];exact a3,a4,a5,fun i h1 h2=>(a6 i h1 h2).mono hx⟩
 ·
  by_cases e1:id=M.NR
  ·
   subst e1
   simp only [h.NR,List.getElem?_concat_length,Option.some.injEq] at hid
   subst hid
   exact hnew hx n
  ·
   have e:id<M.NR:=by
    have:id<(st.rows++[x]).length:=(List.getElem?_eq_some_iff.1 hid).1
    have hN:=h.NR
    simp at this
    omega
   rw [List.getElem?_append_left (by rw [←h.NR];exact e)] at hid
   have hk:=h.row id y hid
   obtain ⟨o1,o2,o3,o4⟩:=a id e
   exact hk.keep hx o1 o4 o2 o3 (f _ hk.lt) hk.ne (Za1 _ _ hk.lt)
 ·
  have hN:(M.addRow w.heap.size cap k sz tp).NR=M.NR+1:=rfl
  rw [hN] at hi hj
  have new:(M.addRow w.heap.size cap k sz tp).blk M.NR=w.heap.size:=by simp [Mem.addRow]
  by_cases e1:i=M.NR
  ·
   by_cases e2:j=M.NR
   ·
    omega
   ·
    subst e1
    rw [new,(a j (by omega)).2.1] at d
    have:=h.row_lt (i:=j) (by omega)
    omega
  ·
   by_cases e2:j=M.NR
   ·
    subst e2
    rw [new,(a i (by omega)).2.1] at d
    have:=h.row_lt (i:=i) (by omega)
    omega
   ·
    rw [(a i (by omega)).2.1,(a j (by omega)).2.1] at d
    exact h.rowinj i j (by omega) (by omega) d
theorem RelSt.addRow (h:RelSt w0 M st w) {cs:Array Value} {ty:TypeId} {cap k sz:Nat} (hm:cap≤maxLen) (hk:k≤cap) (hs:cs.size=cap*sz) :
  RelSt w0 (M.addRow w.heap.size cap k sz (k*sz)) { st with rows:=st.rows++[.grow k sz] } (w.alloc (.cells cs ty))∧Ext w0 M w (M.addRow w.heap.size cap k sz (k*sz)) (w.alloc (.cells cs ty)) :=
 h.addRow' fun _ a=>by
  have q:(M.addRow w.heap.size cap k sz (k*sz)).fr M.NR=k∧(M.addRow w.heap.size cap k sz (k*sz)).blk M.NR=w.heap.size∧(M.addRow w.heap.size cap k sz (k*sz)).cap M.NR=cap∧(M.addRow w.heap.size cap k sz (k*sz)).rsz M.NR=sz∧(M.addRow w.heap.size cap k sz (k*sz)).top w.heap.size=k*sz:=by simp [Mem.addRow]
  obtain ⟨q1,q2,q3,q4,q5⟩:=q
  simp only [RowOk,q1,q2,q3,q4,q5]
  exact ⟨trivial,trivial,h.base_le,trivial,a,hm,hk,cs,ty,heap_alloc_new w _,hs⟩
theorem RelSt.addVec (h:RelSt w0 M st w) {cs:Array Value} {ty:TypeId} {cap sz:Nat} {xs:List AV} (hm:cap≤maxLen) (hz:0<sz) (hs:cs.size=cap*sz) (hl:xs.length≤cs.size) (h1:∀ x∈xs,x.one=true) (hR:∀ (i:Nat) (v:Value) (x:AV),cs[i]? = some v→xs[i]? = some x→R w0 M w v x) :
  RelSt w0 (M.addRow w.heap.size cap 0 sz 0) { st with rows:=st.rows++[.vec 0 sz xs] } (w.alloc (.cells cs ty))∧Ext w0 M w (M.addRow w.heap.size cap 0 sz 0) (w.alloc (.cells cs ty)) :=
 h.addRow' fun hx c=>by
  have q:(M.addRow w.heap.size cap 0 sz 0).fr M.NR=0∧(M.addRow w.heap.size cap 0 sz 0).blk M.NR=w.heap.size∧(M.addRow w.heap.size cap 0 sz 0).cap M.NR=cap∧(M.addRow w.heap.size cap 0 sz 0).rsz M.NR=sz∧(M.addRow w.heap.size cap 0 sz 0).top w.heap.size=0:=by simp [Mem.addRow]
  obtain ⟨q1,q2,q3,q4,q5⟩:=q
  simp only [RowOk,q1,q2,q3,q4,q5]
  exact ⟨trivial,trivial,h.base_le,trivial,c,hm,hz,cs,ty,heap_alloc_new w _,hs,hl,h1,fun i a b=>(hR i _ _ (Array.getElem?_eq_getElem a) (List.getElem?_eq_getElem b)).mono hx⟩
theorem RelSt.growRow' (h:RelSt w0 M st w) {id:Nat} {x0 x:RowA} (hid:st.rows[id]? = some x0) {w':World} {b cap k tp:Nat} (hbelow:Below w0.heap.size w w')
  (hsize:w.heap.size≤w'.heap.size) (hbw:b<w'.heap.size) (hbox:∀ l,l<M.N→M.bx l≠b∧w'.heap[M.bx l]? = w.heap[M.bx l]?) (hrow:∀ i,i<M.NR→i≠id→M.blk i≠b∧w'.heap[M.blk i]? = w.heap[M.blk i]?)
  (hnew:RowOk w0 (M.growRow id b cap k tp) w' id x) (hx:Ext w0 M w (M.growRow id b cap k tp) w') (hko:KeepsObj w w') :
  RelSt w0 (M.growRow id b cap k tp) { st with rows:=st.rows.set id x } w':=by
 have e:id<st.rows.length:=(List.getElem?_eq_some_iff.1 hid).1
 refine ⟨h.below.trans hbelow,h.N,by simp [Mem.growRow,h.NR],fun y n=>?_,h.inj,fun l c hl=>?_,fun i y hi=>?_,fun i j hi hj a=>?_,h.loop.mono hx rfl hko⟩
 ·
  have:(M.growRow id b cap k tp).top y=M.top y:=by simp [Mem.growRow];omega
  rw [this]
  exact h.top y (by omega)
 ·
  obtain ⟨a1,a2,c',f,a3,a4,a5,a6⟩:=h.box l c hl
  have g:l<M.N:=by rw [h.N];exact (List.getElem?_eq_some_iff.1 hl).1
  obtain ⟨h1,h2⟩:=hbox l g
  refine ⟨a1,?_,c',f,by rw [show (M.growRow id b cap k tp).bx l=M.bx l from rfl,h2];exact a3,a4,a5,fun i h1 h2=>(a6 i h1 h2).mono hx⟩
  show (M.growRow id b cap k tp).top (M.bx l)=0
  simp [Mem.growRow,h1,a2]
 ·
  by_cases e1:i=id
  ·
   subst e1
   rw [List.getElem?_set_self e] at hi
   cases hi
   exact hnew
  ·
   rw [List.getElem?_set_ne (Ne.symm e1)] at hi
   have m:i<M.NR:=by rw [h.NR];exact (List.getElem?_eq_some_iff.1 hi).1
   have hk:=h.row i y hi
   obtain ⟨h1,h2⟩:=hrow i m e1
   have q:(M.growRow id b cap k tp).fr i=M.fr i∧(M.growRow id b cap k tp).blk i=M.blk i∧(M.growRow id b cap k tp).cap i=M.cap i∧(M.growRow id b cap k tp).rsz i=M.rsz i∧(M.growRow id b cap k tp).top (M.blk i)=M.top (M.blk i):=by simp [Mem.growRow,e1,h1]
   obtain ⟨q1,q2,q3,q4,q5⟩:=q
   exact hk.keep hx q1 q4 q2 q3 q5 hk.ne h2
 ·
  have d:∀ j,(M.growRow id b cap k tp).blk j=if j=id then b else M.blk j:=fun j=>rfl
  rw [d,d] at a
  have hN:(M.growRow id b cap k tp).NR=M.NR:=rfl
  rw [hN] at hi hj
  by_cases e1:i=id
  ·
   by_cases e2:j=id
   ·
    omega
   ·
    rw [if_pos e1,if_neg e2] at a
    exact absurd a.symm (hrow j hj e2).1
  ·
   by_cases e2:j=id
   ·
    rw [if_neg e1,if_pos e2] at a
    exact absurd a (hrow i hi e1).1
   ·
    rw [if_neg e1,if_neg e2] at a
    exact h.rowinj i j hi hj a
theorem RelSt.growRow (h:RelSt w0 M st w) {id:Nat} {k0 sz:Nat} (hid:st.rows[id]? = some (.grow k0 sz)) {w':World} {b cap k:Nat} (hb0:w0.heap.size≤b) (hbelow:Below w0.heap.size w w')
  (hsize:w.heap.size≤w'.heap.size) (hbw:b<w'.heap.size) (hm:cap≤maxLen) (hk:k≤cap) (hbox:∀ l,l<M.N→M.bx l≠b∧w'.heap[M.bx l]? = w.heap[M.bx l]?) (hrow:∀ i,i<M.NR→i≠id→M.blk i≠b∧w'.heap[M.blk i]? = w.heap[M.blk i]?)
  {cs:Array Value} {ty:TypeId} (hcs:w'.heap[b]? = some (.cells cs ty (0,0))) (hs:cs.size=cap*sz) (hx:Ext w0 M w (M.growRow id b cap k (k*sz)) w') (hko:KeepsObj w w') :
  RelSt w0 (M.growRow id b cap k (k*sz)) { st with rows:=st.rows.set id (.grow k sz) } w':=by
 refine h.growRow' hid hbelow hsize hbw hbox hrow ?_ hx hko
 have q:(M.growRow id b cap k (k*sz)).fr id=k∧(M.growRow id b cap k (k*sz)).blk id=b∧(M.growRow id b cap k (k*sz)).cap id=cap∧(M.growRow id b cap k (k*sz)).rsz id=M.rsz id∧(M.growRow id b cap k (k*sz)).top b=k*sz:=by simp [Mem.growRow]
 obtain ⟨q1,q2,q3,q4,q5⟩:=q
 simp only [RowOk,q1,q2,q3,q4,q5]
 exact ⟨trivial,(h.row id _ hid).2.1,hb0,trivial,fun l hl=>(hbox l hl).1,hm,hk,cs,ty,hcs,hs⟩
def ZxA (us ux:Nat→Value) (k:Nat):Nat→Value:=fun i=>if i<k then us i else ux (i-k)
theorem Zu5 {us ux:Nat→Value} {xs ys:List AV} {sz:Nat} {M':Mem} {w':World} (hx:Ext w0 M w M' w') (h1:∀ i (hi:i<xs.length),(us i).cells.size=sz∧R w0 M w (us i) xs[i]) (h2:∀ i (hi:i<ys.length),(ux i).cells.size=sz∧R w0 M w (ux i) ys[i]) :
  ∀ i (hi:i<(xs++ys.map AV.pub).length),(ZxA us ux xs.length i).cells.size=sz∧R w0 M' w' (ZxA us ux xs.length i) (xs++ys.map AV.pub)[i]:=by
 intro i hi
 unfold ZxA
 by_cases c:i<xs.length
 ·
  rw [if_pos c,List.getElem_append_left c]
  exact ⟨(h1 i c).1,((h1 i c).2).mono hx⟩
 ·
  simp at hi
  rw [if_neg c,List.getElem_append_right (by omega),List.getElem_map]
  exact ⟨(h2 _ (by omega)).1,((h2 _ (by omega)).2).pub.mono hx⟩
theorem ZsB {us ux:Nat→Value} {k m sz:Nat} (hs:∀ i,i<k→(us i).cells.size=sz) (hx:∀ i,i<m→(ux i).cells.size=sz) (zs:List Value) :
  ∀ i,i<k+m→∀ j,j<sz→(flat us k++flat ux m++zs)[i*sz+j]? = (ZxA us ux k i).cells[j]? := by
 intro i hi j hj
 have l1:=ZaA hs
 have l2:=ZaA hx
 rw [List.append_assoc,List.getElem?_append,l1]
 unfold ZxA
 by_cases c:i<k
 ·
  have q:(i+1)*sz≤k*sz:=Nat.mul_le_mul_right _ c
  rw [Nat.succ_mul] at q
  rw [if_pos (by omega),if_pos c]
  exact Zhn hs i c j hj
 ·
  have q:k*sz≤i*sz:=Nat.mul_le_mul_right _ (by omega)
  have q2:(i-k+1)*sz≤m*sz:=Nat.mul_le_mul_right _ (by omega)
  rw [Nat.succ_mul] at q2
  have e:i*sz=k*sz+(i-k)*sz:=by rw [←Nat.add_mul];congr 1;omega
  rw [if_neg (by omega),if_neg c,List.getElem?_append,l2,if_pos (by omega),show i*sz+j-k*sz=(i-k)*sz+j from by omega]
  exact Zhn hx (i-k) (by omega) j hj
theorem ZsT (t ty el:TypeId) {sz:Nat} {ag:Bool} (ht:P.underlying t=some (.slice el)) (hty:tyT P el=some (sz,ag)) (g k cap:Nat) (cur:Array Value) (te:TypeId) (hg:w.heap[g]? = some (.cells cur te (0,0)))
  {x:Value} {m:Nat} (hlen:(Builtin.lenOf x).run P w = .ok m w) (news:List Value) (hf:(Builtin.firstCells sz m x).run P w = .ok news.toArray w) (h1:∀ u∈news,u.oneCell'=true)
  (hroom:k+m≤cap) (hfit:k*sz+news.length≤cur.size) :
  (Builtin.append_ #[t,t] ty #[.slice (some ⟨g,0,none⟩) k cap,x]).run P w =
   .ok (.slice (some ⟨g,0,none⟩) (k+m) cap) (w.setRow g (cur.toList.take (k*sz)++news++cur.toList.drop (k*sz+news.length)).toArray):=by
 have b:=run_storeCells_at P g (k*sz) te news 0 cur w hg (by simpa using hfit) h1
 simp only [Nat.add_zero] at b
 obtain ⟨i,d,hi,hsz,_,_⟩:=ZjG hty
 subst hsz
 have a:(⟨g,0,none⟩:Addr).add (k*i.size)=⟨g,k*i.size,none⟩:=by rw [ZdD,Nat.zero_add]
 simp [Builtin.append_,run_underlying ht,sizeOf,typeInfo,hi,hlen,hroom,hf,a,b]
theorem ZiX {ys:List AV} {sz:Nat} (hs:∀ y∈ys,y.cells.length=sz):(ys.flatMap fun y=>y.pub.cells).length=ys.length*sz:=by
 induction ys with
 | nil=>simp
 | cons y ys ih =>
  rw [List.flatMap_cons,List.length_append,ih (fun z hz=>hs z (by simp [hz])),AV.pub_cells_length,hs y (by simp),List.length_cons,Nat.succ_mul]
  omega
theorem Zyy {sz:Nat}:∀ (ys:List AV),(∀ y∈ys,y.cells.length=sz)→∀ i y,ys[i]? = some y→∀ k,k<sz→(ys.flatMap fun y=>y.pub.cells)[i*sz+k]? = y.pub.cells[k]?
 | [],_,i,y,h,_,_=>by simp at h
 | x::ys,hs,0,y,h,k,hk=>by
  simp only [List.getElem?_cons_zero,Option.some.injEq] at h
  subst h
  rw [List.flatMap_cons,Nat.zero_mul,Nat.zero_add,List.getElem?_append_left (by rw [AV.pub_cells_length,hs x (by simp)];exact hk)]
 | x::ys,hs,i+1,y,h,k,hk=>by
  have hx:x.pub.cells.length=sz:=by rw [AV.pub_cells_length];exact hs x (by simp)
  rw [List.flatMap_cons,List.getElem?_append_right (by rw [hx,Nat.succ_mul];omega),hx,show (i+1)*sz+k-sz=i*sz+k from by rw [Nat.succ_mul];omega]
  exact Zyy ys (fun z hz=>hs z (by simp [hz])) i y (by simpa using h) k hk
theorem ZsW {ux:Nat→Value} {ys:List AV} (hu:∀ i (hi:i<ys.length),R w0 M w (ux i) ys[i]) (hn:∀ y∈ys,ZbS y=true):∀ x∈ys.flatMap (fun y=>y.pub.cells),x.one=true:=by
 intro x hx
 obtain ⟨y,hy,a⟩:=List.mem_flatMap.1 hx
 obtain ⟨i,hi,rfl⟩:=List.mem_iff_getElem.1 hy
 refine ((hu i hi).pub).cellsOne (fun vs e=>?_) x a
 have:=hn _ hy
 cases h:ys[i]<;>rw [h] at e this<;>first | (cases this;done) | (cases e;done)
theorem ZCs {ux:Nat→Value} {ys:List AV} {sz:Nat} (hz:0<sz) (hu:∀ i (hi:i<ys.length),(ux i).cells.size=sz∧R w0 M w (ux i) ys[i]) (hs:∀ y∈ys,y.cells.length=sz) {j:Nat} {v:Value} {x:AV} (hv:(flat ux ys.length)[j]? = some v) (hx:(ys.flatMap fun y=>y.pub.cells)[j]? = some x):R w0 M w v x:=by
 have hj:j<ys.length*sz:=by rw [←ZiX hs];exact (List.getElem?_eq_some_iff.1 hx).1
 have hi:j / sz<ys.length:=(Nat.div_lt_iff_lt_mul hz).2 hj
 have hk:=Nat.mod_lt j hz
 have e:j / sz*sz+j % sz=j:=by rw [Nat.mul_comm];exact Nat.div_add_mod j sz
 have h1:=Zhn (us:=ux) (sz:=sz) (fun i hi=>(hu i hi).1) (j / sz) hi (j % sz) hk
 have h2:=Zyy ys hs (j / sz) _ (List.getElem?_eq_getElem hi) (j % sz) hk
 rw [e] at h1 h2
 rw [hv] at h1
 rw [hx] at h2
 obtain ⟨_,hc⟩:=((hu _ hi).2).pub.cells
 obtain ⟨q1,q2⟩:=Array.getElem?_eq_some_iff.1 h1.symm
 obtain ⟨q3,q4⟩:=List.getElem?_eq_some_iff.1 h2.symm
 rw [←q2,←q4]
 exact hc _ q1 q3
theorem Zqb (h:Rel w0 n M e st a w) (s x:Operand) (t ty:TypeId) (hs:ZaT e true s) (hx:ZaT e true x) (hob:(Zbh P st t (Zav e s) (Zav e x)).1) :
  Yields' P w0 M (Zbh P st t (Zav e s) (Zav e x)).2.2 (Zbh P st t (Zav e s) (Zav e x)).2.1 w (do pure (.value (← Builtin.append_ #[t,t] ty #[a.eval s,a.eval x]))):=by
 have hRs:=Zbv h hs
 have hRx:=Zbv h hx
 generalize Zav e s=S at hRs hob ⊢
 generalize Zav e x=X at hRx hob ⊢
 generalize a.eval s=vs at hRs ⊢
 generalize a.eval x=vx at hRx ⊢
 unfold Zbh at hob ⊢
 cases he:elT P t with
 | none=>simp [he] at hob
 | some p =>
  obtain ⟨el,sz,ag,b2⟩:=p
  simp only [he] at hob ⊢
  obtain ⟨f,hu,hi,be,bi⟩:=Zfk he
  have m:f.size=sz:=by
   obtain ⟨i',d,h1,h2,_⟩:=ZjG bi
   rw [hi] at h1;cases h1;exact h2
  cases S with
  | list xs o =>
   cases o with
   | none=>exact hob.elim
   | full =>
   simp only at hob ⊢
   by_cases hl0:(ZaN X).length=0
   ·
    rw [if_pos hl0] at hob ⊢
    obtain ⟨lx,aj⟩:=hob
    obtain ⟨ys,o',rfl⟩:=ZfT lx
    simp only [ZaN] at hl0
    have:ys=[]:=List.length_eq_zero_iff.1 hl0
    subst this
    refine .here h.st (v:=vs) ?_ hRs
    have bt:(Builtin.lenOf vx).run P w = .ok 0 w∧(Builtin.firstCells sz 0 vx).run P w = .ok #[] w:=by
     cases hRx with
     | nil _=>exact ⟨rfl,rfl⟩
     | emp _=>exact ⟨rfl,by simp [Builtin.firstCells,loadCells,loadCellsFrom]⟩
     | list=>exact ⟨rfl,by simp [Builtin.firstCells,loadCells,loadCellsFrom]⟩
    obtain ⟨bq,bp⟩:=bt
    have bm:∀ (ad:Option Addr) (ln cap:Nat),ln≤cap→(Builtin.append_ #[t,t] ty #[.slice ad ln cap,vx]).run P w = .ok (.slice ad ln cap) w:=fun ad ln cap ar=>by
     cases ad with
     | none=>simp [Builtin.append_,run_underlying hu,sizeOf,typeInfo,hi,m,bq,bp,ar]
     | some ad=>simp [Builtin.append_,run_underlying hu,sizeOf,typeInfo,hi,m,bq,bp,ar,storeCells]
    cases hRs with
    | nil _=>exact bm none 0 0 (Nat.le_refl _)
    | emp _=>exact bm _ 0 0 (Nat.le_refl _)
    | list sz us hc=>exact bm _ _ _ hc
   rw [if_neg hl0] at hob ⊢
   obtain ⟨lx,⟨aj,hz,ah,bd,cx⟩,cs⟩:=hob
   obtain ⟨ys,o',rfl⟩:=ZfT lx
   simp only [ZaN] at *
   have hpos:0<ys.length:=by omega
   obtain ⟨z,a6⟩:=Option.isSome_iff_exists.1 hz
   obtain ⟨i',v,hi',hv,hc,aw,rfl⟩:=Zd5 a6
   rw [hi] at hi';cases hi'
   obtain ⟨us,u1,u2⟩:=hRs.list_open cs
   obtain ⟨ux,x1,x2⟩:=hRx.list_open (fun y hy=>(cx y hy).1)
   have a1:∀ i,i<xs.length→(us i).cells.size=sz:=fun i hi=>(u1 i hi).1
   have g:∀ i,i<ys.length→(ux i).cells.size=sz:=fun i hi=>(x1 i hi).1
   rcases x2 with ⟨_,q,_⟩ | ⟨bx,ox,cx',_,rfl,_,_,_,hcx⟩
   ·
    subst q;exact absurd hpos (by simp)
   have ai:=Zer (w:=w) g aj hcx
   have am:xs.length+ys.length≤maxLen:=by simp [maxLen];omega
   have ae:∀ (ak:Nat) (zs:List Value) (cells:Array Value),cells.toList=flat us xs.length++flat ux ys.length++zs→zs.length=(grownCap w (xs.length+ys.length) ak el-(xs.length+ys.length))*sz →
     (Builtin.append_ #[t,t] ty #[vs,.slice (some ⟨bx,ox,none⟩) ys.length cx']).run P w = .ok (.slice (some ⟨w.heap.size,0,none⟩) (xs.length+ys.length) (grownCap w (xs.length+ys.length) ak el)) (w.drew.alloc (.cells cells el)) →
     Yields' P w0 M { st with rows:=st.rows++[.grow (xs.length+ys.length) sz] } (.list (xs++ys.map AV.pub) (.row st.rows.length)) w (do pure (.value (← Builtin.append_ #[t,t] ty #[vs,.slice (some ⟨bx,ox,none⟩) ys.length cx']))):=by
    intro ak zs cells ab bn hrun
    obtain ⟨d1,d2⟩:=h.st.drew
    have au:=grownCap_ge w (xs.length+ys.length) ak el
    have ar:=grownCap_le_maxLen w (xs.length+ys.length) ak el am
    have af:cells.size=grownCap w (xs.length+ys.length) ak el*sz:=by
     have:cells.size=cells.toList.length:=by simp
     rw [this,ab]
     simp only [List.length_append,ZaA a1,ZaA g,bn]
     rw [←Nat.add_mul,←Nat.add_mul]
     congr 1
     omega
    obtain ⟨r1,r2⟩:=d1.addRow (cs:=cells) (ty:=el) (sz:=sz) ar au af
    have ay:=Zu5 (w0:=w0) d2 u1 x1
    have r:(xs++ys.map AV.pub).length=xs.length+ys.length:=by simp
    have aq:=R.row (w0:=w0) (M:=M) (w:=w.drew) (us:=ZxA us ux xs.length) (xs:=xs++ys.map AV.pub) (cs:=cells) (ty:=el) (sz:=sz) (k:=(xs.length+ys.length)*sz) (cap:=grownCap w (xs.length+ys.length) ak el) (o := .row st.rows.length) ay
     (fun i hi j hj=>by
      rw [r] at hi
      rw [←Array.getElem?_toList,ab]
      exact ZsB a1 g zs i hi j hj) (by rw [r];exact au) ar (by rw [r];exact Nat.le_refl _) (M.addRow w.drew.heap.size (grownCap w (xs.length+ys.length) ak el) (xs.length+ys.length) sz ((xs.length+ys.length)*sz)) (by simp [Mem.addRow]) r2
     (by
      have hN:=h.st.NR
      refine ⟨by simp [Mem.addRow,hN],by rw [r];simp [Mem.addRow,hN],fun _=>by simp [Mem.addRow,hN]⟩)
    rw [r] at aq
    exact .value ⟨_,_,_,hrun,d2.trans r2,r1,aq⟩
   have av:(flat ux ys.length).length=ys.length*f.size:=by rw [ZaA g,m]
   have a0:(xs.length+ys.length)*f.bytes≤140737488355328:=by rw [be];exact ah
   rcases u2 with ⟨rfl | ⟨ad,rfl⟩,q,_⟩ | ⟨bs,os,cps,sz',rfl,_,_,ho,hcs'⟩
   ·
    subst q
    simp only [List.length_nil,Nat.zero_add] at *
    have hrun:=run_append_nil (P:=P) w t ty el f v hu hi hv ⟨bx,ox,none⟩ ys.length cx' (flat ux ys.length) av ai hpos (by omega) (by omega)
    refine ae 0 (Builtin.zeroCells v.cells (grownCap w ys.length 0 el-ys.length)).toList _ ?_ ?_ hrun
    ·
     simp [flat]
    ·
     simp only [Array.length_toList,size_zeroCells,aw,m]
   ·
    subst q
    simp only [List.length_nil,Nat.zero_add] at *
    have hrun:=run_append_grow (P:=P) w t ty el f v hu hi hv ad 0 0 [] (by simp) (fun j u hu=>by simp at hu) ⟨bx,ox,none⟩ ys.length cx' (flat ux ys.length) av ai (by omega) (by rw [Nat.zero_add];omega) (growslice_fits (by omega) (by rw [Nat.zero_add];exact a0))
    simp only [Nat.zero_add] at hrun
    refine ae 0 (Builtin.zeroCells v.cells (grownCap w ys.length 0 el-ys.length)).toList _ ?_ ?_ hrun
    ·
     simp [flat]
    ·
     simp only [Array.length_toList,size_zeroCells,aw,m]
   ·
    have hcap:xs.length=cps:=ho
    have a3:=Zer (w:=w) a1 aj hcs'
    have a8:(flat us xs.length).length=xs.length*f.size:=by rw [ZaA a1,m]
    have hrun:=run_append_grow (P:=P) w t ty el f v hu hi hv ⟨bs,os,none⟩ xs.length cps (flat us xs.length) a8 a3 ⟨bx,ox,none⟩ ys.length cx' (flat ux ys.length) av ai (by omega) (by omega) (growslice_fits (by omega) a0)
    refine ae cps (Builtin.zeroCells v.cells (grownCap w (xs.length+ys.length) cps el-(xs.length+ys.length))).toList _ ?_ ?_ hrun
    ·
     simp
    ·
     simp only [Array.length_toList,size_zeroCells,aw,m]
   | seed =>
   simp only at hob ⊢
   obtain ⟨lx,⟨aj,hz,ah,bd,cx⟩,bw,hpos⟩:=hob
   obtain ⟨ys,o',rfl⟩:=ZfT lx
   have:xs=[]:=List.length_eq_zero_iff.1 bw
   subst this
   simp only [ZaN,Nat.zero_add] at *
   obtain ⟨z,a6⟩:=Option.isSome_iff_exists.1 hz
   obtain ⟨i',v,hi',hv,hc,aw,rfl⟩:=Zd5 a6
   rw [hi] at hi';cases hi'
   obtain ⟨ux,x1,x2⟩:=hRx.list_open (fun y hy=>(cx y hy).1)
   have g:∀ i,i<ys.length→(ux i).cells.size=sz:=fun i hi=>(x1 i hi).1
   rcases x2 with ⟨_,q,_⟩ | ⟨bx,ox,cx',_,rfl,_,_,_,hcx⟩
   ·
    subst q;exact absurd hpos (by simp)
   have ai:=Zer (w:=w) g aj hcx
   have am:ys.length≤maxLen:=by simp [maxLen];omega
   have av:(flat ux ys.length).length=ys.length*f.size:=by rw [ZaA g,m]
   have a0:ys.length*f.bytes≤140737488355328:=by rw [be];exact ah
   have ae:∀ (ak:Nat) (zs:List Value) (cells:Array Value),cells.toList=flat ux ys.length++zs→zs.length=(grownCap w ys.length ak el-ys.length)*sz →
     (Builtin.append_ #[t,t] ty #[vs,.slice (some ⟨bx,ox,none⟩) ys.length cx']).run P w = .ok (.slice (some ⟨w.heap.size,0,none⟩) ys.length (grownCap w ys.length ak el)) (w.drew.alloc (.cells cells el)) →
     Yields' P w0 M { st with rows:=st.rows++[.vec 0 sz (ys.flatMap fun y=>y.pub.cells)] } (.vec st.rows.length 0 0 ys.length) w (do pure (.value (← Builtin.append_ #[t,t] ty #[vs,.slice (some ⟨bx,ox,none⟩) ys.length cx']))):=by
    intro ak zs cells ab bn hrun
    obtain ⟨d1,d2⟩:=h.st.drew
    have au:=grownCap_ge w ys.length ak el
    have ar:=grownCap_le_maxLen w ys.length ak el am
    have af:cells.size=grownCap w ys.length ak el*sz:=by
     have:cells.size=cells.toList.length:=by simp
     rw [this,ab]
     simp only [List.length_append,ZaA g,bn]
     rw [←Nat.add_mul]
     congr 1
     omega
    have bf:=ZiX (fun y hy=>(cx y hy).1)
    obtain ⟨r1,r2⟩:=d1.addVec (cs:=cells) (ty:=el) (sz:=sz) (xs:=ys.flatMap fun y=>y.pub.cells) ar aj af (by rw [af,bf];exact Nat.mul_le_mul_right _ au) (ZsW (fun i hi=>((x1 i hi).2).mono d2) (fun y hy=>(cx y hy).2))
     (fun i v x a4 a2=>by
      have bj:i<ys.length*sz:=by rw [←bf];exact (List.getElem?_eq_some_iff.1 a2).1
      rw [←Array.getElem?_toList,ab,List.getElem?_append_left (by rw [ZaA g];exact bj)] at a4
      exact (ZCs aj x1 (fun y hy=>(cx y hy).1) a4 a2).mono d2)
    refine .value ⟨_,_,_,hrun,d2.trans r2,r1,?_⟩
    have hN:=h.st.NR
    refine .vec (by simp [Mem.addRow,hN]) (Nat.zero_le _) fun _=>⟨by simp [Mem.addRow,hN],by simp [Mem.addRow,hN],au⟩
   (cases hRs with
   | nil ho =>
    have hrun:=run_append_nil (P:=P) w t ty el f v hu hi hv ⟨bx,ox,none⟩ ys.length cx' (flat ux ys.length) av ai hpos (by omega) (by omega)
    refine ae 0 (Builtin.zeroCells v.cells (grownCap w ys.length 0 el-ys.length)).toList _ ?_ ?_ hrun
    ·
     simp
    ·
     simp only [Array.length_toList,size_zeroCells,aw,m]
   | @emp ad _ ho =>
    have hrun:=run_append_grow (P:=P) w t ty el f v hu hi hv ad 0 0 [] (by simp) (fun j u hu=>by simp at hu) ⟨bx,ox,none⟩ ys.length cx' (flat ux ys.length) av ai (by omega) (by rw [Nat.zero_add];omega) (growslice_fits (by omega) (by rw [Nat.zero_add];exact a0))
    simp only [Nat.zero_add] at hrun
    refine ae 0 (Builtin.zeroCells v.cells (grownCap w ys.length 0 el-ys.length)).toList _ ?_ ?_ hrun
    ·
     simp
    ·
     simp only [Array.length_toList,size_zeroCells,aw,m]
   | @list b off cap _ _ sz' us hc' hm' hcell hu' ho =>
    have hcap:(0:Nat)=cap:=ho
    subst hcap
    have hrun:=run_append_grow (P:=P) w t ty el f v hu hi hv ⟨b,off,none⟩ 0 0 [] (by simp) (fun j u hu=>by simp at hu) ⟨bx,ox,none⟩ ys.length cx' (flat ux ys.length) av ai (by omega) (by rw [Nat.zero_add];omega) (growslice_fits (by omega) (by rw [Nat.zero_add];exact a0))
    simp only [Nat.zero_add] at hrun
    refine ae 0 (Builtin.zeroCells v.cells (grownCap w ys.length 0 el-ys.length)).toList _ ?_ ?_ hrun
    ·
     simp
    ·
     simp only [Array.length_toList,size_zeroCells,aw,m])
   | row id =>
   simp only at hob ⊢
   obtain ⟨lx,⟨aj,hz,ah,bd,cx⟩,cs,az⟩:=hob
   obtain ⟨ys,o',rfl⟩:=ZfT lx
   simp only [ZaN] at *
   obtain ⟨z,a6⟩:=Option.isSome_iff_exists.1 hz
   obtain ⟨i',v,hi',hv,hc,aw,rfl⟩:=Zd5 a6
   rw [hi] at hi';cases hi'
   obtain ⟨us,u1,u2⟩:=hRs.list_open cs
   obtain ⟨ux,x1,x2⟩:=hRx.list_open (fun y hy=>(cx y hy).1)
   have a1:∀ i,i<xs.length→(us i).cells.size=sz:=fun i hi=>(u1 i hi).1
   have g:∀ i,i<ys.length→(ux i).cells.size=sz:=fun i hi=>(x1 i hi).1
   have ap:id<M.NR:=by rw [h.st.NR];exact (List.getElem?_eq_some_iff.1 az).1
   obtain ⟨f1,f2,f3,f4,f5,f6,f7,cur,te,f8,f9⟩:=h.st.row id _ az
   rcases u2 with ⟨_,_,q⟩ | ⟨bs,os,cps,sz',rfl,_,_,ho,hcs'⟩
   ·
    exact absurd rfl (q id)
   obtain ⟨_,_,br⟩:=ho
   obtain ⟨e1,e2,e3,_⟩:=br f1.symm
   subst e1;subst e2;subst e3
   have r:(xs++ys.map AV.pub).length=xs.length+ys.length:=by simp
   have bl:(Builtin.lenOf vx).run P w = .ok ys.length w:=by
    rcases x2 with ⟨rfl | ⟨_,rfl⟩,q,_⟩ | ⟨bx,ox,cx',_,rfl,_⟩
    ·
     subst q;rfl
    ·
     subst q;rfl
    ·
     rfl
   have av:(flat ux ys.length).length=ys.length*f.size:=by rw [ZaA g,m]
   have a5:(Builtin.firstCells sz ys.length vx).run P w = .ok (flat ux ys.length).toArray w:=by
    rcases x2 with ⟨rfl | ⟨_,rfl⟩,q,_⟩ | ⟨bx,ox,cx',_,rfl,_,_,_,hcx⟩
    ·
     subst q;rfl
    ·
     subst q;simp [Builtin.firstCells,loadCells,loadCellsFrom,flat]
    ·
     exact run_firstCells_some w sz ys.length ⟨bx,ox,none⟩ ys.length cx' (flat ux ys.length) (ZaA g) (Zer (w:=w) g aj hcx)
   by_cases hroom:xs.length+ys.length≤M.cap id
   ·
    -- there is room
    have bc:xs.length*sz+(flat ux ys.length).length≤cur.size:=by rw [ZaA g,f9,←Nat.add_mul];exact Nat.mul_le_mul_right _ hroom
    have hrun:=ZsT (P:=P) (w:=w) t ty el hu bi (M.blk id) xs.length (M.cap id) cur te f8 bl (flat ux ys.length) a5 (ZpS x1 (fun y hy=>(cx y hy).2)) hroom bc
    generalize hc':(cur.toList.take (xs.length*sz)++flat ux ys.length++cur.toList.drop (xs.length*sz+(flat ux ys.length).length)).toArray=cur' at hrun
    have a7:cur'.size=cur.size:=by rw [←hc'];simp;omega
    have ba:∀ j,j<xs.length*sz→cur'[j]? = cur[j]? := by
     intro j hj
     rw [←hc',List.getElem?_toArray,List.append_assoc,List.getElem?_append_left (by simp;omega),List.getElem?_take,if_pos hj,Array.getElem?_toList]
    have bk:∀ j,j<ys.length*sz→cur'[xs.length*sz+j]? = (flat ux ys.length)[j]? := by
     intro j hj
     have l2:=ZaA g
     rw [←hc',List.getElem?_toArray,List.append_assoc,List.getElem?_append_right (by simp;omega)]
     simp only [List.length_take,Array.length_toList]
     have e:min (xs.length*sz) cur.size=xs.length*sz:=by omega
     rw [e,show xs.length*sz+j-xs.length*sz=j from by omega,List.getElem?_append_left (by rw [l2];exact hj)]
    have aa:Ext w0 M w (M.growRow id (M.blk id) (M.cap id) (xs.length+ys.length) ((xs.length+ys.length)*sz)) (w.setRow (M.blk id) cur'):=by
     refine ZhQ (M:=M) (M.growRow id (M.blk id) (M.cap id) (xs.length+ys.length) ((xs.length+ys.length)*sz)) rfl (fun _ _=>rfl) rfl (fun i hi=>?_) (fun b=>?_) f8 f3 (fun j hj=>ba j (by rw [f4] at hj;exact hj))
     ·
      by_cases c:i=id
      ·
       subst c
       simp only [Mem.growRow,if_true,f1]
       exact ⟨by omega,fun _=>⟨trivial,trivial,trivial⟩⟩
      ·
       simp only [Mem.growRow,if_neg c]
       exact ⟨Nat.le_refl _,fun _=>⟨trivial,trivial,trivial⟩⟩
     ·
      simp only [Mem.growRow]
      split
      ·
       rename_i c
       rw [c,f4]
       exact Nat.mul_le_mul_right _ (by omega)
      ·
       exact Nat.le_refl _
    have bb:=h.st.row_lt ap
    have ax:=h.st.growRow az (w':=w.setRow (M.blk id) cur') (b:=M.blk id) (cap:=M.cap id) (k:=xs.length+ys.length) f3 (Below.setRow (Below.refl _ _) f3 _) (by simp) (by simpa using bb) f6 hroom
     (fun l hl=>⟨f5 l hl,setRow_other w _ _ _ (f5 l hl)⟩) (fun i hi a9=>by
      have:M.blk i≠M.blk id:=fun q=>a9 (h.st.rowinj i id hi ap q)
      exact ⟨this,setRow_other w _ _ _ this⟩) (setRow_heap w _ cur cur' te _ f8) (by rw [a7];exact f9) aa (KeepsObj.setRow f8 _)
    have ay:=Zu5 (w0:=w0) aa u1 x1
    have aq:=R.list (w0:=w0) (M:=M.growRow id (M.blk id) (M.cap id) (xs.length+ys.length) ((xs.length+ys.length)*sz)) (w:=w.setRow (M.blk id) cur') (b:=M.blk id) (off:=0) (cap:=M.cap id) (xs:=xs++ys.map AV.pub) (o := .row id) sz (ZxA us ux xs.length) (by rw [r];exact hroom) f6
     (fun i hi=>⟨(ay i hi).1,fun j hj=>by
      rw [r] at hi
      have q1:(i+1)*sz≤(xs.length+ys.length)*sz:=Nat.mul_le_mul_right _ hi
      rw [Nat.succ_mul] at q1
      refine ⟨.inr ?_,?_⟩
      ·
       simp only [Mem.growRow,if_true]
       omega
      ·
       rw [Nat.zero_add,cell_of_row _ _ _ cur' te _ (setRow_heap w _ cur cur' te _ f8)]
       unfold ZxA
       by_cases c:i<xs.length
       ·
        have q:(i+1)*sz≤xs.length*sz:=Nat.mul_le_mul_right _ c
        rw [Nat.succ_mul] at q
        have:=hcs' i c j hj
        rw [Nat.zero_add,cell_of_row _ _ _ cur te _ f8] at this
        rw [if_pos c,ba _ (by omega),this]
       ·
        have q:(i-xs.length+1)*sz≤ys.length*sz:=Nat.mul_le_mul_right _ (by omega)
        rw [Nat.succ_mul] at q
        have e:i*sz=xs.length*sz+(i-xs.length)*sz:=by rw [←Nat.add_mul];congr 1;omega
        rw [if_neg c,show i*sz+j=xs.length*sz+((i-xs.length)*sz+j) from by omega,bk _ (by omega)]
        exact Zhn g _ (by omega) j hj⟩) (fun i hi=>(ay i hi).2)
     (by
      rw [r]
      refine ⟨ap,by simp [Mem.growRow],fun _=>⟨by simp [Mem.growRow],rfl,by simp [Mem.growRow],?_⟩⟩
      simp [Mem.growRow,f2])
    rw [r] at aq
    exact .value ⟨_,_,_,hrun,aa,ax,aq⟩
   ·
    -- a new row
    have hypos:0<ys.length:=by omega
    rcases x2 with ⟨_,q,_⟩ | ⟨bx,ox,cx',_,rfl,_,_,_,hcx⟩
    ·
     subst q;simp at hypos
    have ai:=Zer (w:=w) g aj hcx
    have a3:=Zer (w:=w) a1 aj hcs'
    have a8:(flat us xs.length).length=xs.length*f.size:=by rw [ZaA a1,m]
    have a0:(xs.length+ys.length)*f.bytes≤140737488355328:=by rw [be];exact ah
    have hrun:=run_append_grow (P:=P) w t ty el f v hu hi hv ⟨M.blk id,0,none⟩ xs.length (M.cap id) (flat us xs.length) a8 a3 ⟨bx,ox,none⟩ ys.length cx' (flat ux ys.length) av ai (by omega) (by omega) (growslice_fits (by omega) a0)
    have am:xs.length+ys.length≤maxLen:=by simp [maxLen];omega
    have au:=grownCap_ge w (xs.length+ys.length) (M.cap id) el
    have ar:=grownCap_le_maxLen w (xs.length+ys.length) (M.cap id) el am
    generalize hcl:((flat us xs.length).toArray++(flat ux ys.length).toArray++Builtin.zeroCells v.cells (grownCap w (xs.length+ys.length) (M.cap id) el-(xs.length+ys.length)))=cells at hrun
    have ao:cells.toList=flat us xs.length++flat ux ys.length++(Builtin.zeroCells v.cells (grownCap w (xs.length+ys.length) (M.cap id) el-(xs.length+ys.length))).toList:=by rw [←hcl];simp
    generalize grownCap w (xs.length+ys.length) (M.cap id) el=gc at *
    have af:cells.size=gc*sz:=by
     have:cells.size=cells.toList.length:=by simp
     rw [this,ao]
     simp only [List.length_append,ZaA a1,ZaA g,Array.length_toList,size_zeroCells,aw,m]
     rw [←Nat.add_mul,←Nat.add_mul]
     congr 1
     omega
    obtain ⟨d1,d2⟩:=h.st.drew
    have aa:Ext w0 M w.drew (M.growRow id w.drew.heap.size gc (xs.length+ys.length) ((xs.length+ys.length)*sz)) (w.drew.alloc (.cells cells el)):=by
     refine ZlF _ _ (.inl rfl) (fun _ _=>rfl) (Nat.le_refl _) (fun i hi=>?_) (fun b hb=>?_)
     ·
      by_cases c:i=id
      ·
       subst c
       simp only [Mem.growRow,if_true,f1]
       exact ⟨by omega,fun q=>absurd q (by omega)⟩
      ·
       simp only [Mem.growRow,if_neg c]
       exact ⟨Nat.le_refl _,fun _=>⟨trivial,trivial,trivial⟩⟩
     ·
      simp only [Mem.growRow]
      rw [if_neg (by omega)]
      exact Nat.le_refl _
    have ax:=d1.growRow az (w':=w.drew.alloc (.cells cells el)) (b:=w.drew.heap.size) (cap:=gc) (k:=xs.length+ys.length) h.st.base_le ((Below.refl _ w.drew).alloc h.st.base_le _) (by simp) (by simp) ar au
     (fun l hl=>by have:=h.st.box_lt hl;exact ⟨fun q=>by simp at q;omega,Za1 _ _ this⟩) (fun i hi a9=>by have:=h.st.row_lt hi;exact ⟨fun q=>by simp at q;omega,Za1 _ _ this⟩) (heap_alloc_new w.drew _) af aa (KeepsObj.alloc _ _)
    have ay:=Zu5 (w0:=w0) d2 u1 x1
    have aq:=R.row (w0:=w0) (M:=M) (w:=w.drew) (us:=ZxA us ux xs.length) (xs:=xs++ys.map AV.pub) (cs:=cells) (ty:=el) (sz:=sz) (k:=(xs.length+ys.length)*sz) (cap:=gc) (o := .row id) ay
     (fun i hi j hj=>by
      rw [r] at hi
      rw [←Array.getElem?_toList,ao]
      exact ZsB a1 g _ i hi j hj) (by rw [r];exact au) ar (by rw [r];exact Nat.le_refl _) (M.growRow id w.drew.heap.size gc (xs.length+ys.length) ((xs.length+ys.length)*sz)) (by simp [Mem.growRow]) aa
     (by
      refine ⟨ap,by rw [r];simp [Mem.growRow],fun _=>⟨by simp [Mem.growRow],rfl,by simp [Mem.growRow],?_⟩⟩
      simp [Mem.growRow,f2])
    rw [r] at aq
    exact .value ⟨_,_,_,hrun,d2.trans aa,ax,aq⟩
  | vec id ver o n' =>
   simp only at hob ⊢
   cases hvr:Zj0 st.rows id ver with
   | none=>simp [hvr] at hob
   | some q =>
   obtain ⟨sz',cs⟩:=q
   simp only [hvr] at hob ⊢
   obtain ⟨lx,⟨aj,hz,ah,bd,cx⟩,rfl,rfl,b0⟩:=hob
   obtain ⟨ys,o',rfl⟩:=ZfT lx
   simp only [ZaN] at *
   obtain ⟨z,a6⟩:=Option.isSome_iff_exists.1 hz
   obtain ⟨i',v,hi',hv,hc,aw,rfl⟩:=Zd5 a6
   rw [hi] at hi';cases hi'
   have az:=Zfl hvr
   have ap:id<M.NR:=by rw [h.st.NR];exact (List.getElem?_eq_some_iff.1 az).1
   obtain ⟨f1,f2,f3,f4,f5,f6,f7,cur,te,f8,f9,b1,bv,bz⟩:=h.st.row id _ az
   cases hRs with
   | @vec _ _ _ _ p cap hid' hver hh =>
   obtain ⟨rfl,hcap,b3⟩:=hh f1.symm
   simp only [Nat.add_zero,Nat.zero_mul] at hcap ⊢
   subst hcap
   obtain ⟨ux,x1,x2⟩:=hRx.list_open (fun y hy=>(cx y hy).1)
   have g:∀ i,i<ys.length→(ux i).cells.size=sz':=fun i hi=>(x1 i hi).1
   have bl:(Builtin.lenOf vx).run P w = .ok ys.length w:=by
    rcases x2 with ⟨rfl | ⟨_,rfl⟩,q,_⟩ | ⟨bx,ox,cx',_,rfl,_⟩
    ·
     subst q;rfl
    ·
     subst q;rfl
    ·
     rfl
   have av:(flat ux ys.length).length=ys.length*f.size:=by rw [ZaA g,m]
   have a5:(Builtin.firstCells sz' ys.length vx).run P w = .ok (flat ux ys.length).toArray w:=by
    rcases x2 with ⟨rfl | ⟨_,rfl⟩,q,_⟩ | ⟨bx,ox,cx',_,rfl,_,_,_,hcx⟩
    ·
     subst q;rfl
    ·
     subst q;simp [Builtin.firstCells,loadCells,loadCellsFrom,flat]
    ·
     exact run_firstCells_some w sz' ys.length ⟨bx,ox,none⟩ ys.length cx' (flat ux ys.length) (ZaA g) (Zer (w:=w) g aj hcx)
   have bf:=ZiX (fun y hy=>(cx y hy).1)
   have bo:=ZsW (fun i hi=>(x1 i hi).2) (fun y hy=>(cx y hy).2)
   have hcl:(cs.take (n'*sz')++ys.flatMap fun y=>y.pub.cells).length=(n'+ys.length)*sz':=by
    rw [List.length_append,bf,List.length_take,Nat.add_mul];omega
   have bh:∀ x∈cs.take (n'*sz')++ys.flatMap (fun y=>y.pub.cells),x.one=true:=by
    intro x hx
    rcases List.mem_append.1 hx with hx | hx
    ·
     exact bv x (List.mem_of_mem_take hx)
    ·
     exact bo x hx
   -- what the new cells stand for,in whatever block they lie
   have ab:∀ (cells:Array Value) (zs:List Value),cells.toList=cur.toList.take (n'*sz')++flat ux ys.length++zs→∀ (i:Nat) (v:Value) (x:AV),cells[i]? = some v→(cs.take (n'*sz')++ys.flatMap fun y=>y.pub.cells)[i]? = some x→R w0 M w v x:=by
    intro cells zs hcl' i v x a4 a2
    have bj:i<(n'+ys.length)*sz':=by rw [←hcl];exact (List.getElem?_eq_some_iff.1 a2).1
    rw [Nat.add_mul] at bj
    have bu:(cur.toList.take (n'*sz')).length=n'*sz':=by simp;omega
    rw [←Array.getElem?_toList,hcl',List.append_assoc] at a4
    by_cases q:i<n'*sz'
    ·
     rw [List.getElem?_append_left (by omega),List.getElem?_take,if_pos q,Array.getElem?_toList] at a4
     rw [List.getElem?_append_left (by simp;omega),List.getElem?_take,if_pos q] at a2
     obtain ⟨q1,rfl⟩:=Array.getElem?_eq_some_iff.1 a4
     obtain ⟨q2,rfl⟩:=List.getElem?_eq_some_iff.1 a2
     exact bz i q1 q2
    ·
     rw [List.getElem?_append_right (by omega),bu,List.getElem?_append_left (by rw [ZaA g];omega)] at a4
     rw [List.getElem?_append_right (by simp;omega)] at a2
     have e:(cs.take (n'*sz')).length=n'*sz':=by simp;omega
     rw [e] at a2
     exact ZCs aj x1 (fun y hy=>(cx y hy).1) a4 a2
   by_cases hroom:n'+ys.length≤M.cap id
   ·
    -- there is room
    have bc:n'*sz'+(flat ux ys.length).length≤cur.size:=by rw [ZaA g,f9,←Nat.add_mul];exact Nat.mul_le_mul_right _ hroom
    have hrun:=ZsT (P:=P) (w:=w) t ty el hu bi (M.blk id) n' (M.cap id) cur te f8 bl (flat ux ys.length) a5 (ZpS x1 (fun y hy=>(cx y hy).2)) hroom bc
    generalize hc':(cur.toList.take (n'*sz')++flat ux ys.length++cur.toList.drop (n'*sz'+(flat ux ys.length).length)).toArray=cur' at hrun
    have a7:cur'.size=cur.size:=by rw [←hc'];simp;omega
    have aa:Ext w0 M w (M.growRow id (M.blk id) (M.cap id) (ver+1) 0) (w.setRow (M.blk id) cur'):=by
     refine ZhQ (M:=M) (M.growRow id (M.blk id) (M.cap id) (ver+1) 0) rfl (fun _ _=>rfl) rfl (fun i hi=>?_) (fun b=>?_) f8 f3 (fun j hj=>by rw [f4] at hj;omega)
     ·
      by_cases c:i=id
      ·
       subst c
       simp only [Mem.growRow,if_true,f1]
       exact ⟨by omega,fun q=>absurd q (by omega)⟩
      ·
       simp only [Mem.growRow,if_neg c]
       exact ⟨Nat.le_refl _,fun _=>⟨trivial,trivial,trivial⟩⟩
     ·
      simp only [Mem.growRow]
      split
      ·
       rename_i c
       rw [c,f4]
       exact Nat.le_refl _
      ·
       exact Nat.le_refl _
    have bb:=h.st.row_lt ap
    have q:(M.growRow id (M.blk id) (M.cap id) (ver+1) 0).fr id=ver+1∧(M.growRow id (M.blk id) (M.cap id) (ver+1) 0).blk id=M.blk id∧(M.growRow id (M.blk id) (M.cap id) (ver+1) 0).cap id=M.cap id∧(M.growRow id (M.blk id) (M.cap id) (ver+1) 0).rsz id=M.rsz id∧(M.growRow id (M.blk id) (M.cap id) (ver+1) 0).top (M.blk id)=0:=by simp [Mem.growRow]
    obtain ⟨q1,q2,q3,q4,q5⟩:=q
    have ax:=h.st.growRow' az (x := .vec (ver+1) sz' (cs.take (n'*sz')++ys.flatMap fun y=>y.pub.cells)) (w':=w.setRow (M.blk id) cur') (b:=M.blk id) (cap:=M.cap id) (k:=ver+1) (tp:=0) (Below.setRow (Below.refl _ _) f3 _) (by simp) (by simpa using bb)
     (fun l hl=>⟨f5 l hl,setRow_other w _ _ _ (f5 l hl)⟩) (fun i hi a9=>by
      have:M.blk i≠M.blk id:=fun q=>a9 (h.st.rowinj i id hi ap q)
      exact ⟨this,setRow_other w _ _ _ this⟩) (by
      simp only [RowOk,q1,q2,q3,q4,q5]
      exact ⟨trivial,f2,f3,trivial,f5,f6,aj,cur',te,setRow_heap w _ cur cur' te _ f8,a7.trans f9,by rw [hcl,a7,f9];exact Nat.mul_le_mul_right _ hroom,bh,
       fun i a b=>(ab cur' _ (by rw [←hc']) i _ _ (Array.getElem?_eq_getElem a) (List.getElem?_eq_getElem b)).mono aa⟩) aa (KeepsObj.setRow f8 _)
    exact .value ⟨_,_,_,hrun,aa,ax,.vec ap (by rw [q1];exact Nat.le_refl _) fun _=>⟨by rw [q2];simp,by rw [q3];rfl,hroom⟩⟩
   ·
    -- a new block
    have hypos:0<ys.length:=by omega
    rcases x2 with ⟨_,q,_⟩ | ⟨bx,ox,cx',_,rfl,_,_,_,hcx⟩
    ·
     subst q;simp at hypos
    have ai:=Zer (w:=w) g aj hcx
    have a0:(n'+ys.length)*f.bytes≤140737488355328:=by rw [be];exact ah
    have a3:∀ (j:Nat) (u:Value),(cur.toList.take (n'*sz'))[j]? = some u→w.cell? ((⟨M.blk id,0,none⟩:Addr).add j)=some u:=by
     intro j u hj
     rw [List.getElem?_take] at hj
     split at hj
     ·
      rw [ZdD,Nat.zero_add,cell_of_row w _ j cur te _ f8,←Array.getElem?_toList];exact hj
     ·
      cases hj
    have a8:(cur.toList.take (n'*sz')).length=n'*f.size:=by simp;rw [m];omega
    have hrun:=run_append_grow (P:=P) w t ty el f v hu hi hv ⟨M.blk id,0,none⟩ n' (M.cap id) (cur.toList.take (n'*sz')) a8 a3 ⟨bx,ox,none⟩ ys.length cx' (flat ux ys.length) av ai (by omega) (by omega) (growslice_fits (by omega) a0)
    have am:n'+ys.length≤maxLen:=by simp [maxLen];omega
    have au:=grownCap_ge w (n'+ys.length) (M.cap id) el
    have ar:=grownCap_le_maxLen w (n'+ys.length) (M.cap id) el am
    generalize hcl':((cur.toList.take (n'*sz')).toArray++(flat ux ys.length).toArray++Builtin.zeroCells v.cells (grownCap w (n'+ys.length) (M.cap id) el-(n'+ys.length)))=cells at hrun
    have ao:cells.toList=cur.toList.take (n'*sz')++flat ux ys.length++(Builtin.zeroCells v.cells (grownCap w (n'+ys.length) (M.cap id) el-(n'+ys.length))).toList:=by rw [←hcl'];simp
    generalize grownCap w (n'+ys.length) (M.cap id) el=gc at *
    have af:cells.size=gc*sz':=by
     have:cells.size=cells.toList.length:=by simp
     rw [this,ao]
     simp only [List.length_append,a8,ZaA g,Array.length_toList,size_zeroCells,aw,m]
     rw [←Nat.add_mul,←Nat.add_mul]
     congr 1
     omega
    obtain ⟨d1,d2⟩:=h.st.drew
    have aa:Ext w0 M w.drew (M.growRow id w.drew.heap.size gc (ver+1) 0) (w.drew.alloc (.cells cells el)):=by
     refine ZlF _ _ (.inl rfl) (fun _ _=>rfl) (Nat.le_refl _) (fun i hi=>?_) (fun b hb=>?_)
     ·
      by_cases c:i=id
      ·
       subst c
       simp only [Mem.growRow,if_true,f1]
       exact ⟨by omega,fun q=>absurd q (by omega)⟩
      ·
       simp only [Mem.growRow,if_neg c]
       exact ⟨Nat.le_refl _,fun _=>⟨trivial,trivial,trivial⟩⟩
     ·
      simp only [Mem.growRow]
      rw [if_neg (by omega)]
      exact Nat.le_refl _
    have q:(M.growRow id w.drew.heap.size gc (ver+1) 0).fr id=ver+1∧(M.growRow id w.drew.heap.size gc (ver+1) 0).blk id=w.drew.heap.size∧(M.growRow id w.drew.heap.size gc (ver+1) 0).cap id=gc∧(M.growRow id w.drew.heap.size gc (ver+1) 0).rsz id=M.rsz id∧(M.growRow id w.drew.heap.size gc (ver+1) 0).top w.drew.heap.size=0:=by simp [Mem.growRow]
    obtain ⟨q1,q2,q3,q4,q5⟩:=q
    have bg:∀ l,l<M.N→M.bx l≠w.drew.heap.size:=fun l hl=>by have:=h.st.box_lt hl;intro q;simp at q;omega
    have ax:=d1.growRow' az (x := .vec (ver+1) sz' (cs.take (n'*sz')++ys.flatMap fun y=>y.pub.cells)) (w':=w.drew.alloc (.cells cells el)) (b:=w.drew.heap.size) (cap:=gc) (k:=ver+1) (tp:=0) ((Below.refl _ w.drew).alloc h.st.base_le _) (by simp) (by simp)
     (fun l hl=>by have:=h.st.box_lt hl;exact ⟨bg l hl,Za1 _ _ this⟩) (fun i hi a9=>by have:=h.st.row_lt hi;exact ⟨fun q=>by simp at q;omega,Za1 _ _ this⟩) (by
      simp only [RowOk,q1,q2,q3,q4,q5]
      exact ⟨trivial,f2,h.st.base_le,trivial,bg,ar,aj,cells,el,heap_alloc_new w.drew _,af,by rw [hcl,af];exact Nat.mul_le_mul_right _ au,bh,
       fun i a b=>((ab cells _ ao i _ _ (Array.getElem?_eq_getElem a) (List.getElem?_eq_getElem b)).mono d2).mono aa⟩) aa (KeepsObj.alloc _ _)
    exact .value ⟨_,_,_,hrun,d2.trans aa,ax,.vec ap (by rw [q1];exact Nat.le_refl _) fun _=>⟨by rw [q2];simp,by rw [q3];rfl,au⟩⟩
  | _=>exact hob.elim
theorem Yields'.congr {s s':Sem Next} {st':St} {r:AV} (h:Yields' P w0 M st' r w s) (e:s'.run P w=s.run P w):Yields' P w0 M st' r w s':=by
 obtain ⟨v,w',M',h1,h2⟩:=h
 exact ⟨v,w',M',by rw [e];exact h1,h2⟩
theorem Zh6 (b:Builtin) (args:Array Operand) (ts:Array TypeId) (dst:Option Tmp) (type:TypeId) (pos:String) (after:Array Edge) (guard:Option (Nat × Bool)) (s:Sem Value)
  (hb:∀ cs,builtin b ts type cs (args.map a.eval)=(do pure (.value (← s)):Sem Next)) :
  (execOp a.eval ⟨dst,.call ⟨.builtin b,args,ts⟩,type,pos,after,guard⟩).run P w=((do pure (.value (← s)):Sem Next)).run P w:=by
 simp only [execOp,resolve,invoke,Sem.run_bind,Sem.run_pure,Result.andThen_ok]
 rw [hb]
 simp
theorem ZmQ {t:TypeId} (h:ZoZ P t=true):∃ el,P.underlying t=some (.slice el)∧P.underlying el=some (.int .u8)∧tyT P el=some (1,false):=by
 unfold ZoZ at h
 split at h
 ·
  rename_i el h1
  simp only [Bool.and_eq_true] at h
  obtain ⟨h2,h3⟩:=h
  refine ⟨el,h1,?_,?_⟩
  ·
   split at h2
   ·
    assumption
   ·
    cases h2
  ·
   split at h3
   ·
    assumption
   ·
    cases h3
 ·
  cases h
theorem ZrR (r:Int):(Utf8.encode r).size≤4:=by
 unfold Utf8.encode
 dsimp only
 (repeat' split)<;>simp [ByteArray.size]
theorem ZtB (h:Rel w0 n M e st a w) (s d:TypeId) (x:Operand) (hob:(Zcl P e true st (.convert s d x)).1) :
  Yields' P w0 M (Zcl P e true st (.convert s d x)).2.2 (Zcl P e true st (.convert s d x)).2.1 w (do pure (.value (← convert s d (a.eval x)))):=by
 unfold Zcl at hob ⊢
 cases hs:ZrH P s with
 | some k1 =>
  cases hd:ZrH P d with
  | some k =>
   simp only [hs,hd] at hob ⊢
   obtain ⟨hx,hi,hk⟩:=hob
   obtain ⟨ex,_⟩:=(Zbv h hx).int hi
   rw [ex]
   refine .here h.st (v := .int k (ZaF (Zav e x))) ?_ (.flat rfl)
   simp [convert,run_underlying (Znu hs),run_underlying (Znu hd),Conv.intToInt,ZjP hk]
  | none =>
   simp only [hs,hd] at hob ⊢
   obtain ⟨hx,hi,aa⟩:=hob
   obtain ⟨ex,_⟩:=(Zbv h hx).int hi
   rw [ex]
   exact .here h.st (run_convert_int_string w s d _ _ (by rw [Znu hs];rfl) (ZdK aa)) (.flat (decide_eq_true (Nat.le_trans (ZrR _) (by decide))))
 | none =>
  simp only [hs] at hob ⊢
  by_cases hc:(ZmO P s&&ZmO P d)=true
  ·
   simp only [hc,if_true] at hob ⊢
   simp only [Bool.and_eq_true] at hc
   obtain ⟨hx,hi⟩:=hob
   have hR:=Zbv h hx
   refine .here h.st (v:=a.eval x) ?_ hR
   obtain ⟨q,hq⟩:∃ q,Zav e x = .val (.string q):=by
    cases hv:Zav e x<;>rw [hv] at hi<;>try cases hi
    rename_i v
    cases v<;>first | exact ⟨_,rfl⟩ | cases hi
   rw [hq] at hR
   obtain ⟨ev,_⟩:=hR.val_inv
   rw [ev]
   simp [convert,run_underlying (ZdK hc.1),run_underlying (ZdK hc.2)]
  ·
   simp only [hc,if_false,Bool.false_eq_true] at hob ⊢
   by_cases hc2:(ZoZ P s&&ZmO P d)=true
   ·
    simp only [hc2,if_true] at hob ⊢
    simp only [Bool.and_eq_true] at hc2
    obtain ⟨el,hu,he,ag⟩:=ZmQ hc2.1
    split at hob
    ·
     rename_i id ver o n' hx0
     cases hvr:Zj0 st.rows id ver with
     | none=>simp [hvr] at hob
     | some q =>
     obtain ⟨ah,cs⟩:=q
     simp only [hvr] at hob ⊢
     obtain ⟨hx,rfl,ap,c,g⟩:=hob
     have hR:=Zbv h hx
     rw [hx0] at hR
     obtain ⟨f1,f2,f3,f4,f5,f6,f7,ab,te,f8,f9,ar,aq,aj⟩:=h.st.row id _ (Zfl hvr)
     obtain ⟨v,hev⟩:∃ v,a.eval x=v:=⟨_,rfl⟩
     rw [hev] at hR ⊢
     cases hR with
     | @vec _ _ _ _ p cap hid hver hh =>
     obtain ⟨rfl,r,au⟩:=hh f1.symm
     have hl:((cs.drop o).take n').length=n':=by simp;omega
     have f:(Zfu ((cs.drop o).take n')).size=n':=by simp [Zfu,ByteArray.size];omega
     have m:Zh8 (.string (Zfu ((cs.drop o).take n')))=true:=by simp [Zh8,maxLen,f];exact c
     have:=run_convert_bytes_back (P:=P) w s d el ⟨M.blk id,o*M.rsz id,none⟩ cap (((cs.drop o).take n').map fun x=>UInt8.ofNat (ZaF x).toNat) hu he (ZdK hc2.2) (fun j hj=>by
      have t:j<n':=by rw [List.length_map,hl] at hj;exact hj
      have e1:((cs.drop o).take n')[j]'(by omega)=cs[o+j]'(by omega):=by simp
      have hq:=g _ (List.getElem_mem (l:=(cs.drop o).take n') (n:=j) (by omega))
      rw [e1] at hq
      have hr:=aj (o+j) (by omega) (by omega)
      rw [ZdD,f2,Nat.mul_one,cell_of_row w _ (o+j) ab te _ f8,Array.getElem?_eq_getElem (show o+j<ab.size by omega)]
      simp only [List.getElem_map,e1]
      generalize cs[o+j]'(by omega)=y at hq hr
      cases y with
      | val u =>
       cases u<;>try exact hq.elim
       rename_i k n
       cases k<;>try exact hq.elim
       obtain ⟨n0,n1⟩:0≤n∧n≤255:=hq
       rw [hr.val_inv.1]
       simp only [ZaF]
       have:(UInt8.ofNat n.toNat).toNat=n.toNat:=by simp;omega
       rw [this]
       simp
       omega
      | _=>exact hq.elim)
     rw [List.length_map,hl] at this
     exact .here h.st (v := .string (Zfu ((cs.drop o).take n'))) this (.flat m)
    rename_i hx0
    obtain ⟨hx,hi,c,g⟩:=hob
    have hR:=Zbv h hx
    obtain ⟨xs,o,ak⟩:=ZfT hi
    rw [ak] at hR c g ⊢
    simp only [ZaN] at c g ⊢
    have ao:∀ y∈xs,y.cells.length=1:=fun y hy=>by
     have:=g y hy
     cases y<;>first | rfl | exact this.elim
    obtain ⟨us,h1,h2⟩:=hR.list_open ao
    have f:(Zfu xs).size=xs.length:=by simp [Zfu,ByteArray.size]
    have m:Zh8 (.string (Zfu xs))=true:=by simp [Zh8,maxLen,f];exact c
    rcases h2 with ⟨ev | ⟨ad,ev⟩,rfl,_⟩ | ⟨b,off,cap,ah,ev,_,_,_,hcell⟩
    ·
     rw [ev]
     have:=run_convert_bytes_nil (P:=P) w s el hu he 0 0 d (ZdK hc2.2)
     exact .here h.st (v := .string ByteArray.empty) this (.flat rfl)
    ·
     rw [ev]
     have:=run_convert_bytes_back (P:=P) w s d el ad 0 [] hu he (ZdK hc2.2) (fun j hj=>absurd hj (by simp))
     exact .here h.st (v := .string ByteArray.empty) this (.flat rfl)
    ·
     rw [ev]
     have hb:∀ i (hi:i<xs.length),∃ n:Int,0≤n∧n≤255∧xs[i] = .val (.int .u8 n)∧us i = .int .u8 n:=fun i hi=>by
      have hq:=g _ (List.getElem_mem hi)
      have hr:=(h1 i hi).2
      cases hv:xs[i] with
      | val u =>
       rw [hv] at hq hr
       cases u<;>try exact hq.elim
       rename_i k n
       cases k<;>try exact hq.elim
       exact ⟨n,hq.1,hq.2,rfl,hr.val_inv.1⟩
      | _=>rw [hv] at hq;exact hq.elim
     have:=run_convert_bytes_back (P:=P) w s d el ⟨b,off,none⟩ cap (xs.map fun x=>UInt8.ofNat (ZaF x).toNat) hu he (ZdK hc2.2) (fun j hj=>by
      have t:j<xs.length:=by simpa using hj
      obtain ⟨n,n0,n1,e1,e2⟩:=hb j t
      have hc:=hcell j t 0 (by omega)
      rw [e2] at hc
      simp only [Nat.mul_one,Nat.add_zero] at hc
      rw [ZdD,hc]
      simp only [List.getElem_map,e1,ZaF,Value.cells]
      have:(UInt8.ofNat n.toNat).toNat=n.toNat:=by simp;omega
      rw [this]
      simp
      omega)
     simp only [List.length_map] at this
     exact .here h.st (v := .string (Zfu xs)) this (.flat m)
   ·
    simp only [hc2,if_false,Bool.false_eq_true] at hob ⊢
    by_cases hc3:(ZmO P s&&ZoZ P d)=true
    ·
     simp only [hc3,if_true] at hob ⊢
     simp only [Bool.and_eq_true] at hc3
     obtain ⟨el,hu,he,ag⟩:=ZmQ hc3.2
     obtain ⟨_,hx,hi⟩:=hob
     have hR:=Zbv h hx
     obtain ⟨q,hq⟩:∃ q,Zav e x = .val (.string q):=by
      cases hv:Zav e x<;>rw [hv] at hi<;>try cases hi
      rename_i v
      cases v<;>first | exact ⟨_,rfl⟩ | cases hi
     rw [hq] at hR ⊢
     obtain ⟨ev,m⟩:=hR.val_inv
     rw [ev]
     simp only [ZAn]
     have ai:q.size≤maxLen:=by simpa [Zh8] using m
     have ae:=Lib.run_convert_string_bytes (P:=P) w s d el q (ZdK hc3.1) hu he
     have af:Below w.heap.size w (Lib.bytesWorld w el q):=⟨rfl,rfl,rfl,by rw [Lib.bytesWorld_size];omega,fun k hk=>Lib.bytesWorld_at_old w el q k hk⟩
     obtain ⟨r1,r2⟩:=h.st.later af w.heap.size q.size (Nat.le_refl _) (.inl (by rw [Lib.bytesWorld_size];omega))
     have r:=grownCap_ge w q.size 0 el
     have z:=grownCap_le_maxLen w q.size 0 el ai
     have c:(Zfn q.data.toList).length=q.size:=by simp [Zfn]
     refine .value ⟨_,_,_,ae,r2,r1,?_⟩
     have:=R.list (w0:=w0) (M:=M.newTop w.heap.size q.size) (w:=Lib.bytesWorld w el q) (b:=w.heap.size) (off:=0) (cap:=grownCap w q.size 0 el) (xs:=Zfn q.data.toList) (o := .none) 1 (fun i => .int .u8 (q.data.toList.getD i 0).toNat)
      (by rw [c];exact r) z (fun i hi=>⟨rfl,fun j hj=>⟨.inr (by rw [c] at hi;simp [Mem.newTop];omega),by
       rw [c] at hi
       have hj0:j=0:=by omega
       subst hj0
       simp only [Nat.mul_one,Nat.zero_add,Nat.add_zero]
       rw [Lib.bytesWorld_cell w el q i hi]
       rfl⟩⟩) (fun i hi=>by
       have am:i<q.data.toList.length:=by rw [c] at hi;exact hi
       simp only [Zfn,List.getElem_map]
       rw [show q.data.toList.getD i 0=q.data.toList[i] from by simp [List.getD,List.getElem?_eq_getElem am]]
       exact .flat rfl) trivial
     rw [c] at this
     exact this
    ·
     simp only [hc3] at hob
     exact hob.elim
theorem Zgo {z:List AV} {sz:Nat} (hz:z.length=sz):∀ (m j:Nat) (x:AV),((List.replicate m z).flatten)[j]? = some x→0<sz∧z[j % sz]? = some x
 | 0,j,x,h=>by simp at h
 | m+1,j,x,h=>by
  rw [List.replicate_succ,List.flatten_cons] at h
  by_cases c:j<z.length
  ·
   rw [List.getElem?_append_left c] at h
   exact ⟨by omega,by rw [Nat.mod_eq_of_lt (by omega)];exact h⟩
  ·
   rw [List.getElem?_append_right (by omega)] at h
   obtain ⟨h1,h2⟩:=Zgo hz m _ x h
   refine ⟨h1,?_⟩
   rw [hz] at h2
   rw [←h2]
   congr 1
   rw [←Nat.mod_eq_sub_mod (by omega)]
theorem Zrd (h:Rel w0 n M e st a w) (t:TypeId) (len cap:Operand) (hob:(Zcl P e true st (.makeSlice t len cap)).1) :
  Yields' P w0 M (Zcl P e true st (.makeSlice t len cap)).2.2 (Zcl P e true st (.makeSlice t len cap)).2.1 w (do pure (.value (← Instr.makeSlice t (a.eval len) (a.eval cap)))):=by
 unfold Zcl at hob ⊢
 cases he:elT P t with
 | none=>simp [he] at hob
 | some p =>
 obtain ⟨el,sz,ag,a0⟩:=p
 cases hz:ZeE P el with
 | none=>simp [he,hz] at hob
 | some z =>
 simp only [he,hz] at hob ⊢
 obtain ⟨_,hl,hc,il,ic,h0,h1,ap,ay,aj,y,ar⟩:=hob
 obtain ⟨ab,hu,hi,ax,aq⟩:=Zfk he
 have ak:ab.size=sz:=by
  obtain ⟨i',d,h1,h2,_⟩:=ZjG aq
  rw [hi] at h1;cases h1;exact h2
 obtain ⟨i',v,hi',hv,m,az,rfl⟩:=Zd5 hz
 rw [hi] at hi';cases hi'
 obtain ⟨av,_⟩:=(Zbv h hl).int il
 obtain ⟨au,_⟩:=(Zbv h hc).int ic
 generalize ZaF (Zav e len)=l at *
 generalize ZaF (Zav e cap)=c at *
 obtain ⟨l',rfl⟩:=Int.eq_ofNat_of_zero_le h0
 obtain ⟨c',rfl⟩:=Int.eq_ofNat_of_zero_le (Int.le_trans h0 h1)
 have b:=run_make (P:=P) w t el ab v hu hi hv (ZiH (Zav e len)) (ZiH (Zav e cap)) l' c' h0 h1 (by rw [ax,Int.mul_comm];omega) (by omega)
 rw [←av,←au] at b
 simp only [Int.toNat_natCast,ak] at b
 have r:c'≤maxLen:=by unfold maxLen;omega
 have ae:=size_madeCells v.cells (c'*sz)
 have g:RowR w0 M w v.cells (ZiV v).cells:=(ZnG m).cells
 have ad:=(ZnG (w0:=w0) (M:=M) (w:=w) m).cellsOne (fun vs e=>by have:=Zi8 m;rw [e] at this;cases this)
 by_cases hl0:(l':Int)=0
 ·
  rw [if_pos hl0,if_pos hl0]
  have:l'=0:=by omega
  subst this
  obtain ⟨r1,r2⟩:=h.st.addRow (cs:=madeCells v.cells (c'*sz)) (ty:=el) (k:=0) (sz:=sz) r (Nat.zero_le _) ae
  refine .value ⟨_,_,_,b,r2,r1,?_⟩
  have hN:=h.st.NR
  exact R.list (xs:=[]) sz (fun _=>undef) (Nat.zero_le _) r (fun i hi=>absurd hi (by simp)) (fun i hi=>absurd hi (by simp)) ⟨by simp [Mem.addRow,hN],by simp [Mem.addRow,hN],fun _=>by simp [Mem.addRow,hN]⟩
 ·
  rw [if_neg hl0,if_neg hl0]
  by_cases hmk0:Zhx e t=true
  case neg =>
   rw [if_neg hmk0,if_neg hmk0]
   obtain rfl:sz=1:=by
    rcases ar with q | q | q
    ·
     exact absurd q hl0
    ·
     exact absurd q hmk0
    ·
     exact q
   have s:v.cells.size=1:=by rw [g.1,y]
   obtain ⟨u,hu0⟩:∃ u,v.cells[0]? = some u:=⟨_,Array.getElem?_eq_getElem (by omega)⟩
   have am:(ZiV v).cells[0]? = some (nth (ZiV v).cells 0):=by
    rw [List.getElem?_eq_getElem (by omega)]
    simp [nth,List.getD,List.getElem?_eq_getElem (show 0<(ZiV v).cells.length by omega)]
   have ah:R w0 M w u (nth (ZiV v).cells 0):=g.get hu0 am
   have af:(nth (ZiV v).cells 0).one=true:=ad _ (List.mem_of_getElem? am)
   have aa:u.cells = #[u]:=(ah.cells_one af).1
   obtain ⟨ai,hx⟩:=h.st.newTop (madeCells v.cells (c'*1)) el (c'*1)
   have f:(List.replicate l' (nth (ZiV v).cells 0)).length=l':=List.length_replicate
   have hR:=R.row (us:=fun _=>u) (xs:=List.replicate l' (nth (ZiV v).cells 0)) (cs:=madeCells v.cells (c'*1)) (ty:=el) (sz:=1) (k:=c'*1) (cap:=c') (o := .none)
    (fun i hi=>⟨by rw [aa];rfl,by rw [List.getElem_replicate];exact ah⟩)
    (fun i hi j hj=>by
     have hi':i<l':=by rw [f] at hi;exact hi
     have:i*1+j<c'*1:=by omega
     have h3:(madeCells v.cells (c'*1))[i*1+j]? = some v.cells[(i*1+j) % v.cells.size]! := by
      simp only [madeCells,Array.getElem?_map,Array.getElem?_range,if_pos this,Option.map_some]
     obtain rfl:j=0:=by omega
     rw [h3,s,Nat.mod_one,aa,getElem!_pos v.cells 0 (by omega)]
     rw [Array.getElem?_eq_getElem (by omega)] at hu0
     simpa using hu0)
    (by rw [f];omega) r (by rw [f];omega) (M.newTop w.heap.size (c'*1)) (by simp [Mem.newTop]) hx trivial
   rw [f] at hR
   exact .value ⟨_,_,_,b,hx,ai,hR⟩
  rw [if_pos hmk0,if_pos hmk0]
  obtain ⟨r1,r2⟩:=h.st.addVec (cs:=madeCells v.cells (c'*sz)) (ty:=el) (cap:=c') (sz:=sz) (xs:=(List.replicate l' (ZiV v).cells).flatten) r aj ae
   (by rw [ae];simp only [List.length_flatten,List.map_replicate,List.sum_replicate_nat,y];exact Nat.mul_le_mul_right _ (by omega))
   (fun x hx=>by
    obtain ⟨q,hq,hx⟩:=List.mem_flatten.1 hx
    rw [List.eq_of_mem_replicate hq] at hx
    exact ad x hx)
   (fun i u x aw hx=>by
    obtain ⟨_,h2⟩:=Zgo y l' i x hx
    have h3:u=v.cells[i % v.cells.size]! := by
     obtain ⟨q1,q2⟩:=Array.getElem?_eq_some_iff.1 aw
     rw [←q2];simp [madeCells]
    have s:v.cells.size=sz:=by rw [g.1,y]
    have h4:v.cells[i % sz]? = some u:=by
     have ao:i % sz<v.cells.size:=by rw [s];exact Nat.mod_lt _ aj
     rw [h3,s,getElem!_pos v.cells (i % sz) ao,Array.getElem?_eq_getElem ao]
    exact g.get h4 h2)
  refine .value ⟨_,_,_,b,r2,r1,?_⟩
  have hN:=h.st.NR
  exact .vec (by simp [Mem.addRow,hN]) (Nat.zero_le _) fun _=>⟨by simp [Mem.addRow,hN],by simp [Mem.addRow,hN],by omega⟩
theorem Zr2 (h:Rel w0 n M e st a w) (t:TypeId) (m:Nat) (ps:Array (Nat × Operand)) (hmk:Zhx e t=true) (hob:(Zcl P e true st (.buildSlice t m ps)).1) :
  Yields' P w0 M (Zcl P e true st (.buildSlice t m ps)).2.2 (Zcl P e true st (.buildSlice t m ps)).2.1 w (do pure (.value (← Instr.buildSlice t m (ps.map fun (i,x)=>(i,a.eval x))))):=by
 unfold Zcl at hob ⊢
 cases he:elT P t with
 | none=>simp [he] at hob
 | some p =>
  obtain ⟨el,sz,ag,ar⟩:=p
  simp only [he,hmk] at hob ⊢
  obtain ⟨_,ae,hr,aq,b,hz,r,ak⟩:=hob
  obtain ⟨i,hu,hi,_,aa⟩:=Zfk he
  obtain ⟨z,ao⟩:=Option.isSome_iff_exists.1 hz
  obtain ⟨i',v,q,hv,hc,hs,rfl⟩:=Zd5 ao
  have hl:ps.toList.length=m:=by simpa using congrArg List.length hr
  have c:∀ p∈ps.toList,(a.eval p.2).cells.size=sz:=fun p hp=>by
   rw [(Zbv h (ae p hp)).cells.1]
   exact r _ (List.mem_map.2 ⟨p,hp,rfl⟩)
  obtain ⟨zc,hzc⟩:∃ zc:Array Value,if m*sz=0 then zc = #[] else zc=v.cells:=by
   by_cases h0:m*sz=0
   ·
    exact ⟨#[],by rw [if_pos h0]⟩
   ·
    exact ⟨v.cells,by rw [if_neg h0]⟩
  obtain ⟨l,a1,a2,a3,a4⟩:=Zpy sz (ps.toList.map fun p=>a.eval p.2) 0 ((Array.range (m*sz)).map (zc[· % zc.size]!)) (fun u hu=>by obtain ⟨p,hp,rfl⟩:=List.mem_map.1 hu;exact c p hp) (by simp [hl])
  have hm:m≤maxLen:=by
   have:m*1≤m*sz:=Nat.mul_le_mul_left _ b
   simp [maxLen];omega
  let us:Nat→Value:=fun i=>(ps.toList.map fun p=>a.eval p.2).getD i undef
  have s:∀ i (hi:i<(ps.toList.map fun p=>Zav e p.2).length),(us i).cells.size=sz∧R w0 M w (us i) (ps.toList.map fun p=>Zav e p.2)[i]:=fun i hi=>by
   have q:i<ps.toList.length:=by simpa using hi
   have ai:i<ps.size:=by simpa using q
   have e1:us i=a.eval (ps.toList[i]).2:=by simp [us,List.getD,Array.getElem?_eq_getElem ai]
   rw [e1]
   refine ⟨c _ (List.getElem_mem _),?_⟩
   simp only [List.getElem_map]
   exact Zbv h (ae _ (List.getElem_mem _))
  have o:(ps.toList.map fun p=>Zav e p.2).length=m:=by simp [←hl]
  have af:=ZiX (ys:=ps.toList.map fun p=>Zav e p.2) (sz:=sz) r
  rw [o] at af
  have d:l.size=m*sz:=by rw [a2];simp
  have k:∀ j,j<m*sz→(flat us m)[j]? = l[j]? := fun j hj=>by
   have hk:j / sz<m:=(Nat.div_lt_iff_lt_mul b).2 hj
   have ab:=Nat.mod_lt j b
   have ej:j / sz*sz+j % sz=j:=by rw [Nat.mul_comm];exact Nat.div_add_mod j sz
   have f:=Zhn (us:=us) (m:=m) (sz:=sz) (fun i hi=>(s i (by rw [o];exact hi)).1) (j / sz) hk (j % sz) ab
   rw [ej] at f
   have am:j / sz<ps.toList.length:=by omega
   have ap:j / sz<ps.size:=by simpa using am
   have f2:=a4 (j / sz) (us (j / sz)) (by simp [us,List.getD,Array.getElem?_eq_getElem ap]) (j % sz) ab
   rw [Nat.zero_add,ej] at f2
   rw [f,f2]
  obtain ⟨ad,hx⟩:=h.st.addVec (cs:=l) (ty:=el) (cap:=m) (sz:=sz) (xs:=(ps.toList.map fun p=>Zav e p.2).flatMap fun y=>y.pub.cells) hm b d (by rw [af,d];exact Nat.le_refl _) (ZsW (fun i hi=>(s i hi).2) ak)
   (fun i v x g aj=>by
    have hi:i<m*sz:=by rw [←d];exact (Array.getElem?_eq_some_iff.1 g).1
    rw [←k i hi] at g
    rw [←o] at g
    exact ZCs b s r g aj)
  have hN:=h.st.NR
  refine .value ⟨.slice (some ⟨w.heap.size,0,none⟩) m m,_,_,?_,hx,ad,.vec (by simp [Mem.addRow,hN]) (Nat.zero_le _) fun _=>⟨by simp [Mem.addRow,hN],by simp [Mem.addRow,hN],Nat.le_refl _⟩⟩
  have e0:¬ (m*sz > 2 ^ 24):=by omega
  have ah:(ps.map fun (i,x)=>(i,a.eval x)).toList=((ps.toList.map fun p=>a.eval p.2).zipIdx 0).map fun x=>(x.2,x.1):=by
   rw [Array.toList_map]
   exact Zrs hr a.eval
  by_cases h0:m*sz=0
  ·
   rw [if_pos h0] at hzc
   subst hzc
   simp only [Instr.buildSlice,Sem.run_bind,run_underlying hu,Result.andThen_ok,Zbk aa,if_neg e0,if_pos h0,Sem.run_pure,ah,a1,newRow,run_newObj]
   rfl
  ·
   rw [if_neg h0] at hzc
   subst hzc
   simp only [Instr.buildSlice,Sem.run_bind,run_underlying hu,Result.andThen_ok,Zbk aa,if_neg e0,if_neg h0,Sem.run_pure,zeroValue,typeInfo,run_program,q,hv,ah,a1,newRow,run_newObj]
   rfl
theorem Zxm (h:Rel w0 n M e st a w) (o:Oper) (hob:(Zcl P e true st o.op).1) :
  Yields' P w0 M (Zcl P e true st o.op).2.2 (Zcl P e true st o.op).2.1 w (execOp a.eval o):=by
 obtain ⟨q,op,g,p,j,k⟩:=o
 cases op with
 | move x=>exact ZiD h.st rfl (Zbv h hob)
 | assign x=>exact ZiD h.st rfl (Zbv h hob)
 | pick c x y=>exact Zz5 h c x y hob
 | alloc t=>exact Zxz h t hob
 | box t x=>exact ZBI h t x hob
 | build t ps=>exact ZwW h t ps hob
 | buildSlice t m ps =>
  cases hmk:Zhx e t with
  | false=>exact ZpM h t m ps hmk hob
  | true=>exact Zr2 h t m ps hmk hob
 | load t x =>
  have:=ZzQ h t x hob
  have e:(Zcl P e true st (.load t x)).2.2=st:=by simp only [Zcl];split<;>rfl
  simp only [e]
  exact this
 | store t x v=>exact Zxt h t x v hob
 | nilCheck x=>exact ZrY h ⟨q,.nilCheck x,g,p,j,k⟩ x rfl hob
 | binOp op t x y u=>exact ZxL h op t x y u hob
 | unOp op t x=>exact Zzy h op t x hob
 | convert s d x=>exact ZtB h s d x hob
 | makeFunc f fi cap =>
  cases f with
  | func f=>exact Zr9 h f fi cap hob
  | _=>exact hob.elim
 | slice t x lo hi mx=>exact Zx4 h t x lo hi mx hob
 | makeSlice t len cap=>exact Zrd h t len cap hob
 | fieldAddr t x f=>exact Zq5 h t x f hob
 | field t x f=>exact Zyk h t x f hob
 | indexAddr t x i=>exact ZqK h t x i hob
 | index t x i=>exact ZxE h t x i hob
 | extract x i=>exact Zup h x i hob
 | call c =>
  obtain ⟨callee,l,ts⟩:=c
  cases callee with
  | builtin b =>
   cases b with
   | len =>
    simp only [Zcl] at hob ⊢
    split at hob
    ·
     rename_i x t hx ht
     obtain ⟨h1,h2⟩:=hob
     have ea:l = #[x]:=Array.toList_inj.1 (by simpa using hx)
     have et:ts = #[t]:=Array.toList_inj.1 (by simpa using ht)
     subst ea;subst et
     exact (ZBr h x t g h1 h2).congr (Zh6 .len #[x] #[t] q g p j k _ (fun _=>by simp [builtin]))
    ·
     exact hob.elim
   | append =>
    simp only [Zcl] at hob ⊢
    split at hob
    ·
     rename_i s x t t' hx ht
     obtain ⟨_,h1,h2,rfl,h3⟩:=hob
     have ea:l = #[s,x]:=Array.toList_inj.1 (by simpa using hx)
     have et:ts = #[t,t]:=Array.toList_inj.1 (by simpa using ht)
     subst ea;subst et
     exact (Zqb h s x t g h1 h2 h3).congr (Zh6 .append #[s,x] #[t,t] q g p j k _ (fun _=>by simp [builtin]))
    ·
     exact hob.elim
   | min =>
    simp only [Zcl] at hob ⊢
    split at hob
    ·
     rename_i x y hx
     obtain ⟨h1,h2,h3,h4,_⟩:=hob
     have ea:l = #[x,y]:=Array.toList_inj.1 (by simpa using hx)
     subst ea
     exact (ZBa h x y ts g h1 h2 h3 h4).congr (Zh6 .min #[x,y] ts q g p j k _ (fun _=>by simp [builtin]))
    ·
     exact hob.elim
   | max =>
    simp only [Zcl] at hob ⊢
    split at hob
    ·
     rename_i x y hx
     obtain ⟨h1,h2,h3,h4⟩:=hob
     have ea:l = #[x,y]:=Array.toList_inj.1 (by simpa using hx)
     subst ea
     exact (ZBx h x y ts g h1 h2 h3 h4).congr (Zh6 .max #[x,y] ts q g p j k _ (fun _=>by simp [builtin]))
    ·
     exact hob.elim
   | _=>exact hob.elim
  | _=>exact hob.elim
 | _=>exact hob.elim
end
def FW (ro:Option Nat):Fence:={ Fence.wide with round:=ro }
theorem ZtJ (ro:Option Nat) (f:FuncId):(FW ro).fn f:=trivial
theorem ZpB (ro:Option Nat):(FW ro).depth.isSome=true→∀ n,1≤n:=fun h=>by cases h
theorem Zoe {ro:Option Nat} {n:Nat} {P:Program} {f:FuncId} {args:Array Value} {w:World} {Q:Ending→World→Prop} (h:Calls P f args w Q):CallsIn (FW ro) n P f args w Q:=by
 cases ro with
 | none=>exact callsIn_wide.2 h
 | some l=>exact CallsIn.inRound (F:=Fence.wide) l (callsIn_wide.2 h)
theorem ZmI {n:Nat} {P:Program} {f:FuncId} {args:Array Value} {w:World} {Q:Ending→World→Prop} (h:CallsIn (FW none) n P f args w Q):Calls P f args w Q:=callsIn_wide.1 h
def ZiW (P:Program) (f:FuncId):Prop:=∀ args w,(callFunc f args).run P w = .ok (.enter f args) w
def Comes' (w0:World) (M:Mem) (w:World) (Post:AV→St→Prop) (en:Ending) (w':World):Prop :=
 ∃ v M' r st',en = .returned v∧Post r st'∧Ext w0 M w M' w'∧RelSt w0 M' st' w'∧R w0 M' w' v r
def ACalls (P:Program) (w0:World) (f:FuncId) (args:List AV) (st:St) (Post:AV→St→Prop):Prop :=
 ZiW P f∧∀ (M:Mem) (w:World) (vals:Array Value),RelSt w0 M st w→RowR w0 M w vals args→Calls P f vals w (Comes' w0 M w Post)
theorem Comes'.mono {w0:World} {M:Mem} {w:World} {Post Post':AV→St→Prop} (hp:∀ r s,Post r s→Post' r s) {en:Ending} {w':World} (h:Comes' w0 M w Post en w'):Comes' w0 M w Post' en w' :=
 let ⟨v,M',r,st',a1,a2,a3,a4,a5⟩:=h;⟨v,M',r,st',a1,hp _ _ a2,a3,a4,a5⟩
theorem ACalls.mono {P:Program} {w0:World} {f:FuncId} {args:List AV} {st:St} {Post Post':AV→St→Prop} (h:ACalls P w0 f args st Post) (hp:∀ r s,Post r s→Post' r s):ACalls P w0 f args st Post' :=
 ⟨h.1,fun M w a h1 h2=>(h.2 M w a h1 h2).mono fun _ _ h=>h.mono hp⟩
def Zq9 (P:Program) (w0:World) (k:Nat) (args:List AV) (st:St) (Post:AV→St→Prop):Prop :=
 ∀ (M:Mem) (w:World) (vals:Array Value),RelSt w0 M st w→RowR w0 M w vals args →
  ∃ fn tmps asg body,(Instr.yield (M.lb k) vals).run P w = .ok (.round (M.lb k) fn tmps asg body) w∧∀ n,RoundIn Fence.wide n P (M.lb k) fn tmps asg body w (Comes' w0 M w Post)
def Zl1 (P:Program) (w0:World) (fv:AV) (args:List AV) (st:St) (Post:AV→St→Prop):Prop :=
 match fv with
 | .clo f cs=>ACalls P w0 f (args++cs) st Post
 | .yld k=>Zq9 P w0 k args st Post
 | _=>False
def ZnV (e:Env) (dst:Option Nat) (c:Bool) (v:AV):Env :=
 match dst with
 | some d=>(d,c,v)::e
 | none=>e
def ZkL (n:Nat):Option Nat→Prop
 | some d=>d<n
 | none=>True
def ZcV (all:List Oper) (e:Env):Option (Nat × Bool)→Bool
 | none=>true
 | some (j,want)=>match (all[j]?).bind (·.dst) with
  | some d=>match ZfS e d with
   | some (cj,.val (.bool b))=>cj&&(b == want)
   | _=>false
  | none=>false
def Zi9 (all:List Oper) (e:Env):Option (Nat × Bool)→Prop
 | none=>True
 | some (j,_)=>match (all[j]?).bind (·.dst) with
  | some d=>match ZfS e d with
   | some (_,v)=>isB v=true
   | none=>False
  | none=>False
def ZiL:List Operand→List Nat
 | []=>[]
 | .tmp t::r=>t::ZiL r
 | _::r=>ZiL r
def ZyZ (all:List Oper):Option (Nat × Bool)→List Nat
 | none=>[]
 | some (j,_)=>((all[j]?).bind (·.dst)).toList
def Zqs (all:List Oper) (o:Oper):List Nat:=1000000::(ZiL o.op.operands.toList++ZyZ all o.guard)
def ZfA (d:Bool) (all:List Oper) (o:Oper) (e:Env):Env:=if d then Zdg (Zqs all o) e else e
def Zlg (P:Program) (w0:World) (c d:Bool) (fv:AV) (args:List AV) (st:St) (k:AV→St→Prop):Prop :=
 (∃ v,(c=true→Zl1 P w0 fv args st fun r s=>r=v∧s=st)∧k v st) ∨
 (d=false∧∃ Post,(c=true→Zl1 P w0 fv args st Post)∧∀ v st',(c=true→Post v st')→(c=false→st'=st)→k v st')
theorem Zkj {P:Program} {w0:World} {c d:Bool} {f:FuncId} {cs args:List AV} {st:St} {k:AV→St→Prop} (v:AV)
  (h:ACalls P w0 f (args++cs) st fun r s=>r=v∧s=st) (hk:k v st):Zlg P w0 c d (.clo f cs) args st k := .inl ⟨v,fun _=>h,hk⟩
theorem Zol {P:Program} {w0:World} {f:FuncId} {cs args:List AV} {st:St} {k:AV→St→Prop} (Post:AV→St→Prop)
  (h:ACalls P w0 f (args++cs) st Post) (hk:∀ v s,Post v s→k v s):Zlg P w0 true false (.clo f cs) args st k := .inr ⟨rfl,Post,fun _=>h,fun v s h1 _=>hk v s (h1 rfl)⟩
theorem ZrQ {P:Program} {w0:World} {c:Bool} {i:Nat} {args:List AV} {st:St} {k:AV→St→Prop} (Post:AV→St→Prop)
  (h:c=true→Zq9 P w0 i args st Post) (hk:∀ v s,(c=true→Post v s)→(c=false→s=st)→k v s):Zlg P w0 c false (.yld i) args st k := .inr ⟨rfl,Post,h,hk⟩
def argP (e:Env) (x:AV):AV:=if Zhx e 0=true then x else x.pub
theorem R.argP {w0:World} {M:Mem} {w:World} {v:Value} {x:AV} (e:Env) (h:R w0 M w v x):R w0 M w v (Go.Ev.argP e x):=by
 unfold Go.Ev.argP
 split
 ·
  exact h
 ·
  exact h.pub
def evS (P:Program) (w0:World) (n:Nat) (d:Bool) (all:List Oper) (R:List Oper→Env→St→Prop) (K:Env→St→Prop):List Oper→Env→St→Prop
 | [],e,st=>K e st
 | o::os,e,st =>
  Zi9 all (ZfA d all o e) o.guard∧ZkL n o.dst ∧
  match o.op with
  | .call ⟨.value f,args,_⟩ =>
   (ZcV all (ZfA d all o e) o.guard=true→ZaT (ZfA d all o e) true f∧∀ x∈args.toList,ZaT (ZfA d all o e) true x) ∧
   Zlg P w0 (ZcV all (ZfA d all o e) o.guard) d (Zav (ZfA d all o e) f) (args.toList.map fun x=>argP (ZfA d all o e) (Zav (ZfA d all o e) x)) st
    fun v st'=>R os (ZnV e o.dst (ZcV all (ZfA d all o e) o.guard) v) st'
  | op=>match Zcl P (ZfA d all o e) (ZcV all (ZfA d all o e) o.guard) st op with
   | (ob,v,st')=>(ZcV all (ZfA d all o e) o.guard=true→ob)∧((ZcV all (ZfA d all o e) o.guard=false∨d=true)→st'=st)∧evS P w0 n d all R K os (ZnV e o.dst (ZcV all (ZfA d all o e) o.guard) v) st'
def evK (P:Program) (w0:World) (n:Nat) (d:Bool) (all:List Oper) (K:Env→St→Prop):Nat→List Oper→Env→St→Prop
 | 0,_,_,_=>False
 | c+1,os,e,st=>evS P w0 n d all (evK P w0 n d all K c) K os e st
theorem Zae {P:Program} {w0:World} {n:Nat} {d:Bool} {all:List Oper} {K:Env→St→Prop} {c:Nat} {os:List Oper} {e:Env} {st:St}:evK P w0 n d all K (c+1) os e st=evS P w0 n d all (evK P w0 n d all K c) K os e st:=rfl
def Zi1:Op→Bool
 | .call ⟨.value _,_,_⟩=>true
 | _=>false
theorem Zqk {P:Program} {w0:World} {n:Nat} {d:Bool} {all:List Oper} {R:List Oper→Env→St→Prop} {K:Env→St→Prop} {o:Oper} {os:List Oper} {e:Env} {st:St} (hc:¬ Zi1 o.op=true) :
  evS P w0 n d all R K (o::os) e st=(Zi9 all (ZfA d all o e) o.guard∧ZkL n o.dst∧match Zcl P (ZfA d all o e) (ZcV all (ZfA d all o e) o.guard) st o.op with
   | (ob,v,st')=>(ZcV all (ZfA d all o e) o.guard=true→ob)∧((ZcV all (ZfA d all o e) o.guard=false∨d=true)→st'=st)∧evS P w0 n d all R K os (ZnV e o.dst (ZcV all (ZfA d all o e) o.guard) v) st'):=by
 obtain ⟨dst,op,b,g,a,guard⟩:=o
 cases op with
 | call cc =>
  obtain ⟨callee,c,ts⟩:=cc
  cases callee with
  | value f=>exact absurd rfl hc
  | _=>rfl
 | _=>rfl
section
variable {P:Program} {w0:World} {n:Nat} {M:Mem} {e:Env} {st:St} {a:Act} {w:World}
theorem ZmG (h:Rel w0 n M e st a w) (ro:Option Nat) (m:Nat) (o:Oper) (hob:(Zcl P e true st o.op).1) (Q:Exit→Act→World→Prop) (K:Act→World→Prop)
  (hK:∀ v w' M',Ext w0 M w M' w'→RelSt w0 M' (Zcl P e true st o.op).2.2 w'→R w0 M' w' v (Zcl P e true st o.op).2.1→K (a.put o.dst v) w'):o.wpIn (FW ro) m P a w K Q:=by
 have hd:∀ c,o.op ≠ .defer c:=by
  intro c hh
  rw [hh] at hob
  exact hob
 obtain ⟨v,w',M',hr,h1,h2,h3⟩:=Zxm (P:=P) h o hob
 refine ⟨fun f _=>ZtJ ro f,?_⟩
 have hs:Oper.semAt (FW ro).round a.eval o=execOp a.eval o:=by
  cases ro with
  | none=>rfl
  | some l=>exact Oper.semAt_some l a.eval o hd
 rw [hs]
 rcases hr with hr | ⟨hr,rfl⟩
 ·
  rw [hr];exact hK v w' M' h1 h2 h3
 ·
  rw [hr];exact hK _ w' M' h1 h2 h3
theorem Zsm {v:Value} {f:FuncId} {xs:List AV} (h:R w0 M w v (.clo f xs)):∃ cs,v = .func (.func f) #[] cs∧RowR w0 M w cs xs:=by
 cases h with
 | clo hl h=>exact ⟨_,rfl,hl,h⟩
theorem Zz6 {v:Value} {k:Nat} (h:R w0 M w v (.yld k)):v = .func (.yield (M.lb k)) #[] #[]:=by
 cases h with
 | yld hk=>rfl
theorem ZzB (h:Rel w0 n M e st a w) {args:Array Operand} (hargs:∀ x∈args.toList,ZaT e true x):RowR w0 M w (args.map a.eval) (args.toList.map fun x=>argP e (Zav e x)):=by
 refine .mk (by simp) (fun i u y hu hy=>?_)
 by_cases c:i<args.size
 ·
  simp only [Array.getElem?_map,Array.getElem?_eq_getElem c,Option.map_some,Option.some.injEq] at hu
  simp only [List.getElem?_map,Array.getElem?_toList,Array.getElem?_eq_getElem c,Option.map_some,Option.some.injEq] at hy
  subst hu;subst hy
  exact (Zbv h (hargs _ (by simp))).argP e
 ·
  simp [Array.getElem?_eq_none (Nat.le_of_not_lt c)] at hu
theorem RowR.append {cs ds:Array Value} {xs ys:List AV} (h:RowR w0 M w cs xs) (k:RowR w0 M w ds ys):RowR w0 M w (cs++ds) (xs++ys):=by
 refine .mk (by simp [h.1,k.1]) (fun i u y hu hy=>?_)
 by_cases c:i<cs.size
 ·
  rw [Array.getElem?_append_left c] at hu
  rw [List.getElem?_append_left (h.1▸c)] at hy
  exact h.get hu hy
 ·
  rw [Array.getElem?_append_right (by omega)] at hu
  rw [List.getElem?_append_right (by have:=h.1;omega)] at hy
  rw [h.1] at hu
  exact k.get hu hy
theorem ZhM (h:Rel w0 n M e st a w) (ro:Option Nat) (m:Nat) {dst:Option Tmp} {f:Operand} {args:Array Operand} {ts:Array TypeId} {type:TypeId} {pos:String} {after:Array Edge} {guard:Option (Nat × Bool)}
  (hf:ZaT e true f) (hargs:∀ x∈args.toList,ZaT e true x) {Post:AV→St→Prop} (hv:Zl1 P w0 (Zav e f) (args.toList.map fun x=>argP e (Zav e x)) st Post) (Q:Exit→Act→World→Prop) (K:Act→World→Prop)
  (hK:∀ r s,Post r s→∀ v w' M',Ext w0 M w M' w'→RelSt w0 M' s w'→R w0 M' w' v r→K (a.put dst v) w') :
  (⟨dst,.call ⟨.value f,args,ts⟩,type,pos,after,guard⟩:Oper).wpIn (FW ro) m P a w K Q:=by
 have i:=ZzB h hargs
 have hR:=Zbv h hf
 refine ⟨fun f _=>ZtJ ro f,?_⟩
 have hs:Oper.semAt (FW ro).round a.eval ⟨dst,.call ⟨.value f,args,ts⟩,type,pos,after,guard⟩=execOp a.eval ⟨dst,.call ⟨.value f,args,ts⟩,type,pos,after,guard⟩:=by
  cases ro with
  | none=>rfl
  | some l=>exact Oper.semAt_some l a.eval _ (fun c hh=>by cases hh)
 rw [hs]
 cases hx:Zav e f with
 | clo g xs =>
  rw [hx] at hR hv
  obtain ⟨cs,ef,p⟩:=Zsm hR
  have b:(execOp a.eval ⟨dst,.call ⟨.value f,args,ts⟩,type,pos,after,guard⟩).run P w = .ok (.enter g (args.map a.eval++cs)) w:=by
   simp [execOp,resolve,ef,Deferred.ofValue,invoke,hv.1 (args.map a.eval++cs) w]
  rw [b]
  refine ⟨fun q=>ZpB ro q m,Zoe ((hv.2 M w _ h.st (i.append p)).mono ?_)⟩
  rintro en w' ⟨v',M',r,s,rfl,hp,h1,h2,h3⟩
  exact hK r s hp v' w' M' h1 h2 h3
 | yld k =>
  rw [hx] at hR hv
  have ef:=Zz6 hR
  obtain ⟨fn,j,t,o,hy,d⟩:=hv M w _ h.st i
  have b:(execOp a.eval ⟨dst,.call ⟨.value f,args,ts⟩,type,pos,after,guard⟩).run P w = .ok (.round (M.lb k) fn j t o) w:=by
   simp [execOp,resolve,ef,Deferred.ofValue,invoke,hy]
  rw [b]
  refine ⟨fun q=>ZpB ro q m,?_⟩
  have:=d (m-1)
  refine RoundIn.mono (F:=FW ro) (by cases ro<;>exact this) ?_
  rintro en w' ⟨v',M',r,s,rfl,hp,h1,h2,h3⟩
  exact hK r s hp v' w' M' h1 h2 h3
 | _=>rw [hx] at hv;exact hv.elim
theorem ZiA (a:Act) (dst:Option Nat) (v:Value) (s:Nat) (hd:ZkL a.tmps.size dst):(a.put dst v).tmps.getD s undef=if dst=some s then v else a.tmps.getD s undef:=by
 cases dst with
 | none=>simp [Act.put]
 | some d =>
  simp only [ZkL] at hd
  simp only [Act.put,Option.some.injEq]
  by_cases c:d=s
  ·
   subst c
   simp [hd]
  ·
   rw [if_neg c]
   simp [Array.getElem?_setIfInBounds_ne c]
theorem Zms (a:Act) (dst:Option Nat) (v:Value):(a.put dst v).tmps.size=a.tmps.size:=by cases dst<;>simp [Act.put]
theorem ZhB (a:Act) (dst:Option Nat) (v:Value):(a.put dst v).defers=a.defers:=by cases dst<;>rfl
theorem Rel.put (h:Rel w0 n M e st a w) {M':Mem} {w':World} {st':St} (hx:Ext w0 M w M' w') (hst:RelSt w0 M' st' w') {dst:Option Nat} (hd:ZkL n dst) {c:Bool} {v:Value} {r:AV} (hv:entryOk w0 M' w' v (c,r)) :
  Rel w0 n M' (ZnV e dst c r) st' (a.put dst v) w':=by
 refine ⟨hst,by rw [Zms];exact h.size,fun s x hs=>?_⟩
 rw [ZiA a dst v s (by rw [h.size];exact hd)]
 cases dst with
 | none=>exact (h.env s x hs).mono hx
 | some d =>
  simp only [ZnV,ZfS] at hs
  simp only [Option.some.injEq]
  by_cases q:d=s
  ·
   rw [if_pos q] at hs ⊢
   cases hs
   exact hv
  ·
   rw [if_neg q] at hs ⊢
   exact (h.env s x hs).mono hx
theorem ZqP {ops:Array Oper} {ts:Array Value} {j d:Nat} (h:(ops[j]?).bind (·.dst)=some d):yielded ops ts j=match ts.getD d undef with | .bool b=>some b | _=>none:=by
 unfold yielded
 simp only [h]
 rw [Array.getD_eq_getD_getElem?]
 change (match ts[(d:Nat)]? with | some (.bool b)=>some b | _=>none)=_
 cases ts[(d:Nat)]? with
 | none=>rfl
 | some v=>cases v<;>rfl
theorem Zke (h:Rel w0 n M e st a w) {all:List Oper} {o:Oper} (hg:Zi9 all e o.guard):Region.wanted o (yielded all.toArray a.tmps)=ZcV all e o.guard:=by
 unfold Region.wanted ZcV
 cases hgd:o.guard with
 | none=>rfl
 | some p =>
  obtain ⟨j,want⟩:=p
  rw [hgd] at hg
  simp only [Zi9] at hg
  have e0:(all.toArray[j]?).bind (·.dst)=(all[j]?).bind (·.dst):=by simp
  dsimp only
  cases hd:(all[j]?).bind (·.dst) with
  | none=>simp [hd] at hg
  | some d =>
   rw [ZqP (e0.trans hd)]
   simp only [hd] at hg ⊢
   cases hl:ZfS e d with
   | none=>simp [hl] at hg
   | some x =>
    obtain ⟨cj,v⟩:=x
    simp only [hl] at hg ⊢
    have c:=h.env d _ hl
    cases v with
    | val u =>
     cases u<;>try cases hg
     rename_i b
     unfold entryOk at c
     cases cj with
     | true =>
      rw [if_pos rfl] at c
      obtain ⟨e1,_⟩:=c.val_inv
      rw [e1]
      cases b<;>cases want<;>rfl
     | false =>
      rw [if_neg (by simp)] at c
      rw [c]
      rfl
    | _=>cases hg
def ZBf (e' e:Env):Prop:=∀ s x,ZfS e' s=some x→ZfS e s=some x
theorem Rel.sub {e':Env} (h:Rel w0 n M e st a w) (hs:ZBf e' e):Rel w0 n M e' st a w:=⟨h.st,h.size,fun s x hx=>h.env s x (hs s x hx)⟩
theorem ZgN:∀ (K:List Nat) (e:Env) (s:Nat) (x:Bool × AV),ZfS (Zdg K e) s=some x→ZfS e s=some x
 | [],_,_,_,h=>by simp [Zdg,ZfS] at h
 | k::K,e,s,x,h=>by
  simp only [Zdg] at h
  cases hk:ZfS e k with
  | none =>
   simp only [hk] at h
   exact ZgN K e s x h
  | some y =>
   obtain ⟨c,v⟩:=y
   simp only [hk,ZfS] at h
   by_cases q:k=s
   ·
    rw [if_pos q] at h
    subst q
    rw [hk];exact h
   ·
    rw [if_neg q] at h
    exact ZgN K e s x h
theorem ZaW (K:List Nat) (e:Env):ZBf (Zdg K e) e:=ZgN K e
theorem Zjc:∀ (K:List Nat) (e:Env) (s:Nat) (x:Bool × AV),ZfS (Zdg K e) s=some x→s∈K
 | [],_,_,_,h=>by simp [Zdg,ZfS] at h
 | k::K,e,s,x,h=>by
  simp only [Zdg] at h
  cases hk:ZfS e k with
  | none =>
   simp only [hk] at h
   exact List.mem_cons_of_mem _ (Zjc K e s x h)
  | some y =>
   obtain ⟨c,v⟩:=y
   simp only [hk,ZfS] at h
   by_cases q:k=s
   ·
    exact q▸List.mem_cons_self
   ·
    rw [if_neg q] at h
    exact List.mem_cons_of_mem _ (Zjc K e s x h)
theorem Zyj (d:Bool) (all:List Oper) (o:Oper) (e:Env):ZBf (ZfA d all o e) e:=by
 unfold ZfA
 split
 ·
  exact ZaW _ _
 ·
  exact fun _ _ h=>h
theorem Zm5 (ro:Option Nat) (m:Nat) (d:Bool) (all:List Oper) (KK:Env→St→Prop) (Q:Exit→Act→World→Prop):∀ (c:Nat) (os:List Oper) (e:Env) (st:St) (a:Act) (w:World) (M:Mem),Rel w0 n M e st a w →
  evK P w0 n d all KK c os e st→(∀ e' st' a' w' M',KK e' st'→Rel w0 n M' e' st' a' w'→Ext w0 M w M' w'→a'.defers=a.defers→Q .normal a' w')→wpListIn (FW ro) m P all.toArray Q os a w
 | 0,_,_,_,_,_,_,_,h,_=>h.elim
 | c+1,os,e,st,a,w,M,hr,h,hQ=>by
  have l:∀ (os:List Oper) (e:Env) (st:St) (a:Act) (w:World) (M:Mem),Rel w0 n M e st a w→evS P w0 n d all (evK P w0 n d all KK c) KK os e st →
    (∀ e' st' a' w' M',KK e' st'→Rel w0 n M' e' st' a' w'→Ext w0 M w M' w'→a'.defers=a.defers→Q .normal a' w')→wpListIn (FW ro) m P all.toArray Q os a w:=by
   intro os
   induction os with
   | nil=>exact fun e st a w M hr h hQ=>hQ e st a w M h hr (.refl _ _ _) rfl
   | cons o os ih =>
    intro e st a w M hr h hQ
    have hv:=Zyj d all o e
    have b:=hr.sub hv
    by_cases hc:Zi1 o.op=true
    ·
     obtain ⟨dst,op,type,pos,after,guard⟩:=o
     cases op<;>try cases hc
     rename_i cc
     obtain ⟨callee,args,ts⟩:=cc
     cases callee<;>try cases hc
     rename_i f
     simp only [evS] at h
     obtain ⟨hg,hd,h1,hk⟩:=h
     unfold wpListIn
     rw [Zke b hg]
     have go:∀ v s,evK P w0 n d all KK c os (ZnV e dst (ZcV all (ZfA d all ⟨dst,.call ⟨.value f,args,ts⟩,type,pos,after,guard⟩ e) guard) v) s→∀ u w' M',Ext w0 M w M' w'→RelSt w0 M' s w' →
       entryOk w0 M' w' u (ZcV all (ZfA d all ⟨dst,.call ⟨.value f,args,ts⟩,type,pos,after,guard⟩ e) guard,v)→wpListIn (FW ro) m P all.toArray Q os (a.put dst u) w':=by
      intro v s p u w' M' hx hst hu
      exact Zm5 ro m d all KK Q c os _ _ _ _ M' (hr.put hx hst hd hu) p (fun e' st' a' k j k1 k2 k3 k4=>hQ e' st' a' k j k1 k2 (hx.trans k3) (k4.trans (ZhB a dst u)))
     cases hcc:ZcV all (ZfA d all ⟨dst,.call ⟨.value f,args,ts⟩,type,pos,after,guard⟩ e) guard with
     | true =>
      rw [hcc] at h1 hk go
      obtain ⟨b1,b2⟩:=h1 rfl
      rw [if_pos rfl]
      rcases hk with ⟨v,k1,k2⟩ | ⟨_,Post,k1,k2⟩
      ·
       refine ZhM b ro m b1 b2 (k1 rfl) Q _ (fun r s hp u w' M' hx hst hu=>?_)
       obtain ⟨rfl,rfl⟩:=hp
       exact go _ _ k2 u w' M' hx hst hu
      ·
       exact ZhM b ro m b1 b2 (k1 rfl) Q _ (fun r s hp u w' M' hx hst hu=>go _ _ (k2 r s (fun _=>hp) (fun q=>by cases q)) u w' M' hx hst hu)
     | false =>
      rw [hcc] at h1 hk go
      rw [if_neg (by simp)]
      refine ⟨fun g _=>ZtJ ro g,?_⟩
      rcases hk with ⟨v,k1,k2⟩ | ⟨_,Post,k1,k2⟩
      ·
       exact go _ _ k2 undef w M (.refl _ _ _) hr.st rfl
      ·
       exact go .junk st (k2 .junk st (fun q=>by cases q) (fun _=>rfl)) undef w M (.refl _ _ _) hr.st rfl
    ·
     rw [Zqk hc] at h
     obtain ⟨hg,hd,h1,h0,i⟩:=h
     unfold wpListIn
     rw [Zke b hg]
     have go:∀ u w' M',Ext w0 M w M' w'→RelSt w0 M' (Zcl P (ZfA d all o e) (ZcV all (ZfA d all o e) o.guard) st o.op).2.2 w' →
       entryOk w0 M' w' u (ZcV all (ZfA d all o e) o.guard,(Zcl P (ZfA d all o e) (ZcV all (ZfA d all o e) o.guard) st o.op).2.1)→wpListIn (FW ro) m P all.toArray Q os (a.put o.dst u) w':=by
      intro u w' M' hx hst hu
      exact ih _ _ _ _ M' (hr.put hx hst hd hu) i (fun e' st' a' k j k1 k2 k3 k4=>hQ e' st' a' k j k1 k2 (hx.trans k3) (k4.trans (ZhB a o.dst u)))
     cases hcc:ZcV all (ZfA d all o e) o.guard with
     | true =>
      rw [hcc] at h1 go
      rw [if_pos rfl]
      exact ZmG b ro m o (h1 rfl) Q _ (fun v w' M' hx hst hv=>go v w' M' hx hst hv)
     | false =>
      rw [hcc] at h0 go
      rw [if_neg (by simp)]
      refine ⟨fun g _=>ZtJ ro g,go undef w M (.refl _ _ _) ?_ rfl⟩
      have q:(Zcl P (ZfA d all o e) false st o.op).2.2=st:=h0 (.inl rfl)
      rw [q]
      exact hr.st
  exact l os e st a w M hr h hQ
end
end Go.Ev
