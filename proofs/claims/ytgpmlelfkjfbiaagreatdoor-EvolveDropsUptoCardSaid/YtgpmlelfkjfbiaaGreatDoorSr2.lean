/-
  Part 2 of the proof: rules and walks that the claim's last text uses.
-/
import Derived.Attr
import Derived.Ground.Names2Prog
import Derived.Ground.NamesProg
import Derived.Ground.SlgnProg
import Derived.Ground.SlsfProg
import Derived.OrdersIn
import Derived.RangeFuncIn
import Derived.Shelf.LaysM
import Derived.Shelf.Small.Bits
import Derived.Shelf.Small.Strs
import Derived.Shelf.Strconv.Itoa0
import Derived.Shelf.Strconv.Itoa1
import Derived.Shelf.Strconv.Itoa2
import Derived.Shelf.Strconv.Itoa3
import Derived.Shelf.Strings.Repeat
import Derived.Shelf.Unicode.DecodeSlow
import Derived.Shelf.Unicode.ValidAny
import Derived.StillTail
import Derived.Test.YtgpmlelfkjfbiaaGreatDoorProg
import Derived.Test.YtgpmlelfkjfbiaaGreatDoorSr1
set_option linter.unusedSimpArgs false
set_option linter.unusedVariables false
set_option maxRecDepth 100000
set_option maxHeartbeats 4000000
namespace Go.Ev
open Go Go.RowKit
def Marked (W0:World) (ds:List Deferred) (w:World):Prop :=
 ∃ Ds:List Nat,Ds.Nodup∧ds=Ds.map (fun D=>{ target := .collected D,args := #[] })∧∀ D∈Ds,W0.heap.size≤D∧w.heap[D]? = some (.deferred (some []))
abbrev AQ:=Exit→Env→St→Prop
structure At (w0:World) (n:Nat) (M0:Mem) (W0:World) (e:Env) (st:St) (a:Act) (w:World) (M:Mem):Prop where
 rel:Rel w0 n M e st a w
 ext:Ext w0 M0 W0 M w
 marks:Marked W0 a.defers w
def Zkk (w0:World) (n:Nat) (M0:Mem) (W0:World) (Q:AQ) (x:Exit) (a':Act) (w':World):Prop :=
 ∃ M' e' st',At w0 n M0 W0 e' st' a' w' M'∧Q x e' st'
def GL (P:Program) (w0:World) (n:Nat) (M0:Mem) (W0:World) (ro:Option Nat) (c:Code) (Q:AQ) (e:Env) (st:St):Prop :=
 ∀ m M a w,At w0 n M0 W0 e st a w M→c.wpIn (FW ro) m P (Zkk w0 n M0 W0 Q) a w
def WQ (K:Env→St→Prop) (Q:AQ):AQ
 | .normal,e,st=>K e st
 | x,e,st=>Q x e st
def Vx (id:Nat) (Q:AQ):AQ
 | .exit i,e,st=>if i=id then Q .normal e st else Q (.exit i) e st
 | x,e,st=>Q x e st
section
variable {P:Program} {w0:World} {n:Nat} {M0:Mem} {W0:World} {ro:Option Nat} {Q:AQ} {e:Env} {st:St}
theorem ZdB {c:Code} {Q':AQ} (h:GL P w0 n M0 W0 ro c Q e st) (hq:∀ x e s,Q x e s→Q' x e s):GL P w0 n M0 W0 ro c Q' e st :=
 fun m M a w g=>wpIn_mono (h m M a w g) fun _ _ _ ⟨M',i,b,f,d⟩=>⟨M',i,b,f,hq _ _ _ d⟩
theorem At.sub {M:Mem} {a:Act} {w:World} {e':Env} (h:At w0 n M0 W0 e st a w M) (hs:Zdt e' e):At w0 n M0 W0 e' st a w M:=⟨h.rel.sub hs,h.ext,h.marks⟩
theorem Marked.later {M M':Mem} {ds:List Deferred} {w w':World} (h:Marked W0 ds w) (hx:Ext w0 M w M' w') (hl:RelSt w0 M st w):Marked W0 ds w':=by
 obtain ⟨Ds,d,g,a⟩:=h
 refine ⟨Ds,d,g,fun D b=>⟨(a D b).1,hx.objs D _ (a D b).2 rfl fun k f e=>?_⟩⟩
 have c:k<st.loops.length:=by rw [←hl.loop.NL];exact f
 obtain ⟨_,r,hr,_⟩:=hl.loop.record k _ (List.getElem?_eq_getElem c)
 rw [e,(a D b).2] at hr
 cases hr
theorem D3 {c:Code} (e':Env) (h:GL P w0 n M0 W0 ro c Q e' st) (hs:Zdt e' e):GL P w0 n M0 W0 ro c Q e st:=fun m M a w b=>h m M a w (b.sub hs)
theorem Ao (c:Nat) (L:List Nat) {id:Nat} {l:List Oper} (h:YK P w0 n false l (fun e' st'=>Q .normal (Dz L e') st') c l e st):GL P w0 n M0 W0 ro (.region id l.toArray false) Q e st:=by
 intro m M a w b
 refine wpIn_region_lit (Su ro m false l _ _ c l e st a w M b.rel h fun e' st' o k g f i d j=>⟨g,_,_,⟨i.sub (Bm L _),b.ext.trans d,?_⟩,f⟩)
 rw [j]
 exact b.marks.later d b.rel.st
theorem Br (h:Q .normal e st):GL P w0 n M0 W0 ro .skip Q e st:=fun _ M _ _ a=>wpIn_skip ⟨M,e,st,a,h⟩
theorem KG {id:Nat} (h:Q (.exit id) e st):GL P w0 n M0 W0 ro (.exit id) Q e st:=fun _ M _ _ a=>wpIn_exit ⟨M,e,st,a,h⟩
theorem A2 (h:Q .ret e st):GL P w0 n M0 W0 ro .ret Q e st:=fun _ M _ _ a=>wpIn_ret ⟨M,e,st,a,h⟩
theorem Ah {x y:Code} (h:∀ K:Env→St→Prop,(∀ e s,GL P w0 n M0 W0 ro y Q e s→K e s)→GL P w0 n M0 W0 ro x (WQ K Q) e st):GL P w0 n M0 W0 ro (.seq x y) Q e st:=by
 intro m M a w f
 refine wpIn_seq (wpIn_mono (h (GL P w0 n M0 W0 ro y Q) (fun _ _ h=>h) m M a w f) ?_)
 rintro ex g j ⟨M',i,d,c,b⟩
 cases ex with
 | normal=>exact b m M' g j c
 | _=>exact ⟨M',i,d,c,b⟩
theorem Aw {x y:Code} (I:Env→St→Prop) (hx:∀ K:Env→St→Prop,(∀ e s,I e s→K e s)→GL P w0 n M0 W0 ro x (WQ K Q) e st) (hy:∀ e s,I e s→GL P w0 n M0 W0 ro y Q e s):GL P w0 n M0 W0 ro (.seq x y) Q e st :=
 Ah fun K a=>ZdB (hx I fun _ _ h=>h) fun ex e s h=>by
  cases ex with
  | normal=>exact a e s (hy e s h)
  | _=>exact h
theorem Ak {id:Nat} {c:Code} (h:GL P w0 n M0 W0 ro c (Vx id Q) e st):GL P w0 n M0 W0 ro (.block id c) Q e st:=by
 intro m M a w j
 refine wpIn_block (wpIn_mono (h m M a w j) ?_)
 rintro ex k l ⟨M',g,d,f,b⟩
 cases ex with
 | exit i =>
  simp only [Vx] at b
  simp only [Exit.inBlock]
  split at b<;>rename_i hc
  ·rw [Ae hc];exact ⟨M',g,d,f,b⟩
  ·rw [Af hc];exact ⟨M',g,d,f,b⟩
 | _=>exact ⟨M',g,d,f,b⟩
theorem A4 {c:Operand} {x y:Code} (b:Bool) (hc:AP e true c) (hb:Ar e c = .val (.bool b)) (ht:b=true→GL P w0 n M0 W0 ro x Q e st) (hf:b=false→GL P w0 n M0 W0 ro y Q e st):GL P w0 n M0 W0 ro (.cond c x y) Q e st:=by
 intro m M a w d
 have hv:=Bh d.rel hc
 rw [hb] at hv
 have ev:a.eval c = .bool b:=hv.val_inv.1
 exact wpIn_cond_split ev (fun h=>ht h m M a w d) (fun h=>hf h m M a w d)
theorem ND (p:Nat→Prop) (h:∃ k,p k):∃ k,p k∧∀ m,p m→k≤m:=by
 obtain ⟨k,a⟩:=h
 induction k using Nat.strongRecOn with
 | _ k ih =>
  by_cases c:∃ m,m<k∧p m
  ·obtain ⟨m,d,b⟩:=c
   exact ih m d b
  ·exact ⟨k,a,fun m e=>by
    by_cases c':m<k
    ·exact absurd ⟨m,c',e⟩ c
    ·omega⟩
theorem AC {c:Code} (I:Nat→Env→St→Prop) (k0:Nat) (h0:I k0 e st) (round:∀ k e s,I k e s→∀ K:Env→St→Prop,(∀ k' e' s',k'<k→I k' e' s'→K e' s')→GL P w0 n M0 W0 ro c (WQ K Q) e s):GL P w0 n M0 W0 ro (.loop c) Q e st:=by
 intro m M a w y
 let J:Nat→Act→World→Prop:=fun k b d=>∃ M' e' s',At w0 n M0 W0 e' s' b d M'∧I k e' s'
 let μ:Act→World→Nat:=fun b d=>by
  classical exact if h:∃ k,J k b d then Classical.choose (ND (fun k=>J k b d) h) else 0
 have o:∀ b d k,J k b d→J (μ b d) b d∧μ b d≤k:=by
  intro b d k i
  have f:∃ k,J k b d:=⟨k,i⟩
  have:=Classical.choose_spec (ND (fun k=>J k b d) f)
  have e:μ b d=Classical.choose (ND (fun k=>J k b d) f):=by simp only [μ,dif_pos f]
  rw [e]
  exact ⟨this.1,this.2 k i⟩
 refine wpIn_loop (fun b d=>∃ k,J k b d) μ ⟨k0,M,e,st,y,h0⟩ ?_
 rintro a1 q ⟨k,i⟩
 obtain ⟨⟨M1,u,x,t,v⟩,_⟩:=o a1 q k i
 refine wpIn_mono (round _ u x v (fun e' s'=>∃ k',k'<_∧I k' e' s') (fun k' _ _ g z=>⟨k',g,z⟩) m M1 a1 q t) ?_
 rintro ex b d ⟨M',e',s',g,l⟩
 cases ex with
 | normal =>
  obtain ⟨k',j,r⟩:=l
  have p:J k' b d:=⟨M',e',s',g,r⟩
  exact ⟨⟨k',p⟩,Nat.lt_of_le_of_lt (o b d k' p).2 j⟩
 | _=>exact ⟨M',e',s',g,l⟩
def Own.under (nr:Nat):Own→Prop
 | .row id=>id<nr
 | _=>True
inductive Under (nb nr nl:Nat):AV→Prop
 | val (v:Value):Under nb nr nl (.val v)
 | list {xs:List AV} {o:Own} (h:∀ x∈xs,Under nb nr nl x) (ho:o.under nr):Under nb nr nl (.list xs o)
 | elem {x:AV} {k:Nat} (h:Under nb nr nl x):Under nb nr nl (.elem x k)
 | box {l k:Nat} (h:l<nb):Under nb nr nl (.box l k)
 | clo {f:FuncId} {xs:List AV} (h:∀ x∈xs,Under nb nr nl x):Under nb nr nl (.clo f xs)
 | agg {xs:List AV} (h:∀ x∈xs,Under nb nr nl x):Under nb nr nl (.agg xs)
 | tup {xs:List AV} (h:∀ x∈xs,Under nb nr nl x):Under nb nr nl (.tup xs)
 | yld {k:Nat} (h:k<nl):Under nb nr nl (.yld k)
 | vec {id ver o n:Nat} (h:id<nr):Under nb nr nl (.vec id ver o n)
 | vel {id ver o:Nat} (h:id<nr):Under nb nr nl (.vel id ver o)
theorem WF {nb nr nl:Nat} (v:Value):Under nb nr nl (.val v)↔True:=iff_true_intro (.val v)
theorem Uc {nb nr nl:Nat} {xs:List AV} {o:Own}:Under nb nr nl (.list xs o)↔(∀ x∈xs,Under nb nr nl x)∧o.under nr:=⟨fun h=>by cases h with | list a b=>exact ⟨a,b⟩,fun h => .list h.1 h.2⟩
theorem Ug {nb nr nl:Nat} {x:AV} {k:Nat}:Under nb nr nl (.elem x k)↔Under nb nr nl x:=⟨fun h=>by cases h;assumption,.elem⟩
theorem Wm {nb nr nl l k:Nat}:Under nb nr nl (.box l k)↔l<nb:=⟨fun h=>by cases h;assumption,.box⟩
theorem Rz {nb nr nl:Nat} {f:FuncId} {xs:List AV}:Under nb nr nl (.clo f xs)↔∀ x∈xs,Under nb nr nl x:=⟨fun h=>by cases h;assumption,.clo⟩
theorem Ph {nb nr nl:Nat} {xs:List AV}:Under nb nr nl (.agg xs)↔∀ x∈xs,Under nb nr nl x:=⟨fun h=>by cases h;assumption,.agg⟩
theorem V4 {nb nr nl:Nat} {xs:List AV}:Under nb nr nl (.tup xs)↔∀ x∈xs,Under nb nr nl x:=⟨fun h=>by cases h;assumption,.tup⟩
theorem V9 {nb nr nl k:Nat}:Under nb nr nl (.yld k)↔k<nl:=⟨fun h=>by cases h;assumption,.yld⟩
theorem Wl {nb nr nl id ver o n:Nat}:Under nb nr nl (.vec id ver o n)↔id<nr:=⟨fun h=>by cases h;assumption,.vec⟩
theorem WW {nb nr nl id ver o:Nat}:Under nb nr nl (.vel id ver o)↔id<nr:=⟨fun h=>by cases h;assumption,.vel⟩
def Mem.cut (M:Mem) (nb nr nl:Nat):Mem:={ M with N:=nb,NR:=nr,NL:=nl }
theorem R.cut {M:Mem} {w:World} {v:Value} {x:AV} {nb nr nl:Nat} (h:R w0 M w v x) (hu:Under nb nr nl x):R w0 (M.cut nb nr nl) w v x:=by
 induction h with
 | flat h=>exact .flat h
 | agg hl d _ ih=>exact .agg hl d fun i a b=>ih i a b (Ph.1 hu _ (List.getElem_mem _))
 | tup hl _ ih=>exact .tup hl fun i a b=>ih i a b (V4.1 hu _ (List.getElem_mem _))
 | nil ho=>exact .nil ho
 | emp ho=>exact .emp ho
 | @list b off cap xs o sz us hc hm hcell _ ho ih =>
  obtain ⟨d,e⟩:=Uc.1 hu
  refine .list sz us hc hm hcell (fun i c=>ih i c (d _ (List.getElem_mem _))) ?_
  cases o with
  | none=>trivial
  | full=>exact ho
  | seed=>exact ho
  | row id=>exact ⟨e,ho.2⟩
 | elem u k hcell _ ih=>exact .elem u k hcell (ih (Ug.1 hu))
 | box _=>exact .box (M:=M.cut nb nr nl) (Wm.1 hu)
 | clo hl _ ih=>exact .clo hl fun i a b=>ih i a b (Rz.1 hu _ (List.getElem_mem _))
 | yld _=>exact .yld (M:=M.cut nb nr nl) (V9.1 hu)
 | vec c hv h=>exact .vec (M:=M.cut nb nr nl) (Wl.1 hu) hv h
 | vel c hv h=>exact .vel (M:=M.cut nb nr nl) (WW.1 hu) hv h
theorem R.under {M:Mem} {w:World} {v:Value} {x:AV} (h:R w0 M w v x):Under M.N M.NR M.NL x:=by
 have d:∀ {cs:Array Value} {xs:List AV},cs.size=xs.length→(∀ i (_:i<cs.size) (h2:i<xs.length),Under M.N M.NR M.NL xs[i])→∀ x∈xs,Under M.N M.NR M.NL x:=by
  intro cs xs c h x e
  obtain ⟨i,a,rfl⟩:=List.mem_iff_getElem.1 e
  exact h i (c▸a) a
 induction h with
 | flat h=>exact .val _
 | agg c h1 _ ih=>exact .agg (d c ih)
 | tup c _ ih=>exact .tup (d c ih)
 | nil ho=>exact .list (fun _ h=>by cases h) (by rename_i o;cases o<;>first | trivial | exact absurd rfl (ho _))
 | emp ho=>exact .list (fun _ h=>by cases h) (by rename_i o;cases o<;>first | trivial | exact absurd rfl (ho _))
 | @list b off cap xs o sz us hc hm hcell _ ho ih =>
  refine .list (fun x e=>?_) ?_
  ·obtain ⟨i,a,rfl⟩:=List.mem_iff_getElem.1 e
   exact ih i a
  ·cases o with
   | row id=>exact ho.1
   | _=>trivial
 | elem u k hcell _ ih=>exact .elem ih
 | box h=>exact .box h
 | clo c _ ih=>exact .clo (d c ih)
 | yld h=>exact .yld h
 | vec a _ _=>exact .vec a
 | vel a _ _=>exact .vel a
def Ls (nb nr nl:Nat):Env→Prop
 | []=>True
 | (_,c,v)::e=>(c=true→Under nb nr nl v)∧Ls nb nr nl e
theorem Vi {nb nr nl:Nat}:∀ {e:Env} {s:Nat} {x:Bool × AV},Ls nb nr nl e→D2 e s=some x→x.1=true→Under nb nr nl x.2
 | (k,c,v)::e,s,x,h,hl,ht=>by
  simp only [D2] at hl
  by_cases q:k=s
  ·rw [Ae q] at hl;cases hl;exact h.1 ht
  ·rw [Af q] at hl;exact Vi h.2 hl ht
def St.cut (s:St) (nb nr nl:Nat):St:=⟨s.boxes.take nb,s.rows.take nr,s.loops.take nl⟩
def RowA.cells:RowA→List AV
 | .vec _ _ cs=>cs
 | _=>[]
structure Calm (nb nr nl:Nat) (s:St):Prop where
 rows:∀ r∈s.rows,∀ x∈r.cells,Under nb nr nl x
 boxes:∀ cs∈s.boxes,∀ x∈cs,Under nb nr nl x
 loops:∀ la∈s.loops,∀ k x,D2 la.e k=some x→x.1=true→Under nb nr nl x.2
theorem RelSt.calm {M:Mem} {w:World} (h:RelSt w0 M st w):Calm st.boxes.length st.rows.length st.loops.length st where
 rows:=by
  intro r p x hx
  obtain ⟨l,b,rfl⟩:=List.mem_iff_getElem.1 p
  have m:=h.row l _ (List.getElem?_eq_getElem b)
  cases hrow:st.rows[l] with
  | vec ver sz cs =>
   rw [hrow] at m hx
   obtain ⟨_,_,_,_,_,_,_,c,_,_,_,a,_,e⟩:=m
   obtain ⟨i,d,rfl⟩:=List.mem_iff_getElem.1 hx
   have j:i<cs.length:=d
   have:=(e i (by omega) j).under
   rwa [h.N,h.NR,h.loop.NL] at this
  | _=>rw [hrow] at hx;cases hx
 boxes:=by
  intro cs f x hx
  obtain ⟨l,b,rfl⟩:=List.mem_iff_getElem.1 f
  obtain ⟨_,_,c,_,_,a,_,e⟩:=h.box l _ (List.getElem?_eq_getElem b)
  obtain ⟨i,d,rfl⟩:=List.mem_iff_getElem.1 hx
  have:=(e i (a▸d) d).under
  rwa [h.N,h.NR,h.loop.NL] at this
 loops:=by
  intro q g k x hx o
  obtain ⟨l,b,rfl⟩:=List.mem_iff_getElem.1 g
  obtain ⟨_,r,_,_,_,_,_,_,_,n⟩:=h.loop.record l _ (List.getElem?_eq_getElem b)
  have:=n k x hx
  unfold entryOk at this
  rw [Ae o] at this
  have:=this.under
  rwa [h.N,h.NR,h.loop.NL] at this
theorem entryOk.cut {M:Mem} {w:World} {nb nr nl:Nat} {v:Value} {x:Bool × AV} (h:entryOk w0 M w v x) (hu:x.1=true→Under nb nr nl x.2):entryOk w0 (M.cut nb nr nl) w v x:=by
 unfold entryOk at *
 split
 ·rename_i c;rw [Ae c] at h;exact h.cut (hu c)
 ·rename_i c;rw [Af c] at h;exact h
theorem RelSt.cut {M:Mem} {w:World} (h:RelSt w0 M st w) {nb nr nl:Nat} (h1:nb≤st.boxes.length) (h2:nr≤st.rows.length) (h3:nl≤st.loops.length) (hc:Calm nb nr nl (st.cut nb nr nl)) :
  RelSt w0 (M.cut nb nr nl) (st.cut nb nr nl) w where
 below:=h.below
 N:=by simp [Mem.cut,St.cut];omega
 NR:=by simp [Mem.cut,St.cut];omega
 top:=h.top
 inj:=fun l H k F e=>h.inj l H (by have:=h.N;simp only [Mem.cut] at k;omega) (by have:=h.N;simp only [Mem.cut] at F;omega) e
 box:=fun l cs g=>by
  simp only [St.cut] at g
  have t:l<nb:=by
   have:=(Ag.1 g).1
   simp at this;omega
  have a:cs∈st.boxes.take nb:=List.mem_of_getElem? g
  rw [List.getElem?_take_of_lt t] at g
  obtain ⟨a1,a2,c,q,a3,a4,a5,a6⟩:=h.box l cs g
  exact ⟨a1,a2,c,q,a3,a4,a5,fun i z D=>(a6 i z D).cut (hc.boxes cs a _ (List.getElem_mem _))⟩
 row:=fun id x b=>by
  simp only [St.cut] at b
  have E:id<nr:=by
   have:=(Ag.1 b).1
   simp at this;omega
  have a:x∈st.rows.take nr:=List.mem_of_getElem? b
  rw [List.getElem?_take_of_lt E] at b
  have f:=h.row id x b
  have d:nb≤M.N:=by have:=h.N;omega
  cases x with
  | grow n sz =>
   obtain ⟨a1,a2,a3,a4,a5,a6,a7,m⟩:=f
   exact ⟨a1,a2,a3,a4,fun l g=>a5 l (Nat.lt_of_lt_of_le g d),a6,a7,m⟩
  | vec v sz cs =>
   obtain ⟨a1,a2,a3,a4,a5,a6,a7,c,q,m,y,z,D,G⟩:=f
   exact ⟨a1,a2,a3,a4,fun l g=>a5 l (Nat.lt_of_lt_of_le g d),a6,a7,c,q,m,y,z,D,fun i h1 h2=>(G i h1 h2).cut (hc.rows _ a _ (List.getElem_mem _))⟩
  | dead v =>
   obtain ⟨a1,a2,a3,a4⟩:=f
   exact ⟨a1,a2,fun l g=>a3 l (Nat.lt_of_lt_of_le g d),a4⟩
 rowinj:=fun i j p C e=>h.rowinj i j (by have:=h.NR;simp only [Mem.cut] at p;omega) (by have:=h.NR;simp only [Mem.cut] at C;omega) e
 loop:={
  NL:=by simp [Mem.cut,St.cut];omega
  inj:=fun i j p C e=>h.loop.inj i j (by have:=h.loop.NL;simp only [Mem.cut] at p;omega) (by have:=h.loop.NL;simp only [Mem.cut] at C;omega) e
  record:=fun k o b=>by
   simp only [St.cut] at b
   have u:k<nl:=by
    have:=(Ag.1 b).1
    simp at this;omega
   have a:o∈st.loops.take nl:=List.mem_of_getElem? b
   rw [List.getElem?_take_of_lt u] at b
   obtain ⟨a1,r,a2,a3,a4,a5,a6,a7,m,y⟩:=h.loop.record k o b
   exact ⟨a1,r,a2,a3,a4,a5,a6,a7,m,fun s x hs=>(y s x hs).cut (hc.loops o a s x hs)⟩ }
theorem Ext.cut {M1:Mem} {w1 w2:World} {M2:Mem} (h:Ext w0 M1 w1 M2 w2) {nb nr nl:Nat} (h1:M1.N≤nb) (h2:M1.NR≤nr) (h3:M1.NL≤nl) (h4:nl≤M2.NL):Ext w0 M1 w1 (M2.cut nb nr nl) w2 :=
 ⟨h1,h.bx,h2,h.rows,h.cell,h.size,h3,h.lb,fun k a b=>h.lnew k a (Nat.lt_of_lt_of_le b h4),h.objs⟩
theorem Rel.cut {M:Mem} {a:Act} {w:World} (h:Rel w0 n M e st a w) {nb nr nl:Nat} (h1:nb≤st.boxes.length) (h2:nr≤st.rows.length) (h3:nl≤st.loops.length) (hc:Calm nb nr nl (st.cut nb nr nl)) (he:Ls nb nr nl e) :
  Rel w0 n (M.cut nb nr nl) e (st.cut nb nr nl) a w :=
 ⟨h.st.cut h1 h2 h3 hc,h.size,fun s x hs=>(h.env s x hs).cut (Vi he hs)⟩
theorem TM {c:Code} (nb nr nl:Nat) (h1:nb≤st.boxes.length) (h2:nr≤st.rows.length) (h3:nl≤st.loops.length) (k1:M0.N≤nb) (k2:M0.NR≤nr) (k3:M0.NL≤nl) (hc:Calm nb nr nl (st.cut nb nr nl)) (he:Ls nb nr nl e)
  (h:GL P w0 n M0 W0 ro c Q e (st.cut nb nr nl)):GL P w0 n M0 W0 ro c Q e st :=
 fun m M a w b=>h m _ a w ⟨b.rel.cut h1 h2 h3 hc he,b.ext.cut k1 k2 k3 (by rw [b.rel.st.loop.NL];exact h3),b.marks⟩
end
section
variable {P:Program} {w0:World} {n:Nat} {M:Mem} {e:Env} {st:St} {a:Act} {w:World}
def Uy (P:Program) (e:Env) (st:St):ResultVar→Prop
 | .tmp t=>AP e true (.tmp t)
 | .cell t ty=>(Be P e true st (.load ty (.tmp t))).1
def Zcq (P:Program) (e:Env) (st:St):ResultVar→AV
 | .tmp t=>(Ar e (.tmp t)).pub
 | .cell t ty=>(Be P e true st (.load ty (.tmp t))).2.1.pub
def Zt:List AV→AV
 | [x]=>x
 | l => .tup l
def ZcZ (P:Program) (rs:List ResultVar) (Post:AV→St→Prop):AQ:=fun x e st =>
 match x with
 | .normal | .ret=>(∀ r∈rs,Uy P e st r)∧Post (Zt (rs.map (Zcq P e st))) st
 | _=>False
theorem U6 (h:Rel w0 n M e st a w) (t:TypeId) (x:Operand) (hob:(Be P e true st (.load t x)).1) :
  ∃ v,(do loadVar t (← asAddr (a.eval x)):Sem Value).run P w = .ok v w∧R w0 M w v (Be P e true st (.load t x)).2.1:=by
 unfold Be at hob ⊢
 cases ht:IW P t with
 | none=>simp [ht] at hob
 | some p =>
  obtain ⟨sz,C⟩:=p
  simp only [ht] at hob ⊢
  obtain ⟨r,D,k,m⟩:=hob
  obtain ⟨b,o,ev,d,q⟩:=Zu h.st (Bh h r) D
  rw [ev]
  have g:∀ j,j<sz→∃ u,w.cell? ⟨b,o+ES (Ar e x)+j,none⟩=some u∧∀ c,R w0 M w u ((Bq st (Ar e x))[ES (Ar e x)+j]'c):=by
   intro j c
   obtain ⟨u,z,y⟩:=q (ES (Ar e x)+j) (by omega)
   exact ⟨u,by rw [←z,Nat.add_assoc],fun _=>y⟩
  let f:Nat→Value:=fun j=>((w.cell? ⟨b,o+ES (Ar e x)+j,none⟩).getD undef)
  have s:∀ j,j<sz→w.cell? ⟨b,o+ES (Ar e x)+j,none⟩=some (f j):=fun j c=>by
   obtain ⟨u,i,_⟩:=g j c
   simp [f,i]
  refine ⟨if C then .agg ((List.range sz).map f).toArray else f 0,?_,(Q9 d k m (fun j c=>?_))⟩
  ·simp only [asAddr,Sem.run_bind,Sem.run_pure,Result.andThen_ok]
   exact Qw ht s m
  ·by_cases hjs:j<sz
   ·obtain ⟨u,i,l⟩:=g j hjs
    have:f j=u:=by simp [f,i]
    rw [this]
    exact l c
   ·obtain ⟨u,i,l⟩:=q (ES (Ar e x)+j) c
    have:f j=u:=by simp [f,Nat.add_assoc,i]
    rw [this]
    exact l
theorem OP {α:Type} (f:α→Sem Value) (g:α→Value):∀ (l:List α),(∀ x∈l,(f x).run P w = .ok (g x) w)→(l.mapM f).run P w = .ok (l.map g) w
 | [],_=>by simp
 | x::l,h=>by simp [h x (by simp),OP f g l (fun y a=>h y (by simp [a]))]
theorem Vv {V:ResultVar→AV} (rs:List ResultVar) (g:ResultVar→Value) (hg:∀ r∈rs,R w0 M w (g r) (V r)) :
  R w0 M w (if h:(rs.map g).toArray.size=1 then (rs.map g).toArray[0] else .tuple (rs.map g).toArray) (Zt (rs.map V)):=by
 match rs,hg with
 | [],_=>exact .tup rfl (fun i a _=>absurd a (by simp))
 | [r],hg=>exact (hg r (by simp))
 | r::r'::l,hg =>
  have:¬ ((List.map g (r::r'::l)).toArray.size=1):=by simp
  rw [dif_neg this]
  refine .tup (by simp) (fun i a b=>?_)
  have e:i<(r::r'::l).length:=by simpa using b
  have c:(List.map g (r::r'::l)).toArray[i]=g (r::r'::l)[i]:=by rw [List.getElem_toArray,List.getElem_map]
  have d:(List.map V (r::r'::l))[i]'b=V (r::r'::l)[i]:=by rw [List.getElem_map]
  have:=(hg (r::r'::l)[i] (List.getElem_mem _))
  rw [←c,←d] at this
  exact this
theorem ZbB (h:Rel w0 n M e st a w) {fn:Func} {rs:List ResultVar} (hfn:fn.results=rs.toArray) (hrs:∀ r∈rs,Uy P e st r) :
  ∃ v,(results fn a.tmps).run P w = .ok v w∧R w0 M w v (Zt (rs.map (Zcq P e st))):=by
 let f:ResultVar→Sem Value:=fun
  | .tmp t=>pure (a.tmps.getD t undef)
  | .cell b t=>do loadVar t (← asAddr (a.tmps.getD b undef))
 have c:∀ r∈rs,∃ v,(f r).run P w = .ok v w∧R w0 M w v (Zcq P e st r):=by
  intro r d
  have:=hrs r d
  cases r with
  | tmp t=>exact ⟨_,rfl,(Bh h (x := .tmp t) this).pub⟩
  | cell b t =>
   obtain ⟨v,k,l⟩:=U6 h t (.tmp b) this
   exact ⟨v,k,l.pub⟩
 classical
 let g:ResultVar→Value:=fun r=>if d:r∈rs then Classical.choose (c r d) else undef
 have j:∀ r∈rs,(f r).run P w = .ok (g r) w∧R w0 M w (g r) (Zcq P e st r):=by
  intro r d
  have:=Classical.choose_spec (c r d)
  have e:g r=Classical.choose (c r d):=by simp only [g,dif_pos d]
  rw [e];exact this
 have m:(fn.results.mapM f).run P w = .ok ((rs.map g).toArray) w:=by
  rw [hfn,Array.mapM_eq_mapM_toList]
  simp only [Sem.run_map,OP f g rs (fun r d=>(j r d).1),Result.andThen_ok]
 have i:(results fn a.tmps).run P w = .ok (if h:(rs.map g).toArray.size=1 then (rs.map g).toArray[0] else .tuple (rs.map g).toArray) w:=by
  unfold results
  simp only [Sem.run_bind]
  refine Eq.trans (congrArg (fun x=>Result.andThen x _) m) ?_
  simp only [Result.andThen_ok,Sem.run_pure]
 refine ⟨_,i,?_⟩
 exact Vv rs g fun r d=>(j r d).2
def Au:Nat→List AV→Env
 | _,[]=>[]
 | k,x::l=>(k,true,x)::Au (k+1) l
theorem Ql:∀ (l:List AV) (k s:Nat) (x:Bool × AV),D2 (Au k l) s=some x→∃ i,s=k+i∧∃ y,l[i]? = some y∧x=(true,y)
 | [],_,_,_,h=>by cases h
 | y::l,k,s,x,h=>by
  simp only [Au,D2] at h
  by_cases c:k=s
  ·rw [Ae c] at h;cases h;exact ⟨0,c.symm,y,rfl,rfl⟩
  ·rw [Af c] at h
   obtain ⟨i,d,z,a,b⟩:=Ql l (k+1) s x h
   exact ⟨i+1,by omega,z,a,b⟩
theorem R.same {M:Mem} {w w':World} (hs:∀ (b off:Nat) (v:Value),w.cell? ⟨b,off,none⟩=some v→w'.cell? ⟨b,off,none⟩=some v) {v:Value} {x:AV} (h:R w0 M w v x):R w0 M w' v x:=by
 induction h with
 | flat h=>exact .flat h
 | agg hl h1 _ ih=>exact .agg hl h1 ih
 | tup hl _ ih=>exact .tup hl ih
 | nil ho=>exact .nil ho
 | emp ho=>exact .emp ho
 | @list b off cap xs o sz us hc hm hcell _ ho ih =>
  refine .list sz us hc hm (fun i a=>⟨(hcell i a).1,fun j c=>⟨((hcell i a).2 j c).1,?_⟩⟩) ih ho
  obtain ⟨v,hv⟩:=Pe (u:=us i) (j:=j) (by rw [(hcell i a).1];exact c)
  exact (hs _ _ _ ((((hcell i a).2 j c).2).trans hv)).trans hv.symm
 | @elem b off x u k hcell _ ih =>
  refine .elem u k (fun j c=>⟨(hcell j c).1,?_⟩) ih
  obtain ⟨v,hv⟩:=Pe (u:=u) (j:=j) c
  exact (hs _ _ _ ((hcell j c).2.trans hv)).trans hv.symm
 | box hl=>exact .box hl
 | clo hl _ ih=>exact .clo hl ih
 | yld hk=>exact .yld hk
 | vec a hv h=>exact .vec a hv h
 | vel a hv h=>exact .vel a hv h
theorem Oj {w:World} {D:Nat} {o o':Obj} (hD:w.heap[D]? = some o) (ho:o.isCells=false) {b off:Nat} {v:Value} (h:w.cell? ⟨b,off,none⟩=some v):(w.putObj D o').cell? ⟨b,off,none⟩=some v:=by
 by_cases c:b=D
 ·subst c
  unfold World.cell? at h
  simp only [hD] at h
  cases o with
  | cells c ty fz=>simp [Obj.isCells] at ho
  | _=>simp at h
 ·unfold World.cell? at h ⊢
  simp only [World.putObj_heap_other c] at h ⊢
  exact h
theorem entryOk.same {M:Mem} {w w':World} (hs:∀ (b off:Nat) (v:Value),w.cell? ⟨b,off,none⟩=some v→w'.cell? ⟨b,off,none⟩=some v) {v:Value} {x:Bool × AV} (h:entryOk w0 M w v x):entryOk w0 M w' v x:=by
 unfold entryOk at *
 split
 ·rename_i c;rw [Ae c] at h;exact h.same hs
 ·rename_i c;rw [Af c] at h;exact h
theorem RowOk.same {M:Mem} {w w':World} {id:Nat} {x:RowA} (h:RowOk w0 M w id x) (hs:∀ (b off:Nat) (v:Value),w.cell? ⟨b,off,none⟩=some v→w'.cell? ⟨b,off,none⟩=some v)
  (hc:∀ {b:Nat} {c:Array Value} {ty:TypeId},w.heap[b]? = some (.cells c ty (0,0))→w'.heap[b]? = some (.cells c ty (0,0))) (hz:w.heap.size≤w'.heap.size):RowOk w0 M w' id x:=by
 cases x with
 | grow n sz =>
  obtain ⟨a1,a2,a3,a4,a5,a6,a7,c,ty,d,a⟩:=h
  exact ⟨a1,a2,a3,a4,a5,a6,a7,c,ty,hc d,a⟩
 | vec v sz cs =>
  obtain ⟨a1,a2,a3,a4,a5,a6,a7,c,ty,d,a,e,j,f⟩:=h
  exact ⟨a1,a2,a3,a4,a5,a6,a7,c,ty,hc d,a,e,j,fun i g k=>(f i g k).same hs⟩
 | dead v =>
  obtain ⟨a1,a2,a3,a4⟩:=h
  exact ⟨a1,a2,a3,Nat.lt_of_lt_of_le a4 hz⟩
theorem Below.putObj {B D:Nat} {x y:World} (h:Below B x y) (hD:B≤D) (o:Obj):Below B x (y.putObj D o) :=
 h.trans ⟨rfl,rfl,rfl,by simp,fun k a=>World.putObj_heap_other (by omega)⟩
theorem RelSt.putObj {M:Mem} {w:World} (h:RelSt w0 M st w) {D:Nat} {o:Obj} (o':Obj) (hD:w.heap[D]? = some o) (ho:o.isCells=false) (h0:w0.heap.size≤D) (hl:∀ k,k<M.NL→M.lb k≠D):RelSt w0 M st (w.putObj D o'):=by
 have hs:∀ (b a:Nat) (v:Value),w.cell? ⟨b,a,none⟩=some v→(w.putObj D o').cell? ⟨b,a,none⟩=some v:=fun b a v=>Oj hD ho
 have n:∀ {b:Nat} {c:Array Value} {d:TypeId},w.heap[b]? = some (.cells c d (0,0))→(w.putObj D o').heap[b]? = some (.cells c d (0,0)):=by
  intro b c d hb
  rw [World.putObj_heap_other (fun e=>by subst e;rw [hD] at hb;cases hb;cases ho)]
  exact hb
 refine ⟨Below.putObj h.below h0 _,h.N,h.NR,fun b hb=>h.top b (by simpa using hb),h.inj,fun l cs j=>?_,fun id x f=>(h.row id x f).same hs n (by simp),h.rowinj,⟨h.loop.NL,h.loop.inj,fun k t f=>?_⟩⟩
 ·obtain ⟨a1,a2,c,d,a3,a4,a5,a6⟩:=h.box l cs j
  exact ⟨a1,a2,c,d,n a3,a4,a5,fun i u p=>(a6 i u p).same hs⟩
 ·have m:k<M.NL:=by rw [h.loop.NL];exact (Ag.1 f).1
  obtain ⟨a1,r,a2,a3,a4,a5,a6,a7,y,q⟩:=h.loop.record k t f
  exact ⟨a1,r,by rw [World.putObj_heap_other (hl k m)];exact a2,a3,a4,a5,a6,a7,y,fun s x g=>(q s x g).same hs⟩
theorem NG {M0:Mem} {W0:World} {fn:Func} {RR:Ending→World→Prop} {m:Nat} {tmps:Array Value}:∀ (Ds:List Nat) (M:Mem) (w:World),Ds.Nodup→(∀ D∈Ds,W0.heap.size≤D∧w.heap[D]? = some (.deferred (some []))) →
  W0.heap.size≥w0.heap.size→RelSt w0 M st w→Ext w0 M0 W0 M w →
  (∀ w',RelSt w0 M st w'→Ext w0 M0 W0 M w'→(∀ v x,R w0 M w v x→R w0 M w' v x)→∃ v,(results fn tmps).run P w' = .ok v w'∧RR (.returned v) w') →
  LeavesInM (FW none) m P fn tmps RR (Ds.map fun D=>{ target := .collected D,args := #[] }) .returning w
 | [],M,w,_,_,_,hr,hx,hk=>hk w hr hx fun _ _ h=>h
 | D::Ds,M,w,hn,hD,hw,hr,hx,hk=>by
  obtain ⟨H,j⟩:=hD D (by simp)
  have l:∀ k,k<M.NL→M.lb k≠D:=by
   intro k p e
   have g:k<st.loops.length:=by rw [←hr.loop.NL];exact p
   obtain ⟨_,r,hr',_⟩:=hr.loop.record k _ (List.getElem?_eq_getElem g)
   rw [e,j] at hr'
   cases hr'
  have hs:∀ (b c:Nat) (v:Value),w.cell? ⟨b,c,none⟩=some v→(w.putObj D (.deferred none)).cell? ⟨b,c,none⟩=some v:=fun b c v=>Oj j rfl
  have q:Ext w0 M0 W0 M (w.putObj D (.deferred none)) :=
   ⟨hx.N,hx.bx,hx.NR,hx.rows,fun b c v i n=>let ⟨a,b'⟩:=hx.cell b c v i n;⟨hs _ _ _ a,b'⟩,by have:=hx.size;simpa using this,hx.NL,hx.lb,hx.lnew,fun b o i n F=>by
    have G:b<W0.heap.size:=(Array.getElem?_eq_some_iff.1 i).1
    rw [World.putObj_heap_other (by omega)]
    exact hx.objs b o i n F⟩
  refine ⟨by simp,.inl ⟨D,_,rfl,run_takeDeferred j,?_⟩⟩
  have d:=List.nodup_cons.1 hn
  refine NG Ds M _ d.2 (fun E s=>?_) hw (hr.putObj _ j rfl (by omega) l) q (fun w' z y t=>hk w' z y fun v x h=>t v x (h.same hs))
  obtain ⟨C,u⟩:=hD E (List.mem_cons_of_mem _ s)
  have f:E≠D:=fun e=>d.1 (by rw [←e];exact s)
  exact ⟨C,by rw [World.putObj_heap_other f];exact u⟩
theorem EF {f:FuncId} {fn:Func} {c:Code} {args:List AV} {rs:List ResultVar} {Post:AV→St→Prop} (hf:P.funcs[f]? = some fn) (hb:fn.body=some c) (hrs:fn.results=rs.toArray) (hn:fn.ntmps=n)
  (hen:J0 P f) (ha:args.length≤n)
  (h:∀ (M0:Mem) (W0:World),M0.N=st.boxes.length→M0.NR=st.rows.length→M0.NL=st.loops.length→Calm st.boxes.length st.rows.length st.loops.length st→(∀ x∈args,Under st.boxes.length st.rows.length st.loops.length x) →
   GL P w0 n M0 W0 none c (ZcZ P rs Post) (Au 0 args) st):ACalls P w0 f args st Post:=by
 refine ⟨hen,fun M w a b d=>?_⟩
 have Q:a.size=args.length:=d.1
 have O:∀ x∈args,Under st.boxes.length st.rows.length st.loops.length x:=by
  intro x V
  obtain ⟨i,q,rfl⟩:=List.mem_iff_getElem.1 V
  have:=(d.get (i:=i) (Array.getElem?_eq_getElem (by omega)) (List.getElem?_eq_getElem q)).under
  rwa [b.N,b.NR,b.loop.NL] at this
 have k:Rel w0 n M (Au 0 args) st { tmps:=a++Array.replicate (fn.ntmps-a.size) undef,defers:=[] } w:=by
  refine ⟨b,by simp;omega,fun s x hs=>?_⟩
  obtain ⟨i,j,y,u,rfl⟩:=Ql _ _ _ _ hs
  have q:i<args.length:=(Ag.1 u).1
  have hs':s=i:=by omega
  subst hs'
  simp only [entryOk,if_true]
  have J:(a++Array.replicate (fn.ntmps-a.size) undef).getD s undef=a[s]'(by omega):=by
   simp [Array.getD_eq_getD_getElem?,Array.getElem?_append_left (show s<a.size by omega),Array.getElem?_eq_getElem (show s<a.size by omega)]
  rw [J]
  exact d.get (Array.getElem?_eq_getElem (by omega)) u
 refine SQ (n:=0) (callsIn_of_wp_marks hf hb trivial (wpIn_mono (h M w b.N b.NR b.loop.NL b.calm O 0 M _ w ⟨k,.refl _ _ _,[],by simp⟩) ?_))
 rintro ex p z ⟨M',o,l,j,m⟩
 have e:∀ (t:∀ r∈rs,Uy P o l r) (D:Post (Zt (rs.map (Zcq P o l))) l),
   LeavesInM (FW none) 0 P fn p.tmps (Comes' w0 M w Post) p.defers .returning z:=by
  intro t D
  obtain ⟨Ds,U,Y,E⟩:=j.marks
  rw [Y]
  refine NG Ds M' z U E b.base_le j.rel.st j.ext fun G C H k3=>?_
  have g:Rel w0 n M' o l p G:=⟨C,j.rel.size,fun s x hs=>by
   have:=j.rel.env s x hs
   unfold entryOk at *
   split
   ·rename_i c;rw [Ae c] at this;exact k3 _ _ this
   ·rename_i c;rw [Af c] at this;exact this⟩
  obtain ⟨v,K,F⟩:=ZbB g hrs t
  exact ⟨v,K,v,M',_,l,rfl,D,H,C,F⟩
 cases ex with
 | normal=>exact e m.1 m.2
 | ret=>exact e m.1 m.2
 | _=>exact m.elim
def Zmr (st:St) (Post:AV→St→Prop) (r:AV) (s:St):Prop :=
 st.boxes.length≤s.boxes.length∧st.rows.length≤s.rows.length∧st.loops.length≤s.loops.length∧Calm st.boxes.length st.rows.length st.loops.length (s.cut st.boxes.length st.rows.length st.loops.length) ∧
  Under st.boxes.length st.rows.length st.loops.length r∧Post r (s.cut st.boxes.length st.rows.length st.loops.length)
theorem ACalls.fin {f:FuncId} {args:List AV} {Post:AV→St→Prop} (h:ACalls P w0 f args st (Zmr st Post)):ACalls P w0 f args st Post:=by
 refine ⟨h.1,fun M w b a c=>(h.2 M w b a c).mono ?_⟩
 rintro en n ⟨v,M',r,j,i,⟨g,k,d,m,e,l⟩,h3,h4,h5⟩
 exact ⟨v,M'.cut st.boxes.length st.rows.length st.loops.length,r,_,i,l,h3.cut (by have:=a.N;omega) (by have:=a.NR;omega) (by have:=a.loop.NL;omega) (by rw [h4.loop.NL];exact d),h4.cut g k d m,h5.cut e⟩
theorem Zct {f:FuncId} {fn:Func} {c:Code} (hf:P.funcs[f]? = some fn) (hb:fn.body=some c) (hn:fn.name ≠ "runtime.NumGoroutine"):J0 P f:=by
 intro a w
 simp [callFunc,hf,hb,hn]
end
section
variable {P:Program} {w0:World} {n:Nat}
def Zbf (P:Program) (w0:World) (e1:Env) (c:Bool) (st:St) (o:Oper) (v:AV):Prop :=
 match o.op with
 | .call ⟨.value f,args,_⟩=>c=true→AP e1 true f∧(∀ x∈args.toList,AP e1 true x)∧OJ P w0 (Ar e1 f) (args.toList.map fun x=>argP e1 (Ar e1 x)) st fun r s=>r=v∧s=st
 | op=>(c=true→(Be P e1 c st op).1)∧(Be P e1 c st op).2.1=v∧(Be P e1 c st op).2.2=st
theorem Ta {e1:Env} {c:Bool} {st:St} {o:Oper} {v:AV} (hc:¬ LK o.op=true) :
  Zbf P w0 e1 c st o v=((c=true→(Be P e1 c st o.op).1)∧(Be P e1 c st o.op).2.1=v∧(Be P e1 c st o.op).2.2=st):=by
 obtain ⟨h,op,e,g,a,b⟩:=o
 cases op with
 | call cc =>
  obtain ⟨callee,d,i⟩:=cc
  cases callee with
  | value f=>exact absurd rfl hc
  | _=>rfl
 | _=>rfl
theorem SH {M:Mem} {e1:Env} {st:St} {a:Act} {w:World} (h:Rel w0 n M e1 st a w) (ro:Option Nat) (m:Nat) {all:List Oper} {o:Oper} {v:AV} (hg:Lr all e1 o.guard) (hv:Zbf P w0 e1 (DN all e1 o.guard) st o v)
  (Q:Exit→Act→World→Prop) (K:Act→World→Prop) (hK:∀ u w' M',Ext w0 M w M' w'→RelSt w0 M' st w'→entryOk w0 M' w' u (DN all e1 o.guard,v)→K (a.put o.dst u) w') :
  if Region.wanted o (yielded all.toArray a.tmps) then o.wpIn (FW ro) m P a w K Q else (∀ f,o.about P w a.eval=some f→(FW ro).fn f)∧K (a.put o.dst undef) w:=by
 rw [OE h hg]
 cases hcc:DN all e1 o.guard with
 | true =>
  rw [hcc] at hv hK
  rw [Ae rfl]
  by_cases hc:LK o.op=true
  ·obtain ⟨dst,op,p,q,k,guard⟩:=o
   cases op<;>try cases hc
   rename_i cc
   obtain ⟨callee,l,x⟩:=cc
   cases callee<;>try cases hc
   rename_i f
   obtain ⟨e,d,i⟩:=hv rfl
   refine KL h ro m e d i Q _ (fun r s t u w' M' j b c=>?_)
   obtain ⟨rfl,rfl⟩:=t
   exact hK u w' M' j b c
  ·rw [Ta hc] at hv
   obtain ⟨e,d,i⟩:=hv
   refine Sm h ro m o (e rfl) Q _ (fun u w' M' j b c=>?_)
   rw [i] at b
   rw [d] at c
   exact hK u w' M' j b c
 | false =>
  rw [hcc] at hK
  rw [Af (by simp)]
  exact ⟨fun g _=>Wq ro g,hK undef w M (.refl _ _ _) h.st rfl⟩
structure Trail (P:Program) (w0:World) (n:Nat) (all os:List Oper) (e:Env) (st:St) (E:Nat→Env) (C:Nat→Bool) (V:Nat→AV):Prop where
 zero:E 0=e
 step:∀ j o,os[j]? = some o→E (j+1)=Lm (E j) o.dst (C j) (V j)∧Lr all (DO true all o (E j)) o.guard∧LC n o.dst∧DN all (DO true all o (E j)) o.guard=C j ∧
  Zbf P w0 (DO true all o (E j)) (C j) st o (V j)
theorem U9 {all os:List Oper} {e:Env} {st:St} {o:Oper} {E:Nat→Env} {C:Nat→Bool} {V:Nat→AV} {v:AV} (hg:Lr all (DO true all o e) o.guard) (hd:LC n o.dst)
  (ho:Zbf P w0 (DO true all o e) (DN all (DO true all o e) o.guard) st o v) (T:Trail P w0 n all os (Lm e o.dst (DN all (DO true all o e) o.guard) v) st E C V) :
  Trail P w0 n all (o::os) e st (fun | 0=>e | j+1=>E j) (fun | 0=>DN all (DO true all o e) o.guard | j+1=>C j) (fun | 0=>v | j+1=>V j):=by
 refine ⟨rfl,fun j q hq=>?_⟩
 cases j with
 | zero =>
  simp only [List.getElem?_cons_zero,Option.some.injEq] at hq
  subst hq
  exact ⟨T.zero,hg,hd,rfl,ho⟩
 | succ j =>
  simp only [List.getElem?_cons_succ] at hq
  exact T.step j q hq
theorem Vs {all:List Oper} {st:St} {KK:Env→St→Prop}:∀ (c:Nat) (os:List Oper) (e:Env),YK P w0 n true all KK c os e st→∃ E C V,Trail P w0 n all os e st E C V∧KK (E os.length) st
 | 0,_,_,h=>h.elim
 | c+1,os,e,h=>by
  have k:∀ (os:List Oper) (e:Env),evS P w0 n true all (YK P w0 n true all KK c) KK os e st→∃ E C V,Trail P w0 n all os e st E C V∧KK (E os.length) st:=by
   intro os
   induction os with
   | nil=>exact fun e h=>⟨fun _=>e,fun _=>false,fun _ => .junk,⟨rfl,fun j o w=>by simp at w⟩,h⟩
   | cons o os ih =>
    intro e h
    by_cases hc:LK o.op=true
    ·obtain ⟨u,op,r,t,m,l⟩:=o
     cases op<;>try cases hc
     rename_i cc
     obtain ⟨callee,q,y⟩:=cc
     cases callee<;>try cases hc
     rename_i f
     simp only [evS] at h
     obtain ⟨p,hd,i,x⟩:=h
     rcases x with ⟨v,k1,k2⟩ | ⟨hf,_⟩
     ·obtain ⟨E,C,V,T,g⟩:=Vs c os _ k2
      exact ⟨_,_,_,U9 p hd (fun b=>⟨(i b).1,(i b).2,k1 b⟩) T,g⟩
     ·cases hf
    ·rw [Wh hc] at h
     obtain ⟨p,hd,i,s,a⟩:=h
     have d:=s (.inr rfl)
     simp only at d
     rw [d] at a
     obtain ⟨E,C,V,T,g⟩:=ih _ a
     exact ⟨_,_,_,U9 p hd (by rw [Ta hc];exact ⟨i,rfl,d⟩) T,g⟩
  exact k os e h
theorem NY {all os:List Oper} {e:Env} {st:St} {E:Nat→Env} {C:Nat→Bool} {V:Nat→AV} (T:Trail P w0 n all os e st E C V)
  (uniq:∀ (i j:Nat) (o p:Oper) (s:Nat),os[i]? = some o→os[j]? = some p→o.dst=some s→p.dst=some s→i=j) (s:Nat):∀ j,j≤os.length →
  ((∀ i o,i<j→os[i]? = some o→o.dst≠some s)→D2 (E j) s=D2 e s)∧(∀ i o,i<j→os[i]? = some o→o.dst=some s→D2 (E j) s=some (C i,V i))
 | 0,_=>⟨fun _=>by rw [T.zero],fun i o h=>absurd h (by omega)⟩
 | j+1,hj=>by
  obtain ⟨g,f⟩:=NY T uniq s j (by omega)
  have ho:os[j]? = some os[j]:=List.getElem?_eq_getElem (by omega)
  have b:=(T.step j _ ho).1
  have a:os[j].dst≠some s→D2 (E (j+1)) s=D2 (E j) s:=by
   intro a
   rw [b]
   cases hd:os[j].dst with
   | none=>rfl
   | some d =>
    rw [hd] at a
    simp only [Lm,D2]
    rw [Af (fun h=>a (by rw [h]))]
  refine ⟨fun h=>?_,fun i o k hio hd=>?_⟩
  ·rw [a (h j _ (by omega) ho)]
   exact g fun i o k=>h i o (by omega)
  ·by_cases c:i=j
   ·subst c
    rw [ho] at hio
    cases hio
    rw [b,hd]
    simp only [Lm,D2,if_true]
   ·rw [a (fun h=>c (uniq i j o _ s hio ho hd h))]
    exact f i o (by omega) hio hd
theorem Oi {F:Fence} {m:Nat} {md:Region.Mode} {ops:Array Oper} {Q':Exit→Act→World→Prop}:∀ (l:List Oper) (k:Nat) (listed:Array Bool) (a:Act) (w:World),(∀ j,l[j]? = ops[k+j]?) →
  Region.seqB md ops l.length k listed=true→wpListIn F m P ops Q' l a w→wpAnyIn F m P md ops Q' l.length listed a w
 | [],_,_,_,_,_,hB,h=>⟨by simpa [Region.seqB] using hB,h⟩
 | o::l,k,listed,a,w,hl,hB,h=>by
  have c:ops[k]? = some o:=by simpa using (hl 0).symm
  simp only [List.length_cons,Region.seqB,Bool.and_eq_true,decide_eq_true_eq] at hB
  refine ⟨fun h1=>(by rw [hB.1] at h1;cases h1),fun i hi=>?_⟩
  rw [hB.1] at hi
  have hik:i=k:=by simpa using hi
  subst hik
  have b:wpOpIn F m P ops Q' i (wpListIn F m P ops Q' l) a w:=by unfold wpOpIn;simp only [c];exact h
  exact wpOpIn_mono (fun e f d=>Oi l (i+1) _ e f (fun j=>by have:=hl (j+1);simpa [Nat.add_assoc,Nat.add_comm 1 j] using this) hB.2 d) b
def W4 (o:Oper) (j:Nat):Bool:=o.after.any fun e=>Region.binds .any e&&e.on == j
theorem S0 {o:Oper} {j:Nat} (h:W4 o j=true):∃ e∈o.after,Region.binds .any e=true∧e.on=j:=by
 obtain ⟨e,b,a⟩:=Array.any_eq_true'.1 h
 simp only [Bool.and_eq_true,beq_iff_eq] at a
 exact ⟨e,b,a.1,a.2⟩
def ZgY (l:List Oper) (i j:Nat) (o p:Oper):Bool :=
 match p.dst with
 | some s=>(decide (i=j)||o.dst != some s)&&(!(S4 l o).contains s||(decide (j<i)&&W4 o j))
 | none=>true
def ZgD (l:List Oper) (h:Nat):Bool :=
 (List.range h).all fun i=>match l[i]? with
  | some o=>(o.after.toList.all fun e => !Region.binds .any e||decide (e.on<i))&&(List.range h).all fun j=>match l[j]? with
   | some p=>ZgY l i j o p
   | none=>true
  | none=>true
def Zkv (l:List Oper) (h:Nat):Bool :=
 (List.range (l.length-h)).all fun k=>(List.range (h+k)).all fun j=>(List.range (h+k+1)).any fun q=>decide (j<q)&&(match l[q]? with | some o=>W4 o j | none=>false)
def YQ (l:List Oper) (h:Nat):Bool :=
 decide (h≤l.length)&&ZgD l h&&Zkv l h&&Region.seqB .any l.toArray (l.length-h) h (Array.replicate h true++Array.replicate (l.length-h) false)
theorem P2 {l:List Oper} {h:Nat} (hB:ZgD l h=true) {i:Nat} {o:Oper} (hi:i<h) (ho:l[i]? = some o) :
  (∀ e∈o.after,Region.binds .any e=true→e.on<i)∧∀ j p s,j<h→l[j]? = some p→p.dst=some s→(o.dst=some s→i=j)∧(s∈S4 l o→j<i∧W4 o j=true):=by
 have a:=List.all_eq_true.1 hB i (List.mem_range.2 hi)
 simp only [ho,Bool.and_eq_true] at a
 refine ⟨fun e f g=>?_,fun j p s d k hs=>?_⟩
 ·have:=List.all_eq_true.1 a.1 e (by simpa using f)
  simpa [g] using this
 ·have b:=List.all_eq_true.1 a.2 j (List.mem_range.2 d)
  simp only [k,ZgY,hs,Bool.and_eq_true,Bool.or_eq_true,decide_eq_true_eq,bne_iff_ne,Bool.not_eq_true'] at b
  refine ⟨fun hd=>b.1.resolve_right (fun c=>c hd),fun m=>?_⟩
  rcases b.2 with h3 | h3
  ·have:(S4 l o).contains s=true:=by simpa using m
   rw [h3] at this;cases this
  ·exact h3
theorem Zak {listed:Array Bool} {i:Nat} (h:listed.getD i true=false):∃ hi:i<listed.size,listed[i]=false:=by
 by_cases c:i<listed.size
 ·exact ⟨c,by simpa [c] using h⟩
 ·simp [Array.getD_eq_getD_getElem?,Array.getElem?_eq_none (Nat.le_of_not_lt c)] at h
theorem Zb0 {listed:Array Bool} {i:Nat} (h:listed.getD i false=true):∃ hi:i<listed.size,listed[i]=true:=by
 by_cases c:i<listed.size
 ·exact ⟨c,by simpa [c] using h⟩
 ·simp [Array.getD_eq_getD_getElem?,Array.getElem?_eq_none (Nat.le_of_not_lt c)] at h
theorem EY {listed:Array Bool} {i j:Nat} (hi:i<listed.size) (b:Bool):(listed.setIfInBounds i true).getD j b=if i=j then true else listed.getD j b:=by
 by_cases c:i=j
 ·subst c;simp [hi]
 ·rw [Af c]
  simp [Array.getElem?_setIfInBounds_ne c]
structure DInv (w0:World) (n:Nat) (l:List Oper) (h:Nat) (e:Env) (st:St) (C:Nat→Bool) (V:Nat→AV) (M1:Mem) (w1:World) (ds:List Deferred) (listed:Array Bool) (a:Act) (w:World) (M:Mem):Prop where
 size:listed.size=l.length
 tail:∀ t,h≤t→t<l.length→listed.getD t true=false
 closed:∀ j oj,l[j]? = some oj→listed.getD j false=true→∀ e∈oj.after,Region.binds .any e=true→listed.getD e.on false=true
 rel:RelSt w0 M st w
 tmps:a.tmps.size=n
 defers:a.defers=ds
 ext:Ext w0 M1 w1 M w
 old:∀ s x,(∀ i o,i<h→l[i]? = some o→o.dst≠some s)→D2 e s=some x→entryOk w0 M w (a.tmps.getD s undef) x
 new:∀ i o s,i<h→l[i]? = some o→o.dst=some s→listed.getD i false=true→entryOk w0 M w (a.tmps.getD s undef) (C i,V i)
theorem SZ {listed:Array Bool} {h:Nat} (hn:¬ ∀ j,j<h→listed.getD j false=true):∃ j,j<h∧listed.getD j false=false∧∀ i,i<j→listed.getD i false=true:=by
 induction h with
 | zero=>exact absurd (fun j a=>absurd a (by omega)) hn
 | succ h ih =>
  by_cases c:∀ j,j<h→listed.getD j false=true
  ·refine ⟨h,by omega,?_,c⟩
   cases hq:listed.getD h false with
   | false=>rfl
   | true =>
    exact absurd (fun j a=>by
     by_cases e:j=h
     ·exact e▸hq
     ·exact c j (by omega)) hn
  ·obtain ⟨j,f,b,d⟩:=ih c
   exact ⟨j,by omega,b,d⟩
theorem Zdi {l:List Oper} {h:Nat} {e:Env} {st:St} {E:Nat→Env} {C:Nat→Bool} {V:Nat→AV} {M1:Mem} {w1:World} {ds:List Deferred} {ro:Option Nat} {m:Nat} {Q:Exit→Act→World→Prop}
  (T:Trail P w0 n l (l.take h) e st E C V) (hB:YQ l h=true)
  (hend:∀ a w M,Rel w0 n M (E h) st a w→Ext w0 M1 w1 M w→a.defers=ds→wpListIn (FW ro) m P l.toArray Q (l.drop h) a w) :
  ∀ fuel listed a w M,fuel=listed.toList.count false→DInv w0 n l h e st C V M1 w1 ds listed a w M→wpAnyIn (FW ro) m P .any l.toArray Q fuel listed a w:=by
 simp only [YQ,Bool.and_eq_true,decide_eq_true_eq] at hB
 obtain ⟨⟨⟨az,hH⟩,hT⟩,hS⟩:=hB
 have ay:(l.take h).length=h:=by simp;omega
 have b:∀ j,j<h→(l.take h)[j]? = l[j]? := fun j hj=>List.getElem?_take_of_lt hj
 have ab:∀ {j:Nat} {o:Oper},(l.take h)[j]? = some o→j<h:=fun {j o} hj=>by
  have:=(Ag.1 hj).1;omega
 have ad:∀ (i j:Nat) (o p:Oper) (s:Nat),(l.take h)[i]? = some o→(l.take h)[j]? = some p→o.dst=some s→p.dst=some s→i=j:=by
  intro i j o p s hi hj hs ao
  have a1:=ab hi
  have a2:=ab hj
  rw [b _ a1] at hi
  rw [b _ a2] at hj
  exact ((P2 hH a1 hi).2 j p s a2 hj ao).1 hs
 have f:∀ s j,j≤h→_:=fun s j hj=>NY T ad s j (by omega)
 have U:∀ (listed:Array Bool) (a:Act) (w:World) (M:Mem) (fuel:Nat),fuel=listed.toList.count false→DInv w0 n l h e st C V M1 w1 ds listed a w M→(∀ j,j<h→listed.getD j false=true) →
   wpAnyIn (FW ro) m P .any l.toArray Q fuel listed a w:=by
  intro listed a w M fuel hf inv g
  have hl:listed=Array.replicate h true++Array.replicate (l.length-h) false:=by
   apply Array.ext
   ·simp [inv.size];omega
   ·intro i y Y
    by_cases c:i<h
    ·have:=g i c
     simp only [Array.getD_eq_getD_getElem?,Array.getElem?_eq_getElem y,Option.getD_some] at this
     rw [this,Array.getElem_append_left (by simpa using c)]
     simp
    ·have:=inv.tail i (by omega) (by rw [←inv.size];exact y)
     simp only [Array.getD_eq_getD_getElem?,Array.getElem?_eq_getElem y,Option.getD_some] at this
     rw [this,Array.getElem_append_right (by simpa using c)]
     simp
  have au:fuel=(l.drop h).length:=by
   rw [hf,hl]
   simp [List.count_append,List.count_replicate]
  have D:Rel w0 n M (E h) st a w:=by
   refine ⟨inv.rel,inv.tmps,fun s x hs=>?_⟩
   by_cases c:∃ j p,j<h∧l[j]? = some p∧p.dst=some s
   ·obtain ⟨j,p,hj,hp,hd⟩:=c
    have:=(f s h (Nat.le_refl _)).2 j p hj (by rw [b _ hj];exact hp) hd
    rw [this] at hs
    cases hs
    exact inv.new j p s hj hp hd (g j hj)
   ·have:=(f s h (Nat.le_refl _)).1 (fun j p hj hp hd=>c ⟨j,p,hj,by rw [←b _ hj];exact hp,hd⟩)
    rw [this] at hs
    exact inv.old s x (fun j p hj hp hd=>c ⟨j,p,hj,hp,hd⟩) hs
  rw [au]
  refine Oi (l.drop h) h listed a w (fun j=>by simp [List.getElem?_drop]) ?_ (hend a w M D inv.ext inv.defers)
  rw [hl,List.length_drop]
  exact hS
 have G:∀ (listed:Array Bool) (t:Nat) (o:Oper),(∀ j oj,l[j]? = some oj→listed.getD j false=true→∀ e∈oj.after,Region.binds .any e=true→listed.getD e.on false=true) →
   l[t]? = some o→h≤t→(∀ e∈o.after,Region.binds .any e=true→listed.getD e.on false=true)→∀ d j,j+d+1=t→listed.getD j false=true:=by
  intro listed t o aj ho ht r d
  induction d using Nat.strongRecOn with
  | _ d ih =>
   intro j hj
   have a4:t<l.length:=(Ag.1 ho).1
   have y:=List.all_eq_true.1 (List.all_eq_true.1 hT (t-h) (List.mem_range.2 (by omega))) j (List.mem_range.2 (by omega))
   obtain ⟨q,hq,Y⟩:=List.any_eq_true.1 y
   have a5:q≤t:=by have:=List.mem_range.1 hq;omega
   simp only [Bool.and_eq_true,decide_eq_true_eq] at Y
   obtain ⟨a0,h3⟩:=Y
   cases hoq:l[q]? with
   | none=>simp [hoq] at h3
   | some oq =>
    simp only [hoq] at h3
    obtain ⟨J,N,H,O⟩:=S0 h3
    by_cases c:q=t
    ·subst c
     rw [ho] at hoq;cases hoq
     exact O▸r J N H
    ·have:=ih (t-q-1) (by omega) q (by omega)
     exact O▸aj q oq hoq this J N H
 intro fuel
 induction fuel with
 | zero =>
  intro listed a w M hf inv
  refine U listed a w M 0 hf inv (fun j hj=>?_)
  cases hq:listed.getD j false with
  | true=>rfl
  | false =>
   exfalso
   have aq:j<listed.size:=by rw [inv.size];omega
   have:false∈listed.toList:=by
    have e1:listed[j]=false:=by simpa [aq] using hq
    rw [←e1];simp
   have:=List.count_pos_iff.2 this
   omega
 | succ fuel ih =>
  intro listed a w M hf inv
  by_cases g:∀ j,j<h→listed.getD j false=true
  ·exact U listed a w M _ hf inv g
  ·obtain ⟨k,af,aa,ag⟩:=SZ g
   have am:k<listed.size:=by rw [inv.size];omega
   have av:l[k]? = some l[k]:=List.getElem?_eq_getElem (by omega)
   have K:k∈Region.ready .any l.toArray listed:=by
    refine mem_ready.2 ⟨by simpa [am] using aa,l[k],by simp,fun J he hb=>ag _ ((P2 hH af av).1 J he hb)⟩
   refine ⟨fun h0=>absurd K (by rw [h0];simp),fun i hi=>?_⟩
   obtain ⟨ap,o,ho,r⟩:=mem_ready.1 hi
   have u:l[i]? = some o:=by simpa using ho
   have a3:i<l.length:=(Ag.1 u).1
   have Z:i<h:=by
    refine Nat.lt_of_not_le fun aw=>?_
    have:=G listed i o inv.closed u aw r (i-k-1) k (by omega)
    rw [aa] at this;cases this
   obtain ⟨t1,t2,t3,t4,t5⟩:=T.step i o (by rw [b _ Z];exact u)
   have F:=P2 hH Z u
   have D:Rel w0 n M (DO true l o (E i)) st a w:=by
    refine ⟨inv.rel,inv.tmps,fun s x hs=>?_⟩
    simp only [DO,if_true] at hs
    have hm:=MI _ _ _ _ hs
    have hl:=IZ _ _ _ _ hs
    by_cases c:∃ j p,j<h∧l[j]? = some p∧p.dst=some s
    ·obtain ⟨j,p,hj,hp,hd⟩:=c
     obtain ⟨ah,hw⟩:=(F.2 j p s hj hp hd).2 hm
     obtain ⟨J,N,H,O⟩:=S0 hw
     have ak:listed.getD j false=true:=O▸r J N H
     have:=(f s i (by omega)).2 j p ah (by rw [b _ hj];exact hp) hd
     rw [this] at hl
     cases hl
     exact inv.new j p s hj hp hd ak
    ·have:=(f s i (by omega)).1 (fun j p hj hp hd=>c ⟨j,p,by omega,by rw [←b _ (by omega)];exact hp,hd⟩)
     rw [this] at hl
     exact inv.old s x (fun j p hj hp hd=>c ⟨j,p,hj,hp,hd⟩) hl
   unfold wpOpIn
   simp only [ho]
   have z:i<listed.size:=by rw [inv.size];omega
   refine SH D ro m t2 (by rw [t4];exact t5) Q _ fun v w' M' hx ar hv=>?_
   rw [t4] at hv
   refine ih _ _ _ M' ?_ ?_
   ·have ae:listed[i]=false:=by simpa [z] using ap
    have ax:0<listed.toList.count false:=List.count_pos_iff.2 (by rw [←ae];simp)
    rw [Array.toList_setIfInBounds,List.count_set (by simpa using z)]
    simp only [Array.getElem_toList,ae]
    rw [Ae (show (false == false)=true from rfl),Af (show ¬ (true == false)=true by decide)]
    omega
   ·have keep:∀ s x,o.dst≠some s→entryOk w0 M w (a.tmps.getD s undef) x→entryOk w0 M' w' ((a.put o.dst v).tmps.getD s undef) x:=by
     intro s x ai y
     rw [Le a o.dst v s (by rw [inv.tmps];exact t3),Af ai]
     exact y.mono hx
    refine ⟨by simp [inv.size],fun t y Y=>?_,fun j oj hj hl J he hb=>?_,ar,by rw [Qz];exact inv.tmps,by rw [KO];exact inv.defers,inv.ext.trans hx,fun s x y Y=>?_,fun j p s hj hp hd hl=>?_⟩
    ·rw [EY z,Af (by omega)];exact inv.tail t y Y
    ·rw [EY z] at hl ⊢
     split
     ·rfl
     ·by_cases c:i=j
      ·subst c
       rw [u] at hj;cases hj
       exact r J he hb
      ·rw [Af c] at hl
       exact inv.closed j oj hj hl J he hb
    ·exact keep s x (y i o Z u) (inv.old s x y Y)
    ·by_cases c:i=j
     ·subst c
      rw [u] at hp;cases hp
      rw [Le a o.dst v s (by rw [inv.tmps];exact t3),Ae hd]
      exact hv
     ·rw [EY z,Af c] at hl
      refine keep s _ (fun hs=>c ((F.2 j p s hj hp hd).1 hs)) (inv.new j p s hj hp hd hl)
theorem ZdP {M0:Mem} {W0:World} {ro:Option Nat} {Q:AQ} {e:Env} {st:St} (hm:P.follows .mixedOrders=true) (h:Nat) (c1 c2:Nat) (L:List Nat) {id:Nat} {l:List Oper} (hB:YQ l h=true)
  (hev:YK P w0 n true l (fun e1 s1=>YK P w0 n false l (fun e2 s2=>Q .normal (Dz L e2) s2) c2 (l.drop h) e1 s1) c1 (l.take h) e st):GL P w0 n M0 W0 ro (.region id l.toArray true) Q e st:=by
 intro m M a w b
 obtain ⟨E,C,V,T,o⟩:=Vs _ _ _ hev
 have v:h≤l.length:=by
  simp only [YQ,Bool.and_eq_true,decide_eq_true_eq] at hB;exact hB.1.1.1
 have d:(l.take h).length=h:=by simp;omega
 rw [d] at o
 obtain ⟨y,p⟩:=b.rel.st.drew
 refine wpIn_region_any hm (Zdi T hB (M1:=M) (w1:=w) (ds:=a.defers) (fun a1 w1 M1 i g k=>?_) _ _ a _ M (by simp) ?_)
 ·refine Su ro m false l _ _ c2 _ _ st a1 w1 M1 i o fun e2 s2 a2 G F D z q r=>⟨F,_,_,⟨z.sub (Bm L _),b.ext.trans (g.trans q),?_⟩,D⟩
  rw [r,k]
  exact b.marks.later (g.trans q) b.rel.st
 ·exact ⟨by simp,fun t _ u=>by simp [Array.getD_eq_getD_getElem?,u],fun j _ _ f=>by
   exfalso
   by_cases c:j<l.length
   ·simp [Array.getD_eq_getD_getElem?,c] at f
   ·simp [Array.getD_eq_getD_getElem?,c] at f,y,b.rel.size,rfl,p,fun s x _ hs=>(b.rel.env s x hs).mono p,fun j _ _ _ _ _ f=>by
   exfalso
   by_cases c:j<l.length
   ·simp [Array.getD_eq_getD_getElem?,c] at f
   ·simp [Array.getD_eq_getD_getElem?,c] at f⟩
end
def St.ext (s X:St):St:=⟨s.boxes++X.boxes,s.rows++X.rows,s.loops++X.loops⟩
def St.push (s:St) (la:LoopA):St:={ s with loops:=s.loops++[la] }
def St.like (s t:St):Prop:=s.boxes.length=t.boxes.length∧t.rows.length≤s.rows.length∧s.loops.length=t.loops.length
def Zgx (P:Program) (w0:World) (gf:FuncId) (caps:List AV) (items:List (List AV)) (Fr:St→Prop):Prop :=
 ∀ (k:Nat) (J:Nat→St→Prop) (Jx:St→Prop),(∀ i s,J i s→Fr s∧k<s.loops.length) →
  (∀ i s x X,X.rows=[]→J i s→items[i]? = some x→Vq P w0 k x (s.ext X) fun r s'=>∃ t,s'=t.ext X∧t.like s∧((r = .val (.bool true)∧J (i+1) t)∨(r = .val (.bool false)∧Jx t))) →
  ∀ s,J 0 s→ACalls P w0 gf (.yld k::caps) s fun _ s'=>∃ t X,X.rows=[]∧s'=St.ext t X∧(J items.length t∨Jx t)
def WB:Env→List Nat→List AV→Env
 | e,p::ps,x::xs=>WB ((p,true,x)::e) ps xs
 | e,_,_=>e
section
variable {P:Program} {w0:World} {n:Nat} {M:Mem} {e:Env} {st:St} {a:Act} {w:World}
theorem Rel.bind:∀ (ps:List Nat) (vs:List Value) (xs:List AV) (e:Env) (a:Act),Rel w0 n M e st a w→ps.length=xs.length→(∀ p∈ps,p<n)→vs.length=xs.length→(∀ (i:Nat) (v:Value) (x:AV),vs[i]? = some v→xs[i]? = some x→R w0 M w v x) →
  Rel w0 n M (WB e ps xs) st { tmps:=(ps.zip vs).foldl (fun t (p,v)=>t.setIfInBounds p v) a.tmps,defers:=a.defers } w
 | [],[],[],_,_,h,_,_,_,_=>h
 | p::ps,v::vs,x::xs,e,a,h,h1,h2,h3,h4=>by
  simp only [List.zip_cons_cons,List.foldl_cons,WB]
  have g:p<n:=h2 p (by simp)
  have:=h.put (M':=M) (w':=w) (st':=st) (.refl _ _ _) h.st (dst:=some p) g (c:=true) (v:=v) (r:=x) (h4 0 v x rfl rfl)
  exact Rel.bind ps vs xs _ (a.put (some p) v) this (by simpa using h1) (fun q b=>h2 q (by simp [b])) (by simpa using h3) (fun i u y f d=>h4 (i+1) u y f d)
 | [],_::_,[],_,_,_,_,_,h,_=>by simp at h
 | [],_,_::_,_,_,_,h,_,_,_=>by simp at h
 | _::_,_,[],_,_,_,h,_,_,_=>by simp at h
 | _::_,[],_::_,_,_,_,_,_,h,_=>by simp at h
theorem RelSt.setLoop (h:RelSt w0 M st w) {k:Nat} {la:LoopA} (hk:st.loops[k]? = some la) (s:LoopState) (p:Option Code) {r:Loop} (hr:w.heap[M.lb k]? = some (.loop r)) :
  RelSt w0 M { st with loops:=st.loops.set k { la with st:=s,pend:=p } } (w.putObj (M.lb k) (.loop { r with state:=s,pending:=p }))∧Ext w0 M w M (w.putObj (M.lb k) (.loop { r with state:=s,pending:=p })):=by
 have m:k<st.loops.length:=(Ag.1 hk).1
 have g:k<M.NL:=by rw [h.loop.NL];exact m
 have n:M.lb k<w.heap.size:=(Array.getElem?_eq_some_iff.1 hr).1
 obtain ⟨g0,U,g1,g2,g3,g4,g5,g6,K,C⟩:=h.loop.record k la hk
 rw [hr] at g1
 cases g1
 generalize ho':Obj.loop { r with state:=s,pending:=p }=o'
 have hs:∀ (b a:Nat) (v:Value),w.cell? ⟨b,a,none⟩=some v→(w.putObj (M.lb k) o').cell? ⟨b,a,none⟩=some v:=fun b a v=>Oj hr rfl
 have z:∀ {b:Nat} {c:Array Value} {f:TypeId},w.heap[b]? = some (.cells c f (0,0))→(w.putObj (M.lb k) o').heap[b]? = some (.cells c f (0,0)):=by
  intro b c f hb
  rw [World.putObj_heap_other (fun e=>by subst e;rw [hr] at hb;cases hb)]
  exact hb
 refine ⟨⟨Below.putObj h.below g0 _,h.N,h.NR,fun b hb=>h.top b (by simpa using hb),h.inj,fun l cs u=>?_,fun id x Q=>(h.row id x Q).same hs z (by simp),h.rowinj,⟨by simp [h.loop.NL],h.loop.inj,fun j G hj=>?_⟩⟩,
  ⟨Nat.le_refl _,fun _ _=>rfl,Nat.le_refl _,fun _ _=>⟨Nat.le_refl _,fun _=>⟨rfl,rfl,rfl⟩⟩,fun b a v t D=>⟨hs b a v D,t⟩,by simp,Nat.le_refl _,fun _ _=>rfl,fun _ _ _=>by omega,fun b o t _ J=>?_⟩⟩
 ·obtain ⟨a1,a2,c,f,a3,a4,a5,a6⟩:=h.box l cs u
  exact ⟨a1,a2,c,f,z a3,a4,a5,fun i F O=>(a6 i F O).same hs⟩
 ·by_cases q:j=k
  ·subst q
   rw [List.getElem?_set_self m] at hj
   cases hj
   exact ⟨g0,{ r with state:=s,pending:=p },by rw [←ho'];exact World.putObj_heap_same n,rfl,rfl,g4,g5,g6,K,fun s x d=>(C s x d).same hs⟩
  ·rw [List.getElem?_set_ne (Ne.symm q)] at hj
   have y:j<M.NL:=by rw [h.loop.NL];exact (Ag.1 hj).1
   obtain ⟨a1,r,a2,a3,a4,a5,a6,a7,H,E⟩:=h.loop.record j G hj
   exact ⟨a1,r,by rw [World.putObj_heap_other (fun e=>q (h.loop.inj j k y g e))];exact a2,a3,a4,a5,a6,a7,H,fun s x d=>(E s x d).same hs⟩
 ·rw [World.putObj_heap_other (fun e=>J k g e.symm)]
  exact t
def Mem.newLoop (M:Mem) (b:Nat):Mem:={ M with NL:=M.NL+1,lb:=fun k=>if k=M.NL then b else M.lb k }
theorem Rel.newLoop (h:Rel w0 n M e st a w) (fn:FuncId) (ps:Array Tmp) (asg body:Code) :
  RelSt w0 (M.newLoop (w.heap.size+1)) (st.push ⟨e,n,ps,asg,body,.ready,none⟩) ((w.alloc (.deferred (some []))).alloc (.loop { state := .ready,pending:=none,fn,tmps:=a.tmps,params:=ps,assign:=asg,body,defers:=w.heap.size })) ∧
  Ext w0 M w (M.newLoop (w.heap.size+1)) ((w.alloc (.deferred (some []))).alloc (.loop { state := .ready,pending:=none,fn,tmps:=a.tmps,params:=ps,assign:=asg,body,defers:=w.heap.size })):=by
 generalize hr:({ state := .ready,pending:=none,fn,tmps:=a.tmps,params:=ps,assign:=asg,body,defers:=w.heap.size }:Loop)=r
 have m:KeepsObj w ((w.alloc (.deferred (some []))).alloc (.loop r)):=(KeepsObj.alloc _ _).trans (KeepsObj.alloc _ _)
 have u:∀ (b p:Nat) (v:Value),w.cell? ⟨b,p,none⟩=some v→((w.alloc (.deferred (some []))).alloc (.loop r)).cell? ⟨b,p,none⟩=some v:=by
  intro b p v hv
  have g:=World.block_lt_of_cell? w _ hv
  rw [World.cell?_alloc_lt _ _ _ (by simp;exact Nat.lt_succ_of_lt g),World.cell?_alloc_lt _ _ _ g]
  exact hv
 have f:∀ k,k<M.NL→(M.newLoop (w.heap.size+1)).lb k=M.lb k:=fun k hk=>by simp [Mem.newLoop];omega
 have d:(M.newLoop (w.heap.size+1)).lb M.NL=w.heap.size+1:=by simp [Mem.newLoop]
 have C:Ext w0 M w (M.newLoop (w.heap.size+1)) ((w.alloc (.deferred (some []))).alloc (.loop r)) :=
  ⟨Nat.le_refl _,fun _ _=>rfl,Nat.le_refl _,fun _ _=>⟨Nat.le_refl _,fun _=>⟨rfl,rfl,rfl⟩⟩,fun b p v D z=>⟨u b p v z,D⟩,by simp;omega,Nat.le_succ _,f,fun k D z=>by
   have:k=M.NL:=by simp only [Mem.newLoop] at z;omega
   rw [this,d];omega,fun b o D z _=>m b o D z⟩
 have H:∀ {b:Nat},b<w.heap.size→((w.alloc (.deferred (some []))).alloc (.loop r)).heap[b]? = w.heap[b]? := fun {b} E=>by
  rw [BL _ _ (by simp;omega),BL _ _ E]
 refine ⟨⟨(h.st.below.alloc h.st.base_le _).alloc (by have:=h.st.base_le;simp;omega) _,h.st.N,h.st.NR,fun b E=>h.st.top b (by simp at E;omega),h.st.inj,fun l cs V=>?_,fun id x F=>(h.st.row id x F).keep C rfl rfl rfl rfl rfl (h.st.row id x F).ne (H (h.st.row id x F).lt),h.st.rowinj,⟨by simp [Mem.newLoop,St.push,h.st.loop.NL],fun k y hk t q=>?_,fun k J hk=>?_⟩⟩,C⟩
 ·obtain ⟨a1,a2,c,K,a3,a4,a5,a6⟩:=h.st.box l cs V
  exact ⟨a1,a2,c,K,by rw [show (M.newLoop (w.heap.size+1)).bx l=M.bx l from rfl,H (Array.getElem?_eq_some_iff.1 a3).1];exact a3,a4,a5,fun i U b2=>(a6 i U b2).mono C⟩
 ·have g:∀ j,j<M.NL→M.lb j<w.heap.size:=fun j Y=>by
   obtain ⟨_,r,q,_⟩:=h.st.loop.record j _ (List.getElem?_eq_getElem (by rw [←h.st.loop.NL];exact Y))
   exact (Array.getElem?_eq_some_iff.1 q).1
  simp only [Mem.newLoop] at hk t
  by_cases c:k=M.NL
  ·by_cases c':y=M.NL
   ·omega
   ·subst c
    rw [d,f y (by omega)] at q
    have:=g y (by omega)
    omega
  ·by_cases c':y=M.NL
   ·subst c'
    rw [d,f k (by omega)] at q
    have:=g k (by omega)
    omega
   ·rw [f k (by omega),f y (by omega)] at q
    exact h.st.loop.inj k y (by omega) (by omega) q
 ·simp only [St.push] at hk
  by_cases c:k=st.loops.length
  ·subst c
   simp only [List.getElem?_concat_length,Option.some.injEq] at hk
   subst hk
   rw [←h.st.loop.NL,d]
   refine ⟨by have:=h.st.base_le;omega,r,?_,?_⟩
   ·have:=World.alloc_heap_new (w.alloc (.deferred (some []))) (.loop r)
    rwa [World.size_alloc] at this
   ·have G:r.tmps=a.tmps:=by rw [←hr]
    exact ⟨by rw [←hr],by rw [←hr],by rw [←hr],by rw [←hr],by rw [←hr],by rw [G];exact h.size,fun s x hs=>by rw [G];exact (h.env s x hs).mono C⟩
  ·have t:k<st.loops.length:=by
    have:=(Ag.1 hk).1
    simp at this;omega
   rw [List.getElem?_append_left t] at hk
   obtain ⟨a1,O,a2,a3,a4,a5,a6,a7,Z,Q⟩:=h.st.loop.record k J hk
   rw [f k (by rw [h.st.loop.NL];exact t)]
   exact ⟨a1,O,m _ _ a2 rfl,a3,a4,a5,a6,a7,Z,fun s x hs=>(Q s x hs).mono C⟩
def Zae (I:Exit→St→Prop) (s1 X:St) (la:LoopA):AQ:=fun x _ s =>
 ∃ t b,s=⟨t.boxes++X.boxes++b,t.rows,(s1.loops++[la])++X.loops⟩∧t.like s1∧t.loops=s1.loops∧I x t ∧
  (b=[]∨Calm (s1.boxes.length+X.boxes.length) t.rows.length s.loops.length ⟨t.boxes++X.boxes,t.rows,s.loops⟩)
def TV:Exit→Option (Option Code)
 | .normal=>some none
 | .ret=>some (some .ret)
 | .exit id=>some (some (.exit id))
 | _=>none
theorem ZbW {M0:Mem} {W0:World} {I:Exit→St→Prop} {s1 X:St} (hX:X.rows=[]) {la:LoopA} {Post:AV→St→Prop} {x:Exit} {jump:Option Code}
  (h0:RelSt w0 M0 ((s1.push { la with st := .ready,pend:=none }).ext X) W0) (hx0:Ext w0 M0 W0 M w) {e':Env} {s':St} (hr:RelSt w0 M s' w) (hq:Zae I s1 X { la with st := .busy,pend:=none } x e' s')
  (hpost:∀ t,t.like s1→t.loops=s1.loops→I x t→Post (.val (.bool jump.isNone)) ((t.push { la with st:=if jump.isNone then .ready else .done,pend:=jump }).ext X)) :
  ∃ v w',(Instr.endRound (M0.lb s1.loops.length) jump).run P w = .ok v w'∧Comes' w0 M0 W0 Post (.returned v) w':=by
 obtain ⟨t,b,rfl,H,o,D,t4⟩:=hq
 have n:((s1.loops++[{ la with st := .busy,pend:=none }])++X.loops)[s1.loops.length]? = some { la with st := .busy,pend:=none }:=by
  rw [List.getElem?_append_left (by simp),List.getElem?_concat_length]
 obtain ⟨_,z,g1,_⟩:=hr.loop.record _ _ n
 have f:s1.loops.length<M0.NL:=by rw [h0.loop.NL];simp [St.ext,St.push]
 rw [←hx0.lb _ f]
 obtain ⟨e,p⟩:=hr.setLoop n (if jump.isNone then .ready else .done) jump g1
 refine ⟨_,_,run_endRound jump g1,?_⟩
 have G:((s1.loops++[{ la with st := .busy,pend:=none }])++X.loops).set s1.loops.length { la with st:=if jump.isNone then .ready else .done,pend:=jump }=(s1.loops++[{ la with st:=if jump.isNone then .ready else .done,pend:=jump }])++X.loops:=by
  rw [List.set_append_left _ _ (by simp),List.set_append_right _ _ (by simp)]
  simp
 simp only at e
 rw [G] at e
 have g:=hx0.trans p
 have hd:M0.N=s1.boxes.length+X.boxes.length∧M0.NR=s1.rows.length∧M0.NL=s1.loops.length+1+X.loops.length:=by
  refine ⟨by rw [h0.N];simp [St.ext,St.push],by rw [h0.NR];simp [St.ext,St.push,hX],by rw [h0.loop.NL];simp [St.ext,St.push];omega⟩
 obtain ⟨C,s,F⟩:=H
 have i:=hpost t ⟨C,s,F⟩ o D
 have j:(t.push { la with st:=if jump.isNone then .ready else .done,pend:=jump }).ext X=⟨t.boxes++X.boxes,t.rows,(s1.loops++[{ la with st:=if jump.isNone then .ready else .done,pend:=jump }])++X.loops⟩:=by
  simp only [St.push,St.ext,o,hX,List.append_nil]
 rw [j] at i
 have c:∀ M' w',R w0 M' w' (.bool jump.isNone) (.val (.bool jump.isNone)):=fun _ _ => .flat rfl
 rcases t4 with rfl | t4
 ·simp only [List.append_nil] at e
  exact ⟨_,M,_,_,rfl,i,g,e,c _ _⟩
 ·refine ⟨_,M.cut (s1.boxes.length+X.boxes.length) t.rows.length (s1.loops.length+1+X.loops.length),_,_,rfl,i,g.cut (by omega) (by omega) (by omega) (by rw [e.loop.NL];simp;omega),?_,c _ _⟩
  have d:=e.cut (nb:=s1.boxes.length+X.boxes.length) (nr:=t.rows.length) (nl:=s1.loops.length+1+X.loops.length) (by simp;omega) (by simp) (by simp;omega)
  have E:List.take (s1.boxes.length+X.boxes.length) (t.boxes++X.boxes++b)=t.boxes++X.boxes:=List.take_left' (by simp;omega)
  have u:List.take t.rows.length t.rows=t.rows:=List.take_length
  have r:∀ a,List.take (s1.loops.length+1+X.loops.length) (s1.loops++[a]++X.loops)=s1.loops++[a]++X.loops:=fun a=>List.take_of_length_le (by simp;omega)
  simp only [St.cut,E,u,r] at d
  have m:(s1.loops++[{ la with st:=LoopState.busy,pend:=none }]++X.loops).length=s1.loops.length+1+X.loops.length:=by simp;omega
  refine d ⟨?_,?_,fun a hla k y h l=>?_⟩
  ·have:=t4.rows
   simp only [m] at this
   exact this
  ·have:=t4.boxes
   simp only [m] at this
   exact this
  ·have q:=t4.loops
   simp only [m] at q
   simp only [List.mem_append,List.mem_singleton] at hla q
   rcases hla with (hla | rfl) | hla
   ·exact q a (.inl (.inl hla)) k y h l
   ·exact q { la with st := .busy,pend:=none } (.inl (.inr rfl)) k y h l
   ·exact q a (.inr hla) k y h l
structure RoundAt (M0:Mem) (s:St):Prop where
 N:M0.N=s.boxes.length
 NR:M0.NR=s.rows.length
 NL:M0.NL=s.loops.length
 calm:Calm s.boxes.length s.rows.length s.loops.length s
theorem RoundAt.turn {M0:Mem} {s X:St} {la la':LoopA} (h:RoundAt M0 ((s.push la).ext X)) (he:la'.e=la.e):RoundAt M0 ((s.push la').ext X) where
 N:=h.N
 NR:=h.NR
 NL:=by rw [h.NL];simp [St.ext,St.push]
 calm:=by
  have f:((s.push la').ext X).loops.length=((s.push la).ext X).loops.length:=by simp [St.ext,St.push]
  rw [f]
  refine ⟨h.calm.rows,h.calm.boxes,fun l d k x a b=>?_⟩
  have c:l∈s.loops∨l=la'∨l∈X.loops:=by simpa [St.ext,St.push,or_assoc] using d
  rcases c with q | rfl | q
  ·exact h.calm.loops l (by simp [St.ext,St.push,q]) k x a b
  ·rw [he] at a
   exact h.calm.loops la (by simp [St.ext,St.push]) k x a b
  ·exact h.calm.loops l (by simp [St.ext,St.push,q]) k x a b
theorem Zbz {la:LoopA} {s1 X:St} (hX:X.rows=[]) {I:Exit→St→Prop} {x:List AV} {Post:AV→St→Prop} (hlen:x.length=la.ps.size) (hps:∀ p∈la.ps.toList,p<la.n)
  (hbody:∀ (M0:Mem) (W0:World) (l:Nat),RoundAt M0 ((s1.push { la with st := .ready,pend:=none }).ext X)→RoundAt M0 ((s1.push { la with st := .busy,pend:=none }).ext X)→GL P w0 la.n M0 W0 (some l) la.asg (WQ (fun e' s'=>s'.loops=((s1.push { la with st := .ready,pend:=none }).ext X).loops ∧
   GL P w0 la.n M0 W0 (some l) la.body (Zae I s1 X { la with st := .busy,pend:=none }) e' { s' with loops:=((s1.push { la with st := .busy,pend:=none }).ext X).loops }) (fun _ _ _=>False))
   (WB la.e la.ps.toList x) ((s1.push { la with st := .ready,pend:=none }).ext X))
  (hI:∀ ex s,I ex s→(TV ex).isSome=true)
  (hpost:∀ ex jump t,TV ex=some jump→t.like s1→t.loops=s1.loops→I ex t→Post (.val (.bool jump.isNone)) ((t.push { la with st:=if jump.isNone then .ready else .done,pend:=jump }).ext X)) :
  Vq P w0 s1.loops.length x ((s1.push { la with st := .ready,pend:=none }).ext X) Post:=by
 intro M w d c f
 have U:((s1.push { la with st := .ready,pend:=none }).ext X).loops[s1.loops.length]? = some { la with st := .ready,pend:=none }:=by
  simp only [St.ext,St.push]
  rw [List.getElem?_append_left (by simp),List.getElem?_concat_length]
 obtain ⟨_,r,g1,g2,g3,g4,g5,g6,g7,Y⟩:=c.loop.record _ _ U
 simp only at g2 g3 g4 g5 g6 g7 Y
 have H:=run_yield (P:=P) (args:=d) g1 (by rw [g4,f.1,hlen])
 refine ⟨_,_,_,_,H,fun m=>roundIn_of_wpIn (F:=Fence.wide) trivial ?_⟩
 rw [g5,g6]
 have k:Rel w0 la.n M la.e ((s1.push { la with st := .ready,pend:=none }).ext X) { tmps:=r.tmps,defers:=[] } w:=⟨c,g7,Y⟩
 have u:=Rel.bind la.ps.toList d.toList x la.e _ k (by simp [hlen]) hps (by simp [f.1]) (fun i v y hv H=>f.get (by rw [←Array.getElem?_toList];exact hv) H)
 have J:(r.params.zip d).foldl (fun tmps (t,a)=>tmps.setIfInBounds t a) r.tmps=(la.ps.toList.zip d.toList).foldl (fun t (p,v)=>t.setIfInBounds p v) r.tmps:=by
  rw [g4,←Array.foldl_toList,Array.toList_zip]
 rw [J]
 refine wpIn_mono (hbody M w (M.lb s1.loops.length) ⟨c.N,c.NR,c.loop.NL,c.calm⟩ (RoundAt.turn (la:={ la with st := .ready,pend:=none }) ⟨c.N,c.NR,c.loop.NL,c.calm⟩ rfl) m M _ w ⟨u,.refl _ _ _,[],by simp⟩) ?_
 rintro ex a1 w1 ⟨M1,e1,s',g,Z⟩
 cases ex with
 | normal =>
  obtain ⟨C,hb⟩:=Z
  have q:s'.loops[s1.loops.length]? = some { la with st := .ready,pend:=none }:=by rw [C];exact U
  obtain ⟨_,G,E,k2,_⟩:=g.rel.st.loop.record _ _ q
  have K:s1.loops.length<M.NL:=by rw [c.loop.NL];simp [St.ext,St.push]
  have h:=g.ext.lb _ K
  rw [h] at E
  refine ⟨_,run_beginRound E k2,?_⟩
  obtain ⟨z,D⟩:=g.rel.st.setLoop q .busy none (by rw [h];exact E)
  rw [h] at z D
  have j:G.pending=none:=by
   obtain ⟨_,aa,k1',_,Q,_⟩:=g.rel.st.loop.record _ _ q
   rw [h,E] at k1'
   cases k1'
   exact Q
  have er:({ G with state:=LoopState.busy,pending:=none }:Loop)={ G with state:=LoopState.busy }:=by rw [←j]
  rw [er] at z D
  have eL:{ s' with loops:=s'.loops.set s1.loops.length { la with st := .busy,pend:=none } }={ s' with loops:=((s1.push { la with st := .busy,pend:=none }).ext X).loops }:=by
   rw [C]
   simp only [St.ext,St.push]
   rw [List.set_append_left _ _ (by simp),List.set_append_right _ _ (by simp)]
   simp
  simp only at z
  rw [eL] at z
  have O:At w0 la.n M w e1 { s' with loops:=((s1.push { la with st := .busy,pend:=none }).ext X).loops } a1 (w1.putObj (M.lb s1.loops.length) (.loop { G with state := .busy })) M1 :=
   ⟨⟨z,g.rel.size,fun s x hs=>(g.rel.env s x hs).mono D⟩,g.ext.trans D,g.marks.later D g.rel.st⟩
  refine wpIn_mono (hb m M1 a1 _ O) ?_
  rintro ex a2 w2 ⟨M2,e2,s2,h3,V⟩
  have o:=hI ex
  have fin:∀ jump,TV ex=some jump→∃ v w',(Instr.endRound (M.lb s1.loops.length) jump).run P w2 = .ok v w'∧Comes' w0 M w Post (.returned v) w':=fun jump hj =>
   ZbW hX (jump:=jump) c h3.ext h3.rel.st V (fun t t1 t2 t3=>hpost ex jump t hj t1 t2 t3)
  obtain ⟨t,b,q1,q2,q3,q4,q5⟩:=V
  have:=o t q4
  cases ex with
  | normal=>exact fin _ rfl
  | ret=>exact fin _ rfl
  | exit id=>exact fin _ rfl
  | _=>simp [TV] at this
 | _=>exact Z.elim
theorem R7 {M0:Mem} {W0:World} {Q:AQ} {g:Operand} {ps:Array Tmp} {asg body:Code} {gf:FuncId} {caps:List AV} (items:List (List AV)) (Fr:St→Prop) (I:Nat→St→Prop) (Ix:Exit→St→Prop)
  (hg:AP e true g) (hgv:Ar e g = .clo gf caps) (hit:Zgx P w0 gf caps items Fr) (hlen:∀ x∈items,x.length=ps.size) (hps:∀ p∈ps.toList,p<n)
  (hFr:∀ i s la,I i s→s.like st→s.loops=st.loops→Fr (s.push la)) (h0:I 0 st) (hIx:∀ ex s,Ix ex s→ex = .ret∨∃ id,ex = .exit id)
  (hbody:∀ (i:Nat) (s1 X:St) (x:List AV) (M0:Mem) (W0:World) (l:Nat) (la la':LoopA),X.rows=[]→I i s1→s1.like st→s1.loops=st.loops→items[i]? = some x→RoundAt M0 ((s1.push la').ext X) →
   ∀ K:Env→St→Prop,(∀ e' s',s'.loops=((s1.push la).ext X).loops→(∀ KQ:AQ,(∀ ex e s,Zae (fun ex s=>match ex with | .normal=>I (i+1) s | _=>Ix ex s) s1 X la' ex e s→KQ ex e s)→GL P w0 n M0 W0 (some l) body KQ e' { s' with loops:=((s1.push la').ext X).loops })→K e' s') →
   GL P w0 n M0 W0 (some l) asg (WQ K (fun _ _ _=>False)) (WB e ps.toList x) ((s1.push la).ext X))
  (hdone:∀ s la X,X.rows=[]→I items.length s→s.like st→s.loops=st.loops→Q .normal e ((s.push la).ext X))
  (hleft:∀ ex s la X,X.rows=[]→Ix ex s→s.like st→s.loops=st.loops→Q ex e ((s.push la).ext X)):GL P w0 n M0 W0 none (.rangeFunc g ps asg body) Q e st:=by
 intro m M a w j
 refine wpIn_rangeFunc fun fn _=>?_
 obtain ⟨n1,n2⟩:=j.rel.newLoop fn ps asg body
 obtain ⟨cs,ah,C⟩:=Xz (hgv▸Bh j.rel hg)
 generalize hW1:((w.alloc (.deferred (some []))).alloc (.loop { state := .ready,pending:=none,fn,tmps:=a.tmps,params:=ps,assign:=asg,body,defers:=w.heap.size }))=W1 at n1 n2
 generalize hM1:M.newLoop (w.heap.size+1)=M1 at n1 n2
 have ai:M.NL=st.loops.length:=j.rel.st.loop.NL
 have E:M1.lb st.loops.length=w.heap.size+1:=by rw [←hM1,←ai];simp [Mem.newLoop]
 have aa:∀ k,k<st.loops.length→M1.lb k<w.heap.size:=fun k Y=>by
  obtain ⟨_,r,q,_⟩:=j.rel.st.loop.record k _ (List.getElem?_eq_getElem Y)
  rw [n2.lb k (by omega)]
  exact (Array.getElem?_eq_some_iff.1 q).1
 have ak:M1.NL=st.loops.length+1:=by rw [n1.loop.NL];simp [St.push]
 have z:W1.heap[w.heap.size]? = some (.deferred (some [])):=by
  rw [←hW1];exact (BL _ _ (by simp)).trans (World.alloc_heap_new w _)
 let la0:LoopA:=⟨e,n,ps,asg,body,.ready,none⟩
 let J:Nat→St→Prop:=fun i s=>∃ s1,I i s1∧s1.like st∧s1.loops=st.loops∧s=s1.push la0
 let Jx:St→Prop:=fun s=>∃ ex c s1,TV ex=some (some c)∧Ix ex s1∧s1.like st∧s1.loops=st.loops∧s=s1.push { la0 with st := .done,pend:=some c }
 have o:=hit st.loops.length J Jx (fun i s ⟨s1,F,u,j3,j4⟩=>⟨by rw [j4];exact hFr i s1 la0 F u j3,by rw [j4];simp [St.push,j3]⟩)
  (fun i s x X hX ⟨s1,F,u,j3,j4⟩ U=>by
   subst j4
   have:=Zbz hX (P:=P) (w0:=w0) (la:=la0) (s1:=s1) (X:=X) (I:=fun ex s=>match ex with | .normal=>I (i+1) s | _=>Ix ex s) (x:=x)
    (Post:=fun r s'=>∃ t,s'=t.ext X∧t.like (s1.push la0)∧((r = .val (.bool true)∧J (i+1) t)∨(r = .val (.bool false)∧Jx t)))
    (hlen x (List.mem_of_getElem? U)) hps (fun M0 W0 l _ ae=>hbody i s1 X x M0 W0 l _ _ hX F u j3 U ae _ (fun e' s' h1 O=>⟨h1,O _ (fun _ _ _ h=>h)⟩))
    (fun ex s h=>by
     cases ex with
     | normal=>rfl
     | ret=>rfl
     | exit id=>rfl
     | _=>rcases hIx _ s h with h | ⟨id,h⟩<;>cases h)
    (fun ex am t hj t1 t2 t3=>by
     refine ⟨_,rfl,⟨t1.1,t1.2.1,by simp [St.push,t2]⟩,?_⟩
     have like':t.like st:=⟨t1.1.trans u.1,Nat.le_trans u.2.1 t1.2.1,t1.2.2.trans u.2.2⟩
     cases ex with
     | normal=>cases hj;exact .inl ⟨rfl,t,t3,like',t2.trans j3,rfl⟩
     | ret=>cases hj;exact .inr ⟨rfl,.ret,.ret,t,rfl,t3,like',t2.trans j3,rfl⟩
     | exit id=>cases hj;exact .inr ⟨rfl,.exit id,.exit id,t,rfl,t3,like',t2.trans j3,rfl⟩
     | _=>cases hj)
   rw [j3] at this
   exact this)
  (st.push la0) ⟨st,h0,⟨rfl,Nat.le_refl _,rfl⟩,rfl,rfl⟩
 have H:RowR w0 M1 W1 (#[.func (.yield (w.heap.size+1)) #[] #[]]++cs) (.yld st.loops.length::caps):=by
  have e1:RowR w0 M1 W1 #[.func (.yield (w.heap.size+1)) #[] #[]] [.yld st.loops.length]:=by
   refine ⟨rfl,fun i h1 O=>?_⟩
   have:i=0:=by simp at O;exact O
   subst this
   have:=R.yld (w0:=w0) (M:=M1) (w:=W1) (k:=st.loops.length) (by omega)
   rw [E] at this
   exact this
  have e2:RowR w0 M1 W1 cs caps:=⟨C.1,fun i h1 O=>(C.2 i h1 O).mono n2⟩
  exact e1.append e2
 refine ⟨w.heap.size+1,[{ target := .collected w.heap.size,args := #[] }],W1,{ target := .fn (.func gf) cs,args := #[.func (.yield (w.heap.size+1)) #[] #[]] },W1,gf,
  #[.func (.yield (w.heap.size+1)) #[] #[]]++cs,W1,?_,?_,?_,?_,fun q=>Vj none q m,?_⟩
 ·rw [←hW1];exact run_enterLoop_outer _ _ _ _ _
 ·simp only [resolve,ah]
  simp [go_sem]
 ·intro f' _;exact Wq none f'
 ·simp [invoke,go_sem,o.1 _ W1]
 ·refine UW ((o.2 M1 W1 _ n1 H).mono ?_)
  rintro en w3 ⟨v,M3,r,s3,rfl,hp,x3,r3,_⟩
  have ab:M3.lb st.loops.length=w.heap.size+1:=(x3.lb _ (by omega)).trans E
  have d:∀ (s1 X:St) (p:Option Code) (b:LoopState),b ≠ .busy→s3=(s1.push { la0 with st:=b,pend:=p }).ext X→s1.loops=st.loops →
    ∃ N,(Instr.endLoop (w.heap.size+1)).run P w3 = .ok p N∧At w0 n M0 W0 e ((s1.push { la0 with st := .exhausted,pend:=p }).ext X) { a with defers:=[{ target := .collected w.heap.size,args := #[] }]++a.defers } N M3:=by
   intro s1 X p b V hs3 Z
   subst hs3
   have Y:((s1.push { la0 with st:=b,pend:=p }).ext X).loops[st.loops.length]? = some { la0 with st:=b,pend:=p }:=by
    simp [St.push,St.ext,Z]
   obtain ⟨_,G,g1,g2,g3,_⟩:=r3.loop.record _ _ Y
   simp only at g2 g3
   obtain ⟨z1,z2⟩:=r3.setLoop Y .exhausted p g1
   rw [ab] at g1 z1 z2
   have f:=run_endLoop (P:=P) g1 (by rw [g2];exact V)
   have er:({ G with state:=LoopState.exhausted,pending:=p }:Loop)={ G with state:=LoopState.exhausted }:=by rw [←g3]
   rw [er] at z1 z2
   have f:=f.trans (congrArg (fun q=>Result.ok q _) g3)
   have eL:{ ((s1.push { la0 with st:=b,pend:=p }).ext X) with loops:=((s1.push { la0 with st:=b,pend:=p }).ext X).loops.set st.loops.length { la0 with st := .exhausted,pend:=p } }=(s1.push { la0 with st := .exhausted,pend:=p }).ext X:=by
    simp only [St.push,St.ext,Z,List.append_assoc]
    rw [List.set_append_right _ _ (by simp)]
    simp
   simp only at z1
   have U:Ext w0 M w M3 (w3.putObj (w.heap.size+1) (.loop { G with state := .exhausted })):=n2.trans (x3.trans z2)
   refine ⟨_,f,⟨⟨?_,j.rel.size,fun s x hs=>(j.rel.env s x hs).mono U⟩,j.ext.trans U,?_⟩⟩
   ·rw [←eL];exact z1
   ·obtain ⟨Ds,d1,d2,d3⟩:=j.marks.later U j.rel.st
    obtain ⟨Ds',ao,ad,af⟩:=j.marks
    have ag:Ds'=Ds:=by
     rw [ad] at d2
     have aj:Function.Injective (fun D=>({ target := .collected D,args := #[] }:Deferred)):=fun x y h=>by simpa using h
     exact List.map_inj_right (fun x y h=>aj h) |>.1 d2
    refine ⟨w.heap.size::Ds,List.nodup_cons.2 ⟨fun hm=>?_,d1⟩,by simp [d2],fun D hD=>?_⟩
    ·have:=(af _ (ag▸hm)).2
     have:=(Array.getElem?_eq_some_iff.1 this).1
     omega
    ·rcases List.mem_cons.1 hD with rfl | hD
     ·refine ⟨j.ext.size,?_⟩
      rw [World.putObj_heap_other (by omega)]
      refine x3.objs _ _ z rfl fun k Y=>?_
      by_cases c:k=st.loops.length
      ·subst c;omega
      ·have:=aa k (by omega)
       omega
     ·exact d3 D hD
  obtain ⟨t,X,hX,rfl,hp⟩:=hp
  rcases hp with ⟨s1,F,u,j3,rfl⟩ | ⟨ex,c,s1,j0,F,u,j3,rfl⟩
  ·obtain ⟨N,q1,q2⟩:=d s1 X none .ready (by simp) rfl j3
   exact ⟨none,N,q1,M3,e,_,q2,hdone s1 _ X hX F u j3⟩
  ·obtain ⟨N,q1,q2⟩:=d s1 X (some c) .done (by simp) rfl j3
   refine ⟨some c,N,q1,?_⟩
   have hq:=hleft ex s1 { la0 with st := .exhausted,pend:=some c } X hX F u j3
   cases ex with
   | ret=>cases j0;exact wpIn_ret ⟨M3,e,_,q2,hq⟩
   | exit id=>cases j0;exact wpIn_exit ⟨M3,e,_,q2,hq⟩
   | _=>cases j0
end
attribute [go_sem] OD eqCell.eq_1 eqCell.eq_2 eqCell.eq_3 ML Up Jo argP DO S4 Zd3 Op.operands Call.operands Array.toList_append Option.toArray evS Lr LC DN Be AP Ar D2 Lm Dz WQ Vx ZcZ Uy Zcq Zt IX Nk Pv Qe IB Tf DJ N1 inK Own.under Au Ls St.ext St.push St.cut WB PP Yb evBin.eq_1 evBin.eq_2 evBin.eq_3 evBin.eq_4 evBin.eq_5 evBin.eq_6 evBin.eq_7 evBin.eq_8 evBin.eq_9 evBin.eq_10 evBin.eq_11 evBin.eq_12 evBin.eq_13 evBin.eq_14 evBin.eq_15 evBin.eq_16 evBin.eq_17 evBin.eq_18 evBin.eq_19 evBB.eq_1 evBB.eq_2 evUn.eq_1 evUn.eq_2
@[go_sem] theorem Zde (v:Value):GV (.val v:AV)=true:=rfl
@[go_sem] theorem ZcB (xs:List AV) (o:Own):GV (.list xs o:AV)=false:=rfl
@[go_sem] theorem ZcE (x:AV) (k:Nat):GV (.elem x k:AV)=false:=rfl
@[go_sem] theorem ZcO (l k:Nat):GV (.box l k:AV)=false:=rfl
@[go_sem] theorem Zei (f:FuncId) (cs:List AV):GV (.clo f cs:AV)=false:=rfl
@[go_sem] theorem Zd1 (cs:List AV):GV (.agg cs:AV)=false:=rfl
@[go_sem] theorem ZcV (vs:List AV):GV (.tup vs:AV)=false:=rfl
@[go_sem] theorem ZdX (k:Nat):GV (.yld k:AV)=false:=rfl
@[go_sem] theorem ZcH (id ver o n:Nat):GV (.vec id ver o n:AV)=false:=rfl
@[go_sem] theorem ZcS (id ver o:Nat):GV (.vel id ver o:AV)=false:=rfl
@[go_sem] theorem ZdU (v:Value):ID (.val v:AV)=v:=rfl
@[go_sem] theorem ZgV (xs:List AV) (o:Own):VY (.list xs o:AV)=false:=rfl
@[go_sem] theorem Zhf (x:AV) (k:Nat):VY (.elem x k:AV)=false:=rfl
@[go_sem] theorem ZhN (l k:Nat):VY (.box l k:AV)=false:=rfl
@[go_sem] theorem ZhL (f:FuncId) (cs:List AV):VY (.clo f cs:AV)=false:=rfl
@[go_sem] theorem Zhv (cs:List AV):VY (.agg cs:AV)=false:=rfl
@[go_sem] theorem ZhU (vs:List AV):VY (.tup vs:AV)=false:=rfl
@[go_sem] theorem Zis (k:Nat):VY (.yld k:AV)=false:=rfl
@[go_sem] theorem ZhI (id ver o n:Nat):VY (.vec id ver o n:AV)=false:=rfl
@[go_sem] theorem Zhj (id ver o:Nat):VY (.vel id ver o:AV)=false:=rfl
@[go_sem] theorem Zes (xs:List AV) (o:Own):EK (.list xs o:AV)=false:=rfl
@[go_sem] theorem ZeC (x:AV) (k:Nat):EK (.elem x k:AV)=false:=rfl
@[go_sem] theorem Zfl (l k:Nat):EK (.box l k:AV)=false:=rfl
@[go_sem] theorem Zfr (f:FuncId) (cs:List AV):EK (.clo f cs:AV)=false:=rfl
@[go_sem] theorem Zfo (cs:List AV):EK (.agg cs:AV)=false:=rfl
@[go_sem] theorem Zfy (vs:List AV):EK (.tup vs:AV)=false:=rfl
@[go_sem] theorem ZfF (k:Nat):EK (.yld k:AV)=false:=rfl
@[go_sem] theorem Zfm (id ver o n:Nat):EK (.vec id ver o n:AV)=false:=rfl
@[go_sem] theorem ZfD (id ver o:Nat):EK (.vel id ver o:AV)=false:=rfl
@[go_sem] theorem ZeE (xs:List AV) (o:Own):N6 (.list xs o:AV)=false:=rfl
@[go_sem] theorem Zeq (x:AV) (k:Nat):N6 (.elem x k:AV)=false:=rfl
@[go_sem] theorem Zgf (l k:Nat):N6 (.box l k:AV)=false:=rfl
@[go_sem] theorem Zgt (f:FuncId) (cs:List AV):N6 (.clo f cs:AV)=false:=rfl
@[go_sem] theorem ZfM (cs:List AV):N6 (.agg cs:AV)=false:=rfl
@[go_sem] theorem ZfS (vs:List AV):N6 (.tup vs:AV)=false:=rfl
@[go_sem] theorem Zgp (k:Nat):N6 (.yld k:AV)=false:=rfl
@[go_sem] theorem Zgj (id ver o n:Nat):N6 (.vec id ver o n:AV)=false:=rfl
@[go_sem] theorem Zf1 (id ver o:Nat):N6 (.vel id ver o:AV)=false:=rfl
@[go_sem] theorem Zg7 (b:Bool):VY (.val (.bool b))=true:=rfl
@[go_sem] theorem ZhF (k:IntKind) (n:Int):VY (.val (.int k n))=false:=rfl
@[go_sem] theorem Zhi (s:ByteArray):VY (.val (.string s))=false:=rfl
@[go_sem] theorem ZfK:VY (.val undef)=false:=rfl
@[go_sem] theorem Zi8 (b:Bool):J3 (.val (.bool b))=b:=rfl
@[go_sem] theorem Zj5 (k:IntKind) (n:Int):EK (.val (.int k n))=true:=rfl
@[go_sem] theorem ZiQ (k:IntKind) (n:Int):AO (.val (.int k n))=n:=rfl
@[go_sem] theorem ZhO (k:IntKind) (n:Int):J9 (.val (.int k n))=k:=rfl
@[go_sem] theorem Zkf (s:ByteArray):N6 (.val (.string s))=true:=rfl
@[go_sem] theorem Zkl (s:ByteArray):ZcU (.val (.string s))=s:=rfl
@[go_sem] theorem ZiM (n:Int):TZ (.val (.int .u8 n))=(0≤n∧n≤255):=rfl
@[go_sem] theorem ZcP (xs:List AV) (o:Own):AY (.list xs o:AV)=xs:=rfl
@[go_sem] theorem ZeF (v:Value):CE (.val v:AV)=false:=rfl
@[go_sem] theorem Zd6 (xs:List AV) (o:Own):CE (.list xs o:AV)=true:=rfl
@[go_sem] theorem Zeb (x:AV) (k:Nat):CE (.elem x k:AV)=false:=rfl
@[go_sem] theorem ZeX (l k:Nat):CE (.box l k:AV)=false:=rfl
@[go_sem] theorem ZeL (f:FuncId) (cs:List AV):CE (.clo f cs:AV)=false:=rfl
@[go_sem] theorem ZeQ (cs:List AV):CE (.agg cs:AV)=false:=rfl
@[go_sem] theorem Ze7 (vs:List AV):CE (.tup vs:AV)=false:=rfl
@[go_sem] theorem ZeJ (k:Nat):CE (.yld k:AV)=false:=rfl
@[go_sem] theorem ZeH (id ver o n:Nat):CE (.vec id ver o n:AV)=false:=rfl
@[go_sem] theorem Ze5 (id ver o:Nat):CE (.vel id ver o:AV)=false:=rfl
@[go_sem] theorem ZfU (v:Value):ES (.val v:AV)=0:=rfl
@[go_sem] theorem Zfe (xs:List AV) (o:Own):ES (.list xs o:AV)=0:=rfl
@[go_sem] theorem Zff (x:AV) (k:Nat):ES (.elem x k:AV)=k:=rfl
@[go_sem] theorem ZfT (l k:Nat):ES (.box l k:AV)=k:=rfl
@[go_sem] theorem Zf7 (f:FuncId) (cs:List AV):ES (.clo f cs:AV)=0:=rfl
@[go_sem] theorem Zfx (cs:List AV):ES (.agg cs:AV)=0:=rfl
@[go_sem] theorem ZfZ (vs:List AV):ES (.tup vs:AV)=0:=rfl
@[go_sem] theorem Zgb (k:Nat):ES (.yld k:AV)=0:=rfl
@[go_sem] theorem Zgl (id ver o n:Nat):ES (.vec id ver o n:AV)=0:=rfl
@[go_sem] theorem ZfJ (id ver o:Nat):ES (.vel id ver o:AV)=o:=rfl
@[go_sem] theorem ZfO (v:Value):OB (.val v:AV)=false:=rfl
@[go_sem] theorem ZeR (xs:List AV) (o:Own):OB (.list xs o:AV)=false:=rfl
@[go_sem] theorem Zeo (x:AV) (k:Nat):OB (.elem x k:AV)=false:=rfl
@[go_sem] theorem Zfj (l k:Nat):OB (.box l k:AV)=true:=rfl
@[go_sem] theorem ZfI (f:FuncId) (cs:List AV):OB (.clo f cs:AV)=false:=rfl
@[go_sem] theorem Zfk (cs:List AV):OB (.agg cs:AV)=false:=rfl
@[go_sem] theorem ZfN (vs:List AV):OB (.tup vs:AV)=false:=rfl
@[go_sem] theorem ZfX (k:Nat):OB (.yld k:AV)=false:=rfl
@[go_sem] theorem Zgk (id ver o n:Nat):OB (.vec id ver o n:AV)=false:=rfl
@[go_sem] theorem ZfG (id ver o:Nat):OB (.vel id ver o:AV)=true:=rfl
@[go_sem] theorem Zex (v:Value):A5 (.val v:AV)=true:=rfl
@[go_sem] theorem ZdF (xs:List AV) (o:Own):A5 (.list xs o:AV)=true:=rfl
@[go_sem] theorem Zea (x:AV) (k:Nat):A5 (.elem x k:AV)=true:=rfl
@[go_sem] theorem Ze1 (l k:Nat):A5 (.box l k:AV)=true:=rfl
@[go_sem] theorem Ze6 (f:FuncId) (cs:List AV):A5 (.clo f cs:AV)=true:=rfl
@[go_sem] theorem Ze9 (cs:List AV):A5 (.agg cs:AV)=true:=rfl
@[go_sem] theorem Zfc (vs:List AV):A5 (.tup vs:AV)=false:=rfl
@[go_sem] theorem Zet (k:Nat):A5 (.yld k:AV)=true:=rfl
@[go_sem] theorem Zew (id ver o n:Nat):A5 (.vec id ver o n:AV)=true:=rfl
@[go_sem] theorem Zfa (id ver o:Nat):A5 (.vel id ver o:AV)=true:=rfl
@[go_sem] theorem Zey (v:Value):GM (.val v:AV)=false:=rfl
@[go_sem] theorem Zdl (xs:List AV) (o:Own):GM (.list xs o:AV)=false:=rfl
@[go_sem] theorem Zc8 (x:AV) (k:Nat):GM (.elem x k:AV)=false:=rfl
@[go_sem] theorem ZeP (l k:Nat):GM (.box l k:AV)=false:=rfl
@[go_sem] theorem Ze3 (f:FuncId) (cs:List AV):GM (.clo f cs:AV)=false:=rfl
@[go_sem] theorem ZeY (cs:List AV):GM (.agg cs:AV)=true:=rfl
@[go_sem] theorem Zfg (vs:List AV):GM (.tup vs:AV)=false:=rfl
@[go_sem] theorem Zfd (k:Nat):GM (.yld k:AV)=false:=rfl
@[go_sem] theorem ZeI (id ver o n:Nat):GM (.vec id ver o n:AV)=false:=rfl
@[go_sem] theorem Ze0 (id ver o:Nat):GM (.vel id ver o:AV)=false:=rfl
@[go_sem] theorem Zcy (v:Value):AV.cells (.val v:AV)=[.val v]:=rfl
@[go_sem] theorem ZbA (xs:List AV) (o:Own):AV.cells (.list xs o:AV)=[.list xs o]:=rfl
@[go_sem] theorem ZbU (x:AV) (k:Nat):AV.cells (.elem x k:AV)=[.elem x k]:=rfl
@[go_sem] theorem Zcz (l k:Nat):AV.cells (.box l k:AV)=[.box l k]:=rfl
@[go_sem] theorem Zcw (f:FuncId) (cs:List AV):AV.cells (.clo f cs:AV)=[.clo f cs]:=rfl
@[go_sem] theorem JZ (cs:List AV):AV.cells (.agg cs:AV)=cs:=rfl
@[go_sem] theorem ZcD (vs:List AV):AV.cells (.tup vs:AV)=[.tup vs]:=rfl
@[go_sem] theorem Zcx (k:Nat):AV.cells (.yld k:AV)=[.yld k]:=rfl
@[go_sem] theorem ZcC (id ver o n:Nat):AV.cells (.vec id ver o n:AV)=[.vec id ver o n]:=rfl
@[go_sem] theorem ZcA (id ver o:Nat):AV.cells (.vel id ver o:AV)=[.vel id ver o]:=rfl
@[go_sem] theorem Zep (v:Value):AV.pub (.val v:AV) = .val v:=rfl
@[go_sem] theorem ZcG (xs:List AV) (o:Own):AV.pub (.list xs o:AV) = .list xs .none:=rfl
@[go_sem] theorem ZdC (x:AV) (k:Nat):AV.pub (.elem x k:AV) = .elem x k:=rfl
@[go_sem] theorem Zem (l k:Nat):AV.pub (.box l k:AV) = .box l k:=rfl
@[go_sem] theorem Zel (f:FuncId) (cs:List AV):AV.pub (.clo f cs:AV) = .clo f cs:=rfl
@[go_sem] theorem Zen (cs:List AV):AV.pub (.agg cs:AV) = .agg (cs.map AV.pubCell):=rfl
@[go_sem] theorem Zez (vs:List AV):AV.pub (.tup vs:AV) = .tup vs:=rfl
@[go_sem] theorem ZeD (k:Nat):AV.pub (.yld k:AV) = .yld k:=rfl
@[go_sem] theorem Ze4 (id ver o n:Nat):AV.pub (.vec id ver o n:AV) = .vec id ver o n:=rfl
@[go_sem] theorem ZeM (id ver o:Nat):AV.pub (.vel id ver o:AV) = .vel id ver o:=rfl
@[go_sem] theorem ZaT (v:Value):AV.pubCell (.val v:AV) = .val v:=rfl
@[go_sem] theorem Zal (xs:List AV) (o:Own):AV.pubCell (.list xs o:AV) = .list xs .none:=rfl
@[go_sem] theorem Z4 (x:AV) (k:Nat):AV.pubCell (.elem x k:AV) = .elem x k:=rfl
@[go_sem] theorem Zbi (l k:Nat):AV.pubCell (.box l k:AV) = .box l k:=rfl
@[go_sem] theorem ZaZ (f:FuncId) (cs:List AV):AV.pubCell (.clo f cs:AV) = .clo f cs:=rfl
@[go_sem] theorem Za3 (cs:List AV):AV.pubCell (.agg cs:AV) = .agg cs:=rfl
@[go_sem] theorem Zbh (vs:List AV):AV.pubCell (.tup vs:AV) = .tup vs:=rfl
@[go_sem] theorem Za4 (k:Nat):AV.pubCell (.yld k:AV) = .yld k:=rfl
@[go_sem] theorem Za0 (id ver o n:Nat):AV.pubCell (.vec id ver o n:AV) = .vec id ver o n:=rfl
@[go_sem] theorem Zbg (id ver o:Nat):AV.pubCell (.vel id ver o:AV) = .vel id ver o:=rfl
@[go_sem] theorem ZeS (v:Value):AV.one (.val v:AV)=true:=rfl
@[go_sem] theorem ZdD (xs:List AV) (o:Own):AV.one (.list xs o:AV)=true:=rfl
@[go_sem] theorem Zdv (x:AV) (k:Nat):AV.one (.elem x k:AV)=true:=rfl
@[go_sem] theorem ZeW (l k:Nat):AV.one (.box l k:AV)=true:=rfl
@[go_sem] theorem ZeV (f:FuncId) (cs:List AV):AV.one (.clo f cs:AV)=true:=rfl
@[go_sem] theorem Zer (cs:List AV):AV.one (.agg cs:AV)=false:=rfl
@[go_sem] theorem Ze8 (vs:List AV):AV.one (.tup vs:AV)=false:=rfl
@[go_sem] theorem Zeu (k:Nat):AV.one (.yld k:AV)=true:=rfl
@[go_sem] theorem ZeN (id ver o n:Nat):AV.one (.vec id ver o n:AV)=true:=rfl
@[go_sem] theorem Ze2 (id ver o:Nat):AV.one (.vel id ver o:AV)=true:=rfl
@[go_sem] theorem ZeU (l o n:Nat):RF (.box l o) n = .box l (o+n):=rfl
@[go_sem] theorem ZeO (id ver o n:Nat):RF (.vel id ver o) n = .vel id ver (o+n):=rfl
@[go_sem] theorem ZdV (x:AV) (o n:Nat):RF (.elem x o) n = .elem x (o+n):=rfl
@[go_sem] theorem Zjz (st:St) (l o:Nat) (xs:List AV):TX st (.box l o) xs={ st with boxes:=st.boxes.set l (DG (st.boxes.getD l []) o xs) }:=rfl
@[go_sem] theorem ZgP (a b:AV):AV.sel true a b=a:=by unfold AV.sel;split<;>rfl
@[go_sem] theorem Zf4 (a b:AV):AV.sel false a b=b:=by unfold AV.sel;split<;>rfl
@[go_sem] theorem Zha (t a b:Bool):AV.sel t (.val (.bool a)) (.val (.bool b)) = .val (.bool (cond t a b)):=by cases t<;>rfl
attribute [go_sem] WF Uc Ug Wm Rz Ph V4 V9 Wl WW
@[go_sem] theorem ZhQ:JW []=[]:=rfl
@[go_sem] theorem Zij (t:Nat) (r:List Operand):JW (.tmp t::r)=t::JW r:=rfl
@[go_sem] theorem Zfn (v:Value) (r:List Operand):JW (.const v::r)=JW r:=rfl
@[go_sem] theorem ZgB (f:FuncId) (r:List Operand):JW (.func f::r)=JW r:=rfl
@[go_sem] theorem ZeG (g:Nat) (r:List Operand):JW (.global g::r)=JW r:=rfl
@[go_sem] theorem ZkP (p:Prop):(False→p)=True:=eq_true False.elim
@[go_sem] theorem Zlb (p:Prop):(True→p)=p:=propext ⟨fun h=>h trivial,fun h _=>h⟩
@[go_sem] theorem Zmk (p:Sort _):(p→True)=True:=eq_true fun _=>trivial
@[go_sem] theorem ite_f (b c:Bool):(if b=true then c else false)=(b&&c):=by cases b<;>rfl
@[go_sem] theorem ite_t (b c:Bool):(if b=true then true else c)=(b||c):=by cases b<;>rfl
@[go_sem] theorem bif_f (b c:Bool):cond b c false=(b&&c):=by cases b<;>rfl
@[go_sem] theorem bif_t (b c:Bool):cond b true c=(b||c):=by cases b<;>rfl
@[go_sem] theorem Znd (b c:Bool):cond true b c=b:=rfl
@[go_sem] theorem Zm1 (b c:Bool):cond false b c=c:=rfl
@[go_sem] theorem Zjt (b:Bool):(b == true)=b:=by cases b<;>rfl
@[go_sem] theorem ZhT (b:Bool):(b == false) = !b:=by cases b<;>rfl
attribute [go_sem] List.filterMap_nil List.append_nil List.nil_append List.cons_append Option.toList List.map_cons List.map_nil and_imp not_false_eq_true true_and and_true forall_const imp_self reduceIte List.getElem?_cons_zero List.getElem?_cons_succ Ab Bool.true_and Bool.and_true Bool.false_and Bool.and_false Bool.or_true Bool.true_or Bool.or_false Bool.false_or List.toList_toArray List.mem_cons List.not_mem_nil or_false false_or forall_eq forall_eq_or_imp decide_eq_true_eq decide_eq_false_iff_not Bool.not_true Bool.not_false Bool.not_not
@[go_sem] theorem ZmF (b:Bool):((!b)=true)=(b=false):=by cases b<;>simp
@[go_sem] theorem Zmt (b:Bool):((!b)=false)=(b=true):=by cases b<;>simp
@[go_sem] theorem Zm4 (b c:Bool):((b&&c)=true)=(b=true∧c=true):=Bool.and_eq_true b c
@[go_sem] theorem ZiU (n:Nat):(no_index (@OfNat.ofNat Int n instOfNat)).toNat = @OfNat.ofNat Nat n (instOfNatNat n):=rfl
@[go_sem] theorem Zke (i:Decidable True) : @decide True i=true:=by cases i with | isTrue h=>rfl | isFalse h=>exact absurd trivial h
@[go_sem] theorem ZjC (i:Decidable False) : @decide False i=false:=by cases i with | isTrue h=>exact h.elim | isFalse h=>rfl
@[go_sem] theorem Zmv (b:Bool):(b == b)=true:=by cases b<;>rfl
@[go_sem] theorem ZiV (s:St):(s=s)=True:=eq_true rfl
@[go_sem] theorem tt_tt:(true=true)=True:=eq_true rfl
@[go_sem] theorem ff_tt:(false=true)=False:=eq_false (by decide)
@[go_sem] theorem tt_ff:(true=false)=False:=eq_false (by decide)
@[go_sem] theorem ff_ff:(false=false)=True:=eq_true rfl
@[go_sem] theorem Ziz (B l:List (List AV)):(B++l).length=B.length+l.length:=List.length_append
@[go_sem] theorem ZkO (B l:List RowA):(B++l).length=B.length+l.length:=List.length_append
@[go_sem] theorem Zcp (B l:List (List AV)) (R:List RowA) (L:List LoopA) (k o:Nat):DK ⟨B++l,R,L⟩ (.box (B.length+k) o)=decide (k<l.length):=by simp [DK]
@[go_sem] theorem ZM (B l:List (List AV)) (R:List RowA) (L:List LoopA) (o:Nat):DK ⟨B++l,R,L⟩ (.box B.length o)=decide (0<l.length):=by simp [DK]
@[go_sem] theorem Zh1 (s:St) (x:AV) (o:Nat):DK s (.elem x o)=A5 x:=by cases x<;>rfl
@[go_sem] theorem Zh (B l:List (List AV)) (k:Nat):(B++l).getD (B.length+k) []=l.getD k []:=by
 rw [List.getD_eq_getElem?_getD,List.getElem?_append_right (by omega),Nat.add_sub_cancel_left,List.getD_eq_getElem?_getD]
@[go_sem] theorem Wu (B l:List (List AV)):(B++l).getD B.length []=l.getD 0 []:=by
 rw [List.getD_eq_getElem?_getD,List.getElem?_append_right (by omega),Nat.sub_self,List.getD_eq_getElem?_getD]
@[go_sem] theorem ZgE (B l:List (List AV)) (R:List RowA) (L:List LoopA) (k o:Nat):Bq ⟨B++l,R,L⟩ (.box (B.length+k) o)=l.getD k []:=Zh B l k
@[go_sem] theorem Zfp (B l:List (List AV)) (R:List RowA) (L:List LoopA) (o:Nat):Bq ⟨B++l,R,L⟩ (.box B.length o)=l.getD 0 []:=Wu B l
@[go_sem] theorem Zgo (s:St) (x:AV) (o:Nat):Bq s (.elem x o)=x.cells:=rfl
@[go_sem] theorem Zfh (B l:List (List AV)) (k:Nat) (x:List AV):(B++l).set (B.length+k) x=B++l.set k x:=by rw [List.set_append_right _ _ (by omega),Nat.add_sub_cancel_left]
@[go_sem] theorem Zee (B l:List (List AV)) (x:List AV):(B++l).set B.length x=B++l.set 0 x:=by rw [List.set_append_right _ _ (by omega),Nat.sub_self]
@[go_sem] theorem ZfP (B l:List RowA) (k:Nat):(B++l)[B.length+k]? = l[k]? := by rw [List.getElem?_append_right (by omega),Nat.add_sub_cancel_left]
@[go_sem] theorem Zdg (B l:List RowA):(B++l)[B.length]? = l[0]? := by rw [List.getElem?_append_right (by omega),Nat.sub_self]
@[go_sem] theorem ZjT (B l:List RowA) (k:Nat) (x:RowA):(B++l).set (B.length+k) x=B++l.set k x:=by rw [List.set_append_right _ _ (by omega),Nat.add_sub_cancel_left]
@[go_sem] theorem Zjk (B l:List RowA) (x:RowA):(B++l).set B.length x=B++l.set 0 x:=by rw [List.set_append_right _ _ (by omega),Nat.sub_self]
attribute [go_sem] List.take_succ_cons List.take_zero List.take_nil List.drop_succ_cons List.drop_zero List.drop_nil Int.toNat_natCast List.append_assoc List.length_cons List.length_nil Nat.zero_add Nat.add_zero List.set_cons_zero List.set_cons_succ List.getD_cons_zero List.getD_cons_succ
@[go_sem] theorem Zhk (x v:AV):DG [x] 0 [v]=[v]:=rfl
@[go_sem] theorem Zfb (l:List AV) (n:Nat) (h:l.length=n):(l.drop 0).take n=l:=by simp [←h]
theorem A1 {P:Program} {f:FuncId} {fn:Func} (hf:P.funcs[f]? = some fn) (hb:fn.body.isSome=true) (hn:fn.name ≠ "runtime.NumGoroutine"):J0 P f:=by
 obtain ⟨c,a⟩:=Option.isSome_iff_exists.1 hb
 exact Ev.Zct hf a hn
theorem Nn {P:Program} {w0:World} {f:FuncId} {args:List AV} {st:St} {r:Value} (hen:J0 P f) (hr:IB r=true)
  (h:∀ (M:Mem) (w:World) (vals:Array Value),Below w0.heap.size w0 w→RowR w0 M w vals args→Calls P f vals w fun en w'=>en = .returned r∧Below w.heap.size w w'):ACalls P w0 f args st fun v s=>v = .val r∧s=st :=
 ⟨hen,fun M w vals b a=>(h M w vals b.below a).mono fun en w' ⟨e,g⟩=>by
  obtain ⟨c,d⟩:=b.later g w.heap.size 0 (Nat.le_refl _) (.inr rfl)
  exact ⟨r,_,_,st,e,⟨rfl,rfl⟩,d,c,.flat hr⟩⟩
theorem UP {w0:World} {M:Mem} {w:World} {vals:Array Value} {us:List Value} (h:RowR w0 M w vals (us.map .val)):vals=us.toArray:=by
 apply Array.ext
 ·simpa using h.1
 ·intro i b c
  have a:i<us.length:=by simpa using c
  have:=h.2 i b (by simpa using a)
  simp only [List.getElem_map] at this
  simp only [List.getElem_toArray]
  exact this.val_inv.1
@[go_sem] theorem VN (P:Program) (st:St) (t:TypeId) (xs:List AV) (x:AV):BA P st t (.list xs .full) x=match Kq P t with
  | some (el,sz,_,by8)=>if (AY x).length=0 then (CE x=true∧0<sz,.list xs .full,st)
   else (CE x=true∧CP P el sz by8 xs.length (AY x)∧(∀ y∈xs,y.cells.length=sz),.list (xs++(AY x).map AV.pub) (.row st.rows.length),{ st with rows:=st.rows++[.grow (xs.length+(AY x).length) sz] })
  | none=>(False,.junk,st):=rfl
@[go_sem] theorem Xp (P:Program) (st:St) (t:TypeId) (xs:List AV) (id:Nat) (x:AV):BA P st t (.list xs (.row id)) x=match Kq P t with
  | some (el,sz,_,by8)=>(CE x=true∧CP P el sz by8 xs.length (AY x)∧(∀ y∈xs,y.cells.length=sz)∧st.rows[id]? = some (.grow xs.length sz),.list (xs++(AY x).map AV.pub) (.row id),{ st with rows:=st.rows.set id (.grow (xs.length+(AY x).length) sz) })
  | none=>(False,.junk,st):=rfl
@[go_sem] theorem ZeK (P:Program) (st:St) (t:TypeId) (ys:List AV) (x:AV):BA P st t (.list ys .seed) x=match Kq P t with
  | some (el,sz,_,by8)=>(CE x=true∧CP P el sz by8 0 (AY x)∧ys.length=0∧0<(AY x).length,.vec st.rows.length 0 0 (AY x).length,{ st with rows:=st.rows++[.vec 0 sz ((AY x).flatMap fun y=>y.pub.cells)] })
  | none=>(False,.junk,st):=rfl
@[go_sem] theorem ZfE (P:Program) (st:St) (t:TypeId) (id ver o n:Nat) (x:AV):BA P st t (.vec id ver o n) x=match Kq P t with
  | some (el,sz,_,by8)=>match EW st.rows id ver with
   | some (sz',cs)=>(CE x=true∧CP P el sz by8 n (AY x)∧sz'=sz∧o=0∧n*sz≤cs.length,.vec id (ver+1) 0 (n+(AY x).length),{ st with rows:=st.rows.set id (.vec (ver+1) sz (cs.take (n*sz)++(AY x).flatMap fun y=>y.pub.cells)) })
   | none=>(False,.junk,st)
  | none=>(False,.junk,st):=rfl
attribute [go_sem] CP
@[go_sem] theorem ZkC (B l:List RowA) (k ver:Nat):EW (B++l) (B.length+k) ver=EW l k ver:=by simp [EW,ZfP]
@[go_sem] theorem Zi0 (B l:List RowA) (ver:Nat):EW (B++l) B.length ver=EW l 0 ver:=by simp [EW,Zdg]
@[go_sem] theorem ZiN (ver sz:Nat) (cs:List AV) (l:List RowA):EW (.vec ver sz cs::l) 0 ver=some (sz,cs):=by simp [EW]
@[go_sem] theorem Zi6 (r:RowA) (l:List RowA) (k ver:Nat):EW (r::l) (k+1) ver=EW l k ver:=by simp [EW]
@[go_sem] theorem Zi1 (s:St) (id ver o:Nat):DK s (.vel id ver o)=(EW s.rows id ver).isSome:=rfl
@[go_sem] theorem ZgL (s:St) (id ver o:Nat):Bq s (.vel id ver o)=match EW s.rows id ver with | some (_,cs)=>cs | none=>[]:=rfl
@[go_sem] theorem ZeA (st:St) (id ver o:Nat) (xs:List AV):TX st (.vel id ver o) xs=match EW st.rows id ver with
  | some (sz,cs)=>{ st with rows:=st.rows.set id (.vec ver sz (DG cs o xs)) }
  | none=>st:=rfl
def Grow (Rw:List RowA) (sz:Nat) (xs:List AV) (o:Own) (r:List RowA):Prop:=(xs=[]∧o = .full∧r=[])∨(o = .row Rw.length∧r=[.grow xs.length sz])
theorem Grow.nil (Rw:List RowA) (sz:Nat):Grow Rw sz [] .full [] := .inl ⟨rfl,rfl,rfl⟩
theorem Grow.more (Rw:List RowA) (sz:Nat) (xs:List AV) (n:Nat) (h:xs.length=n):Grow Rw sz xs (.row Rw.length) [.grow n sz] := .inr ⟨rfl,by rw [h]⟩
theorem Grow.len {Rw r:List RowA} {sz:Nat} {xs:List AV} {o:Own} (h:Grow Rw sz xs o r):r.length≤1:=by
 rcases h with ⟨_,_,rfl⟩ | ⟨_,rfl⟩<;>simp
theorem VI {P:Program} {t el:TypeId} {sz by8:Nat} {ag:Bool} {Rw r:List RowA} {xs:List AV} {o:Own} (he:Kq P t=some (el,sz,ag,by8)) (hz:(C5 P el).isSome=true) (hs:0<sz) (h:Grow Rw sz xs o r) (B:List (List AV)) (L:List LoopA) (y:AV) (o2:Own) :
  BA P ⟨B,Rw++r,L⟩ t (.list xs o) (.list [y] o2)=(((xs.length+1)*by8≤140737488355328∧xs.length+1≤4611686018427387904∧(∀ y∈xs,y.cells.length=sz)∧y.cells.length=sz∧A5 y=true),.list (xs++[y.pub]) (.row Rw.length),⟨B,Rw++[.grow (xs.length+1) sz],L⟩):=by
 rcases h with ⟨rfl,rfl,rfl⟩ | ⟨rfl,rfl⟩
 ·rw [VN,he];simp [AY,CE,CP,hz,hs]
 ·rw [Xp,he];simp [AY,CE,CP,hz,hs]
  exact ⟨fun ⟨⟨a,b,c,d⟩,e⟩=>⟨a,b,e,c,d⟩,fun ⟨a,b,e,c,d⟩=>⟨⟨a,b,c,d⟩,e⟩⟩
def Zbk (c:Option IntKind × Bool) (x y:AV):Prop :=
 match x,y with
 | .val (.int k _),.val (.int k' _)=>c.1.isSome=true∧k=k'
 | .val (.string _),.val (.string _)=>c=(none,true)
 | .val (.bool _),.val (.bool _)=>c=(none,false)
 | _,_=>False
def ZdR (P:Program) (t:TypeId):Option (Option IntKind × Bool) :=
 match NH P t with
 | some k=>some (some k,false)
 | none=>if EL P t=true then some (none,true) else if M5 P t=true then some (none,false) else none
def TJ (P:Program):List Field→Nat→Option (List (Option IntKind × Bool))
 | [],_=>some []
 | f::fs,i=>if f.name ≠ "_" ∧ f.offset=i∧IW P f.type=some (1,false) then
   match ZdR P f.type,TJ P fs (i+1) with
   | some k,some ks=>some (k::ks)
   | _,_=>none
  else none
def XI (P:Program) (t:TypeId):Option (List (Option IntKind × Bool)) :=
 match eqT P t with
 | some fs=>TJ P fs 0
 | none=>none
def obK:List (Option IntKind × Bool)→List AV→List AV→Prop
 | [],[],[]=>True
 | k::ks,x::xs,y::ys=>Zbk k x y∧obK ks xs ys
 | _,_,_=>False
theorem Zcb {P:Program} {t:TypeId} {k:Option IntKind × Bool} (h:ZdR P t=some k) (x y:AV):Ld P t x y=Zbk k x y:=by
 have c:∀ j,NH P t=some j→EL P t=false∧M5 P t=false:=fun j hj=>by
  unfold NH at hj
  unfold EL M5
  split at hj
  ·rename_i q;rw [q];exact ⟨rfl,rfl⟩
  ·cases hj
 have e:EL P t=true→M5 P t=false:=fun hj=>by
  unfold EL at hj
  unfold M5
  split at hj
  ·rename_i q;rw [q]
  ·cases hj
 unfold ZdR at h
 unfold Ld Zbk
 cases hi:NH P t with
 | some j =>
  obtain ⟨d,b⟩:=c j hi
  rw [hi] at h
  cases h
  rw [d,b]
  split<;>simp
 | none =>
  rw [hi] at h
  simp only at h
  by_cases hs:EL P t=true
  ·rw [Ae hs] at h
   cases h
   rw [hs,e hs]
   split<;>simp
  ·rw [Af hs] at h
   have a:EL P t=false:=by simpa using hs
   by_cases hb:M5 P t=true
   ·rw [Ae hb] at h
    cases h
    rw [a,hb]
    split<;>simp
   ·rw [Af hb] at h;cases h
theorem XH {P:Program}:∀ (fs:List Field) (i:Nat) (ks:List (Option IntKind × Bool)),TJ P fs i=some ks→∀ xs ys,W6 P fs i xs ys=obK ks xs ys
 | [],i,ks,h,xs,ys=>by
  cases h
  cases xs<;>cases ys<;>simp [W6,obK]
 | f::fs,i,ks,h,xs,ys=>by
  unfold TJ at h
  split at h
  ·rename_i q
   split at h
   ·rename_i k ks' h1 h2
    cases h
    cases xs with
    | nil=>cases ys<;>simp [W6,obK]
    | cons x xs=>cases ys with
     | nil=>simp [W6,obK]
     | cons y ys =>
      simp only [W6,obK,XH fs (i+1) ks' h2 xs ys,Zcb h1,q,true_and]
      simp [q.1]
   ·cases h
  ·cases h
theorem ZbJ {P:Program} {t:TypeId} {ks:List (Option IntKind × Bool)} (h:XI P t=some ks) (xs ys:List AV):OC P .eql t xs ys=(obK ks xs ys,OD xs ys):=by
 unfold XI at h
 split at h
 ·rename_i fs q
  simp only [OC,q,XH fs 0 ks h]
 ·cases h
theorem Zcu {P:Program} {t:TypeId} {ks:List (Option IntKind × Bool)} (h:XI P t=some ks) (xs ys:List AV):OC P .neq t xs ys=(obK ks xs ys,!OD xs ys):=by
 unfold XI at h
 split at h
 ·rename_i fs q
  simp only [OC,q,XH fs 0 ks h]
 ·cases h
attribute [go_sem] Zbk obK
section
variable {P:Program} {w0:World} {n:Nat} {M:Mem} {e:Env} {st:St} {a:Act} {w:World}
theorem R.seed {v:Value} (h:R w0 M w v (.list [] .full)):R w0 M w v (.list [] .seed):=by
 cases h with
 | nil ho=>exact .nil (fun id=>by simp)
 | emp ho=>exact .emp (fun id=>by simp)
 | list sz us hc hm hcell hu ho=>exact .list (xs:=[]) sz us hc hm hcell hu ho
theorem Ot {M0:Mem} {W0:World} {ro:Option Nat} {Q:AQ} {c:Code} (e':Env) (st':St)
  (hc:∀ M a w,Rel w0 n M e st a w→∃ M',Ext w0 M w M' w∧Rel w0 n M' e' st' a w) (h:GL P w0 n M0 W0 ro c Q e' st'):GL P w0 n M0 W0 ro c Q e st:=by
 intro m M a w b
 obtain ⟨M',d,f⟩:=hc M a w b.rel
 exact h m M' a w ⟨f,b.ext.trans d,b.marks.later d b.rel.st⟩
theorem RelSt.setBox (h:RelSt w0 M st w) {l i:Nat} {cs:List AV} (hl:st.boxes[l]? = some cs) {x y:AV} (hi:cs[i]? = some x) (hone:y.one=true) (hR:∀ v,R w0 M w v x→R w0 M w v y) :
  RelSt w0 M { st with boxes:=st.boxes.set l (cs.set i y) } w:=by
 have d:l<st.boxes.length:=(Ag.1 hl).1
 have k:i<cs.length:=(Ag.1 hi).1
 refine ⟨h.below,by simp [h.N],h.NR,h.top,h.inj,fun f a hl'=>?_,h.row,h.rowinj,h.loop⟩
 by_cases q:f=l
 ·subst q
  rw [List.getElem?_set_self d] at hl'
  cases hl'
  obtain ⟨a1,a2,c,o,a3,a4,a5,a6⟩:=h.box f cs hl
  refine ⟨a1,a2,c,o,a3,by simp [a4],fun z b=>?_,fun j g p=>?_⟩
  ·rcases List.mem_or_eq_of_mem_set b with b | rfl
   ·exact a5 z b
   ·exact hone
  ·by_cases e:j=i
   ·subst e
    rw [List.getElem_set_self]
    obtain ⟨n,m⟩:=Ag.1 hi
    exact hR _ (m▸a6 j g n)
   ·rw [List.getElem_set_ne (Ne.symm e)]
    exact a6 j g (by simpa using p)
 ·rw [List.getElem?_set_ne (Ne.symm q)] at hl'
  exact h.box f a hl'
theorem NI {M0:Mem} {W0:World} {ro:Option Nat} {Q:AQ} {c:Code} (l i:Nat) {cs:List AV} (hl:st.boxes[l]? = some cs) (hi:cs[i]? = some (.list [] .full)) (h:GL P w0 n M0 W0 ro c Q e { st with boxes:=st.boxes.set l (cs.set i (.list [] .seed)) }):GL P w0 n M0 W0 ro c Q e st :=
 Ot _ _ (fun M a w b=>⟨M,.refl _ _ _,b.st.setBox hl hi rfl (fun v hv=>hv.seed),b.size,b.env⟩) h
def PH (sz:Nat) (ag:Bool) (cs:List AV) (o m:Nat):List AV:=(List.range m).map fun i=>PP ag cs ((o+i)*sz) sz
theorem Zn (sz:Nat) (ag:Bool) (cs:List AV) (o m:Nat):(PH sz ag cs o m).length=m:=by simp [PH]
def Mem.freeze (M:Mem) (id k:Nat):Mem:={ M with fr:=fun i=>if i=id then M.fr i+1 else M.fr i,top:=fun b=>if b=M.blk id then k else M.top b }
theorem RelSt.freeze (h:RelSt w0 M st w) {id ver sz:Nat} {cs:List AV} (hid:st.rows[id]? = some (.vec ver sz cs)) :
  Ext w0 M w (M.freeze id cs.length) w∧RelSt w0 (M.freeze id cs.length) { st with rows:=st.rows.set id (.dead (ver+1)) } w:=by
 have a:id<st.rows.length:=(Ag.1 hid).1
 have d:id<M.NR:=by rw [h.NR];exact a
 obtain ⟨D,U,G,f4,u,Q,K,c,r,s,O,E,y,F⟩:=h.row id _ hid
 have f:Ext w0 M w (M.freeze id cs.length) w :=
  ⟨Nat.le_refl _,fun _ _=>rfl,Nat.le_refl _,fun i hi=>by
   simp only [Mem.freeze]
   by_cases q:i=id
   ·rw [Ae q];exact ⟨Nat.le_succ _,fun e=>absurd e (by omega)⟩
   ·rw [Af q];exact ⟨Nat.le_refl _,fun _=>⟨trivial,trivial,trivial⟩⟩,fun b H v hi J=>⟨J,hi.imp (fun q=>q) fun q=>by
    simp only [Mem.freeze]
    split
    ·rename_i e;rw [e,f4] at q;omega
    ·exact q⟩,Nat.le_refl _,Nat.le_refl _,fun _ _=>rfl,fun _ m n=>absurd n (Nat.not_lt.2 m),fun _ _ h _ _=>h⟩
 refine ⟨f,h.below,h.N,by simp [Mem.freeze,h.NR],fun b z=>?_,h.inj,fun l o t=>?_,fun i x hi=>?_,h.rowinj,h.loop.mono f rfl (KeepsObj.refl _)⟩
 ·have C:=(Array.getElem?_eq_some_iff.1 s).1
  simp only [Mem.freeze]
  rw [Af (by omega)]
  exact h.top b z
 ·obtain ⟨a1,a2,c,r,a3,a4,a5,a6⟩:=h.box l o t
  have g:l<M.N:=by rw [h.N];exact (Ag.1 t).1
  refine ⟨a1,?_,c,r,a3,a4,a5,fun i m n=>(a6 i m n).mono f⟩
  show (M.freeze id cs.length).top (M.bx l)=0
  simp only [Mem.freeze]
  rw [Af (u l g)]
  exact a2
 ·by_cases q:i=id
  ·subst q
   rw [List.getElem?_set_self a] at hi
   cases hi
   exact ⟨by simp [Mem.freeze,D],G,u,(Array.getElem?_eq_some_iff.1 s).1⟩
  ·rw [List.getElem?_set_ne (Ne.symm q)] at hi
   have k:i<M.NR:=by rw [h.NR];exact (Ag.1 hi).1
   have p:=h.row i x hi
   have j:M.blk i≠M.blk id:=fun e=>q (h.rowinj i id k d e)
   exact p.keep f (by simp [Mem.freeze,q]) rfl rfl rfl (by simp [Mem.freeze,j]) p.ne rfl
theorem R.freeze (h:RelSt w0 M st w) {id ver sz:Nat} {cs:List AV} (hid:st.rows[id]? = some (.vec ver sz cs)) {ag:Bool} (hag:ag=true∨sz=1) {o m:Nat} (hb:(o+m)*sz≤cs.length) {v:Value} (hv:R w0 M w v (.vec id ver o m)) :
  R w0 (M.freeze id cs.length) w v (.list (PH sz ag cs o m) .none):=by
 obtain ⟨J,_⟩:=h.freeze hid
 obtain ⟨C,H,Q,O,Y,V,N,c,F,G,U,D,n,r⟩:=h.row id _ hid
 cases hv with
 | @vec _ _ _ _ p cap d hver hh =>
 obtain ⟨rfl,z,K⟩:=hh C.symm
 have s:(PH sz ag cs o m).length=m:=Zn _ _ _ _ _
 have g:∀ i,i<m→(o+i)*sz+sz≤cs.length:=fun i d=>by
  have:(o+i+1)*sz≤(o+m)*sz:=Nat.mul_le_mul_right _ (by omega)
  rw [Nat.succ_mul] at this
  omega
 let us:Nat→Value:=fun i=>if ag then .agg ((List.range sz).map fun j=>c.getD ((o+i)*sz+j) undef).toArray else c.getD ((o+i)*sz) undef
 have u:∀ i,i<m→R w0 M w (us i) (PP ag cs ((o+i)*sz) sz):=fun i d=>by
  refine Q9 (f:=fun j=>c.getD ((o+i)*sz+j) undef) n (g i d) hag (fun j l=>?_)
  have a:(o+i)*sz+j<c.size:=by omega
  rw [Array.getD_eq_getD_getElem?,Array.getElem?_eq_getElem a]
  exact r _ a l
 have k:∀ i,i<m→(us i).cells.size=sz∧∀ j,j<sz→(us i).cells[j]? = c[(o+i)*sz+j]? := fun i d=>by
  by_cases q:ag=true
  ·have e:us i = .agg ((List.range sz).map fun j=>c.getD ((o+i)*sz+j) undef).toArray:=by simp [us,q]
   rw [e]
   refine ⟨by simp [Value.cells],fun j l=>?_⟩
   have a:(o+i)*sz+j<c.size:=by have:=g i d;omega
   simp [Value.cells,l,Array.getElem?_eq_getElem a]
  ·have x:sz=1:=hag.resolve_left q
   have e:us i=c.getD ((o+i)*sz) undef:=by simp [us,q]
   have a:(o+i)*sz<c.size:=by have:=g i d;omega
   have t:(o+i)*sz<cs.length:=by have:=g i d;omega
   have y:=(r _ a t).cells_one (n _ (List.getElem_mem _))
   rw [e,Array.getD_eq_getD_getElem?,Array.getElem?_eq_getElem a,Option.getD_some,y.1]
   refine ⟨by simp [x],fun j l=>?_⟩
   obtain rfl:j=0:=by omega
   simp [Array.getElem?_eq_getElem a]
 have:=R.list (w0:=w0) (M:=M.freeze id cs.length) (w:=w) (b:=M.blk id) (off:=o*sz) (cap:=cap) (xs:=PH sz ag cs o m) (o := .none) sz us (by rw [s];exact K) (by omega)
  (fun i d=>by
   rw [s] at d
   refine ⟨(k i d).1,fun j l=>⟨.inr ?_,?_⟩⟩
   ·have E:=g i d
    rw [Nat.add_mul] at E
    simp only [Mem.freeze,if_true]
    omega
   ·rw [(k i d).2 j l,Nat.add_mul,cell_of_row w _ _ c F _ G]) (fun i d=>by
   rw [s] at d
   simp only [PH,List.getElem_map,List.getElem_range]
   exact (u i d).mono J) trivial
 rw [s] at this
 rw [H]
 exact this
theorem OG {M0:Mem} {W0:World} {ro:Option Nat} {Q:AQ} {c:Code} (l i:Nat) {id ver sz o m:Nat} {bs cs:List AV} (ag:Bool) (hl:st.boxes[l]? = some bs) (hi:bs[i]? = some (.vec id ver o m)) (hid:EW st.rows id ver=some (sz,cs)) (hag:ag=true∨sz=1) (hb:(o+m)*sz≤cs.length)
  (h:GL P w0 n M0 W0 ro c Q e { st with boxes:=st.boxes.set l (bs.set i (.list (PH sz ag cs o m) .none)),rows:=st.rows.set id (.dead (ver+1)) }):GL P w0 n M0 W0 ro c Q e st :=
 Ot _ _ (fun M a w f=>by
  obtain ⟨v,b⟩:=f.st.freeze (Hv hid)
  have d:=f.st.box l bs hl
  obtain ⟨a1,a2,c,V,a3,a4,a5,a6⟩:=d
  obtain ⟨H,E⟩:=Ag.1 hi
  have D:R w0 (M.freeze id cs.length) w (c[i]'(by omega)) (.list (PH sz ag cs o m) .none):=R.freeze f.st (Hv hid) hag hb (E▸a6 i (by omega) H)
  have k:l<st.boxes.length:=(Ag.1 hl).1
  refine ⟨_,v,⟨b.below,by simpa using b.N,b.NR,b.top,b.inj,fun r t hl'=>?_,b.row,b.rowinj,b.loop⟩,f.size,fun s x hs=>(f.env s x hs).mono v⟩
  by_cases q:r=l
  ·subst q
   simp only [List.getElem?_set_self k,Option.some.injEq] at hl'
   subst hl'
   obtain ⟨G,U,u,g,y,K,C,J⟩:=b.box r bs hl
   have ec:u=c:=by
    have:=y.symm.trans a3
    simp only [Option.some.injEq,Obj.cells.injEq] at this
    exact this.1
   subst ec
   refine ⟨G,U,u,g,y,by simp [K],fun z p=>?_,fun j O F=>?_⟩
   ·rcases List.mem_or_eq_of_mem_set p with p | rfl
    ·exact C z p
    ·rfl
   ·by_cases e:j=i
    ·subst e
     rw [List.getElem_set_self]
     exact D
    ·rw [List.getElem_set_ne (Ne.symm e)]
     exact J j O (by simpa using F)
  ·simp only [List.getElem?_set_ne (Ne.symm q)] at hl'
   exact b.box r t hl') h
end
def AV.pubA:AV→AV
 | .tup vs => .tup (vs.map AV.pub)
 | .agg cs => .agg (cs.map AV.pubCell)
 | .list xs _ => .list xs .none
 | x=>x
section
variable (vs cs xs:List AV) (o:Own) (v:Value) (x:AV) (i j k m:Nat)
@[go_sem] theorem Zj9:AV.pubA (.tup vs) = .tup (vs.map AV.pub):=rfl
@[go_sem] theorem Zkt:AV.pubA (.agg cs) = .agg (cs.map AV.pubCell):=rfl
@[go_sem] theorem ZiX:AV.pubA (.list xs o) = .list xs .none:=rfl
@[go_sem] theorem K0:AV.pubA (.val v) = .val v:=rfl
@[go_sem] theorem ZiL:AV.pubA (.elem x i) = .elem x i:=rfl
@[go_sem] theorem ZjH:AV.pubA (.box i j) = .box i j:=rfl
@[go_sem] theorem ZkB:AV.pubA (.clo i xs) = .clo i xs:=rfl
@[go_sem] theorem ZjV:AV.pubA (.yld i) = .yld i:=rfl
@[go_sem] theorem ZjQ:AV.pubA (.vec i j k m) = .vec i j k m:=rfl
@[go_sem] theorem Zkz:AV.pubA (.vel i j k) = .vel i j k:=rfl
@[go_sem] theorem Zl1:AV.pub (.agg cs) = .agg (cs.map AV.pubCell):=rfl
@[go_sem] theorem ZkV:AV.pub (.list xs o) = .list xs .none:=rfl
@[go_sem] theorem ZlF:AV.pub (.val v) = .val v:=rfl
@[go_sem] theorem ZkD:AV.pub (.elem x i) = .elem x i:=rfl
@[go_sem] theorem ZlA:AV.pub (.box i j) = .box i j:=rfl
@[go_sem] theorem ZlZ:AV.pub (.clo i xs) = .clo i xs:=rfl
@[go_sem] theorem ZlJ:AV.pub (.yld i) = .yld i:=rfl
@[go_sem] theorem ZlT:AV.pub (.vec i j k m) = .vec i j k m:=rfl
@[go_sem] theorem Zmh:AV.pub (.vel i j k) = .vel i j k:=rfl
@[go_sem] theorem Zgm:AV.pubCell (.list xs o) = .list xs .none:=rfl
@[go_sem] theorem ZgQ:AV.pubCell (.val v) = .val v:=rfl
@[go_sem] theorem Zf9:AV.pubCell (.elem x i) = .elem x i:=rfl
@[go_sem] theorem ZgR:AV.pubCell (.box i j) = .box i j:=rfl
@[go_sem] theorem ZgC:AV.pubCell (.clo i xs) = .clo i xs:=rfl
@[go_sem] theorem Zg8:AV.pubCell (.yld i) = .yld i:=rfl
@[go_sem] theorem Zgz:AV.pubCell (.vec i j k m) = .vec i j k m:=rfl
@[go_sem] theorem ZgO:AV.pubCell (.vel i j k) = .vel i j k:=rfl
end
theorem R.pubA {w0:World} {M:Mem} {w:World} {v:Value} {x:AV} (h:R w0 M w v x):R w0 M w v x.pubA:=by
 cases h with
 | tup hl h=>exact .tup (by simpa using hl) (fun i a b=>by simp only [List.getElem_map];exact (h i a (by simpa using b)).pub)
 | flat hf=>exact (R.flat hf).pub
 | agg hl h1 h=>exact (R.agg hl h1 h).pub
 | nil ho=>exact (R.nil ho).pub
 | emp ho=>exact (R.emp ho).pub
 | list sz us hc hm hcell hu ho=>exact (R.list sz us hc hm hcell hu ho).pub
 | elem u k hcell hu=>exact (R.elem u k hcell hu).pub
 | box hl=>exact (R.box hl).pub
 | clo hl h=>exact (R.clo hl h).pub
 | yld hk=>exact (R.yld hk).pub
 | vec hi hv h=>exact (R.vec hi hv h).pub
 | vel hi hv h=>exact (R.vel hi hv h).pub
section
variable {P:Program} {w0:World} {st:St} {f:FuncId}
theorem ACalls.pub {args args':List AV} {Post:AV→St→Prop} (h:ACalls P w0 f args' st Post) (he:args.map AV.pubA=args'):ACalls P w0 f args st Post:=by
 subst he
 refine ⟨h.1,fun M w c e d=>h.2 M w c e ?_⟩
 obtain ⟨g,j⟩:=d
 refine ⟨by simpa using g,fun i a b=>?_⟩
 simp only [List.getElem_map]
 exact (j i a (by simpa using b)).pubA
theorem Ai {c d:Bool} {cs args args':List AV} {k:AV→St→Prop} (v:AV)
  (h:ACalls P w0 f args' st fun r s=>r=v∧s=st) (he:(args++cs).map AV.pubA=args') (hk:k v st):MK P w0 c d (.clo f cs) args st k := .inl ⟨v,fun _=>h.pub he,hk⟩
theorem H5 {c d:Bool} {cs args args':List AV} {k:AV→St→Prop} (v:AV)
  (h:c=true→ACalls P w0 f args' st fun r s=>r=v∧s=st) (he:(args++cs).map AV.pubA=args') (hk:k v st):MK P w0 c d (.clo f cs) args st k := .inl ⟨v,fun q=>(h q).pub he,hk⟩
theorem BB {cs args args':List AV} {k:AV→St→Prop} (Post:AV→St→Prop)
  (h:ACalls P w0 f args' st Post) (he:(args++cs).map AV.pubA=args') (hk:∀ v s,Post v s→k v s):MK P w0 true false (.clo f cs) args st k := .inr ⟨rfl,Post,fun _=>h.pub he,fun v s a _=>hk v s (a rfl)⟩
def finP (st:St) (Post:AV→St→Prop) (r:AV) (s:St):Prop :=
 st.boxes.length≤s.boxes.length∧st.rows.length≤s.rows.length∧st.loops.length≤s.loops.length∧Calm st.boxes.length st.rows.length st.loops.length (s.cut st.boxes.length st.rows.length st.loops.length) ∧
  Under st.boxes.length st.rows.length st.loops.length r.pubA∧Post r.pubA (s.cut st.boxes.length st.rows.length st.loops.length)
theorem ACalls.finP {args:List AV} {Post:AV→St→Prop} (h:ACalls P w0 f args st (finP st Post)):ACalls P w0 f args st Post:=by
 refine ⟨h.1,fun M w b a c=>(h.2 M w b a c).mono ?_⟩
 rintro en n ⟨v,M',r,j,i,⟨g,k,d,m,e,l⟩,h3,h4,h5⟩
 exact ⟨v,M'.cut st.boxes.length st.rows.length st.loops.length,r.pubA,_,i,l,h3.cut (by have:=a.N;omega) (by have:=a.NR;omega) (by have:=a.loop.NL;omega) (by rw [h4.loop.NL];exact d),h4.cut g k d m,h5.pubA.cut e⟩
theorem Na {B:List (List AV)} {Rw:List RowA} {L:List LoopA} {s:St} {Post:AV→St→Prop} {v:AV} (hc:Ev.Calm B.length Rw.length L.length ⟨B,Rw,L⟩) (h1:B <+: s.boxes) (h2:Rw <+: s.rows) (h3:L <+: s.loops) (hu:Under B.length Rw.length L.length v.pubA) (hp:Post v.pubA ⟨B,Rw,L⟩) :
  Go.Ev.finP ⟨B,Rw,L⟩ Post v s:=by
 obtain ⟨b,e1⟩:=h1
 obtain ⟨r,e2⟩:=h2
 obtain ⟨l,e3⟩:=h3
 obtain ⟨c,a,d⟩:=s
 simp only at e1 e2 e3
 subst e1 e2 e3
 have e:St.cut ⟨B++b,Rw++r,L++l⟩ B.length Rw.length L.length=⟨B,Rw,L⟩:=by simp [St.cut]
 exact ⟨by simp,by simp,by simp,by simp only [e];exact hc,hu,by simp only [e];exact hp⟩
end
@[go_sem] theorem Zhb (xs c:List AV) (h:xs.length=c.length):DG xs 0 c=c:=by simp [DG,h]
end Go.Ev
namespace Go.Proofs
open Go.Shelf
def Tryz.lays106_ren:Go.Shelf.Ren:=⟨fun | 106=>141 | 213=>197 | 265=>228 | n=>n,fun | 9=>9 | 3=>3 | n=>n,fun | n=>n⟩
theorem Tryz.lays106:Go.Proofs.Lays.n106 Tryz.prog Tryz.lays106_ren:={
 mixed:=by kernel_rfl
 f106:=Tryz.func141.trans (congrArg some (by kernel_rfl))
 f213:=Tryz.func197.trans (congrArg some (by kernel_rfl))
 f265:=Tryz.func228.trans (congrArg some (by kernel_rfl))
 t3:=Tryz.underlying3
 a3:=Tryz.isAgg3
 z3:=Tryz.sizeOf3
 v3:=Tryz.zeroValue3
 t9:=Tryz.underlying9
 a9:=Tryz.isAgg9
 z9:=Tryz.sizeOf9
 v9:=Tryz.zeroValue9 }
open Go.RowKit in
theorem Tryz.strings_Compare (a b:ByteArray) (w:World) :
  Calls Tryz.prog 141 #[.string a,.string b] w fun e w'=>e = .returned (.int .i64 (Lib.compareBytes a.data.toList b.data.toList))∧w'=w:=Any.strings_Compare Tryz.lays106 a b w
def Tryz.laysM171_ren:Go.Shelf.Ren:=⟨fun | 171=>157 | 243=>201 | 246=>230 | 283=>243 | 284=>244 | 285=>245 | 286=>246 | 129=>258 | 317=>259 | 318=>260 | 319=>261 | 320=>262 | 337=>268 | 338=>269 | n=>n,fun | 3=>3 | 9=>9 | 2=>2 | 4=>4 | 171=>229 | 0=>0 | 53=>216 | 37=>138 | 5=>5 | 173=>232 | 212=>247 | 51=>220 | 20=>20 | 213=>248 | 46=>180 | 232=>256 | 233=>257 | n=>n,fun | 17=>3 | 18=>4 | 19=>5 | n=>n⟩
theorem Tryz.laysM171:Go.Proofs.LaysM.n171 Tryz.prog Tryz.laysM171_ren:={
 mixed:=by kernel_rfl
 f129:=Tryz.func258.trans (congrArg some (by kernel_rfl))
 f171:=Tryz.func157.trans (congrArg some (by kernel_rfl))
 f243:=Tryz.func201.trans (congrArg some (by kernel_rfl))
 f246:=Tryz.func230.trans (congrArg some (by kernel_rfl))
 f283:=Tryz.func243.trans (congrArg some (by kernel_rfl))
 f284:=Tryz.func244.trans (congrArg some (by kernel_rfl))
 f285:=Tryz.func245.trans (congrArg some (by kernel_rfl))
 f286:=Tryz.func246.trans (congrArg some (by kernel_rfl))
 f317:=Tryz.func259.trans (congrArg some (by kernel_rfl))
 f318:=Tryz.func260.trans (congrArg some (by kernel_rfl))
 f319:=Tryz.func261.trans (congrArg some (by kernel_rfl))
 f320:=Tryz.func262.trans (congrArg some (by kernel_rfl))
 f337:=Tryz.func268.trans (congrArg some (by kernel_rfl))
 f338:=Tryz.func269.trans (congrArg some (by kernel_rfl))
 t0:=Tryz.underlying0
 a0:=Tryz.isAgg0
 z0:=Tryz.sizeOf0
 v0:=Tryz.zeroValue0
 t2:=Tryz.underlying2
 a2:=Tryz.isAgg2
 z2:=Tryz.sizeOf2
 v2:=Tryz.zeroValue2
 t3:=Tryz.underlying3
 a3:=Tryz.isAgg3
 z3:=Tryz.sizeOf3
 v3:=Tryz.zeroValue3
 t4:=Tryz.underlying4
 a4:=Tryz.isAgg4
 z4:=Tryz.sizeOf4
 v4:=Tryz.zeroValue4
 t5:=Tryz.underlying5
 a5:=Tryz.isAgg5
 z5:=Tryz.sizeOf5
 v5:=Tryz.zeroValue5
 t9:=Tryz.underlying9
 a9:=Tryz.isAgg9
 z9:=Tryz.sizeOf9
 v9:=Tryz.zeroValue9
 t20:=Tryz.underlying20
 a20:=Tryz.isAgg20
 z20:=Tryz.sizeOf20
 v20:=Tryz.zeroValue20
 t37:=Tryz.underlying138
 a37:=Tryz.isAgg138
 z37:=Tryz.sizeOf138
 v37:=Tryz.zeroValue138
 t46:=Tryz.underlying180
 a46:=Tryz.isAgg180
 z46:=Tryz.sizeOf180
 v46:=Tryz.zeroValue180
 t51:=Tryz.underlying220
 a51:=Tryz.isAgg220
 z51:=Tryz.sizeOf220
 v51:=Tryz.zeroValue220
 t53:=Tryz.underlying216
 a53:=Tryz.isAgg216
 z53:=Tryz.sizeOf216
 v53:=Tryz.zeroValue216
 t171:=Tryz.underlying229
 a171:=Tryz.isAgg229
 z171:=Tryz.sizeOf229
 v171:=Tryz.zeroValue229
 t173:=Tryz.underlying232
 a173:=Tryz.isAgg232
 z173:=Tryz.sizeOf232
 v173:=Tryz.zeroValue232
 t212:=Tryz.underlying247
 a212:=Tryz.isAgg247
 z212:=Tryz.sizeOf247
 v212:=Tryz.zeroValue247
 t213:=Tryz.underlying248
 a213:=Tryz.isAgg248
 z213:=Tryz.sizeOf248
 t232:=Tryz.underlying256
 a232:=Tryz.isAgg256
 z232:=Tryz.sizeOf256
 v232:=Tryz.zeroValue256
 t233:=Tryz.underlying257
 a233:=Tryz.isAgg257
 z233:=Tryz.sizeOf257
 v233:=Tryz.zeroValue257
 g17:=by kernel_rfl
 g18:=by kernel_rfl
 g19:=by kernel_rfl
 i0:=by kernel_rfl
 i2:=by kernel_rfl
 i3:=by kernel_rfl
 i4:=by kernel_rfl
 i5:=by kernel_rfl
 i9:=by kernel_rfl
 i20:=by kernel_rfl
 i37:=by kernel_rfl
 i46:=by kernel_rfl
 i51:=by kernel_rfl
 i53:=by kernel_rfl
 i171:=by kernel_rfl
 i173:=by kernel_rfl
 i212:=by kernel_rfl
 i232:=by kernel_rfl
 i233:=by kernel_rfl
 m17:=by kernel_rfl
 m18:=by kernel_rfl
 m19:=by kernel_rfl }
def Tryz.laysValid_ren:Go.Shelf.Ren:=⟨fun | 196=>115 | 259=>186 | n=>n,fun | 9=>9 | 4=>4 | 3=>3 | 5=>5 | 12=>12 | 119=>176 | 0=>0 | 46=>180 | 139=>179 | 138=>178 | 53=>216 | n=>n,fun | 3=>0 | 4=>1 | n=>n⟩
theorem Tryz.laysValid:Go.Proofs.Lays.n196 Tryz.prog Tryz.laysValid_ren:={
 mixed:=by kernel_rfl
 f196:=Tryz.func115.trans (congrArg some (by kernel_rfl))
 f259:=Tryz.func186.trans (congrArg some (by kernel_rfl))
 t0:=Tryz.underlying0
 a0:=Tryz.isAgg0
 z0:=Tryz.sizeOf0
 v0:=Tryz.zeroValue0
 t3:=Tryz.underlying3
 a3:=Tryz.isAgg3
 z3:=Tryz.sizeOf3
 v3:=Tryz.zeroValue3
 t4:=Tryz.underlying4
 a4:=Tryz.isAgg4
 z4:=Tryz.sizeOf4
 v4:=Tryz.zeroValue4
 t5:=Tryz.underlying5
 a5:=Tryz.isAgg5
 z5:=Tryz.sizeOf5
 v5:=Tryz.zeroValue5
 t9:=Tryz.underlying9
 a9:=Tryz.isAgg9
 z9:=Tryz.sizeOf9
 v9:=Tryz.zeroValue9
 t12:=Tryz.underlying12
 a12:=Tryz.isAgg12
 z12:=Tryz.sizeOf12
 v12:=Tryz.zeroValue12
 t46:=Tryz.underlying180
 a46:=Tryz.isAgg180
 z46:=Tryz.sizeOf180
 v46:=Tryz.zeroValue180
 t53:=Tryz.underlying216
 a53:=Tryz.isAgg216
 z53:=Tryz.sizeOf216
 v53:=Tryz.zeroValue216
 t119:=Tryz.underlying176
 a119:=Tryz.isAgg176
 z119:=Tryz.sizeOf176
 t138:=Tryz.underlying178
 a138:=Tryz.isAgg178
 z138:=Tryz.sizeOf178
 v138:=Tryz.zeroValue178
 t139:=Tryz.underlying179
 a139:=Tryz.isAgg179
 z139:=Tryz.sizeOf179
 v139:=Tryz.zeroValue179
 g3:=by kernel_rfl
 g4:=by kernel_rfl }
end Go.Proofs
namespace Go.Proofs.YtgpmlelfkjfbiaaGreatDoor
open Go Go.RowKit Go.Ev
@[go_sem] theorem Zk2:Gu Tryz.prog 106=none:=by kernel_rfl
@[go_sem] theorem ZkJ:Gu Tryz.prog 117=some (8,1,false):=by kernel_rfl
@[go_sem] theorem ZjY:Gu Tryz.prog 122=none:=by kernel_rfl
@[go_sem] theorem Zkd:Gu Tryz.prog 130=some (5,1,false):=by kernel_rfl
@[go_sem] theorem ZkE:Gu Tryz.prog 138=none:=by kernel_rfl
@[go_sem] theorem Zka:Gu Tryz.prog 163=none:=by kernel_rfl
@[go_sem] theorem Zkb:Gu Tryz.prog 174=none:=by kernel_rfl
@[go_sem] theorem Zko:Gu Tryz.prog 184=none:=by kernel_rfl
@[go_sem] theorem Zkx:Gu Tryz.prog 185=some (11,8,true):=by kernel_rfl
@[go_sem] theorem Zks:Gu Tryz.prog 212=none:=by kernel_rfl
@[go_sem] theorem ZkN:Gu Tryz.prog 213=none:=by kernel_rfl
@[go_sem] theorem Zl9:Gu Tryz.prog 22=none:=by kernel_rfl
@[go_sem] theorem Zk6:Gu Tryz.prog 23=none:=by kernel_rfl
@[go_sem] theorem Zmd:Gu Tryz.prog 24=none:=by kernel_rfl
@[go_sem] theorem ZlU:Gu Tryz.prog 26=none:=by kernel_rfl
@[go_sem] theorem ZlD:Gu Tryz.prog 29=none:=by kernel_rfl
@[go_sem] theorem Zlp:Gu Tryz.prog 31=none:=by kernel_rfl
@[go_sem] theorem Zls:Gu Tryz.prog 35=none:=by kernel_rfl
@[go_sem] theorem Zlw:Gu Tryz.prog 37=none:=by kernel_rfl
@[go_sem] theorem ZlI:Gu Tryz.prog 39=none:=by kernel_rfl
@[go_sem] theorem Zlh:Gu Tryz.prog 43=none:=by kernel_rfl
@[go_sem] theorem Zmb:Gu Tryz.prog 44=none:=by kernel_rfl
@[go_sem] theorem Zmc:Gu Tryz.prog 46=none:=by kernel_rfl
@[go_sem] theorem Zk9:Gu Tryz.prog 54=none:=by kernel_rfl
@[go_sem] theorem Zlx:Gu Tryz.prog 75=none:=by kernel_rfl
@[go_sem] theorem Zlg:Gu Tryz.prog 82=none:=by kernel_rfl
@[go_sem] theorem ZmV:Gu Tryz.prog 9=none:=by kernel_rfl
@[go_sem] theorem Zme:Gu Tryz.prog 92=some (11,1,false):=by kernel_rfl
@[go_sem] theorem Zlz:M5 Tryz.prog 4=true:=by kernel_rfl
@[go_sem] theorem ZhW:I9 Tryz.prog 138=true:=by kernel_rfl
@[go_sem] theorem Zii:I9 Tryz.prog 180=false:=by kernel_rfl
@[go_sem] theorem Zix:I9 Tryz.prog 21=false:=by kernel_rfl
@[go_sem] theorem ZjF:I9 Tryz.prog 3=false:=by kernel_rfl
@[go_sem] theorem Zkg:I9 Tryz.prog 5=false:=by kernel_rfl
@[go_sem] theorem ZjK:I9 Tryz.prog 9=false:=by kernel_rfl
@[go_sem] theorem ZlK:Kq Tryz.prog 117=none:=by kernel_rfl
@[go_sem] theorem Zk3:Kq Tryz.prog 130=none:=by kernel_rfl
@[go_sem] theorem ZlN:Kq Tryz.prog 138=some (5,1,false,1):=by kernel_rfl
@[go_sem] theorem Zk7:Kq Tryz.prog 163=some (3,1,false,8):=by kernel_rfl
@[go_sem] theorem Zmn:Kq Tryz.prog 174=some (32,1,false,8):=by kernel_rfl
@[go_sem] theorem Zlf:Kq Tryz.prog 185=none:=by kernel_rfl
@[go_sem] theorem Zla:Kq Tryz.prog 213=some (212,7,true,96):=by kernel_rfl
@[go_sem] theorem Zm6:Kq Tryz.prog 22=some (9,1,false,16):=by kernel_rfl
@[go_sem] theorem Zdc:Kq Tryz.prog 23=some (26,7,true,104):=by kernel_rfl
@[go_sem] theorem Z9:Kq Tryz.prog 24=some (54,11,true,160):=by kernel_rfl
@[go_sem] theorem ZmN:Kq Tryz.prog 29=some (37,1,false,24):=by kernel_rfl
@[go_sem] theorem Znh:Kq Tryz.prog 31=some (35,1,false,24):=by kernel_rfl
@[go_sem] theorem Zne:Kq Tryz.prog 35=some (39,3,true,32):=by kernel_rfl
@[go_sem] theorem Zng:Kq Tryz.prog 37=some (82,3,true,32):=by kernel_rfl
@[go_sem] theorem RY:Kq Tryz.prog 43=some (46,6,true,88):=by kernel_rfl
@[go_sem] theorem OW:Kq Tryz.prog 44=some (75,7,true,104):=by kernel_rfl
@[go_sem] theorem Zht:Kq Tryz.prog 69=some (106,2,true,24):=by kernel_rfl
@[go_sem] theorem elT_9:Kq Tryz.prog 9=none:=by kernel_rfl
@[go_sem] theorem ZmH:Kq Tryz.prog 92=none:=by kernel_rfl
@[go_sem] theorem Zgg (xs ys:List AV):OC Tryz.prog .neq 39 xs ys=(obK [(some .i64,false),(some .i64,false),(none,true)] xs ys,!OD xs ys):=Zcu (by kernel_rfl) xs ys
@[go_sem] theorem ZhV:Fh Tryz.prog 184 1=some (1,1,false):=by kernel_rfl
@[go_sem] theorem ZhP:Fh Tryz.prog 184 2=some (2,1,false):=by kernel_rfl
@[go_sem] theorem Zhu:Fh Tryz.prog 184 3=some (3,1,false):=by kernel_rfl
@[go_sem] theorem ZhH:Fh Tryz.prog 184 4=some (4,1,false):=by kernel_rfl
@[go_sem] theorem Zh2:Fh Tryz.prog 184 5=some (5,1,false):=by kernel_rfl
@[go_sem] theorem Zil:Fh Tryz.prog 184 6=some (6,1,false):=by kernel_rfl
@[go_sem] theorem ZhM:Fh Tryz.prog 184 7=some (7,1,false):=by kernel_rfl
@[go_sem] theorem Zih:Fh Tryz.prog 212 0=some (0,6,true):=by kernel_rfl
@[go_sem] theorem Zhp:Fh Tryz.prog 212 1=some (6,1,false):=by kernel_rfl
@[go_sem] theorem Zi3:Fh Tryz.prog 26 0=some (0,1,false):=by kernel_rfl
@[go_sem] theorem ZiZ:Fh Tryz.prog 26 1=some (1,1,false):=by kernel_rfl
@[go_sem] theorem ZiD:Fh Tryz.prog 26 2=some (2,1,false):=by kernel_rfl
@[go_sem] theorem ZiJ:Fh Tryz.prog 26 3=some (3,1,false):=by kernel_rfl
@[go_sem] theorem Zjo:Fh Tryz.prog 26 4=some (4,1,false):=by kernel_rfl
@[go_sem] theorem ZiA:Fh Tryz.prog 26 5=some (5,1,false):=by kernel_rfl
@[go_sem] theorem ZiP:Fh Tryz.prog 26 6=some (6,1,false):=by kernel_rfl
@[go_sem] theorem ZiK:Fh Tryz.prog 46 0=some (0,1,false):=by kernel_rfl
@[go_sem] theorem ZiG:Fh Tryz.prog 46 1=some (1,1,false):=by kernel_rfl
@[go_sem] theorem Zjp:Fh Tryz.prog 46 2=some (2,1,false):=by kernel_rfl
@[go_sem] theorem Zjh:Fh Tryz.prog 46 3=some (3,1,false):=by kernel_rfl
@[go_sem] theorem Zi7:Fh Tryz.prog 46 4=some (4,1,false):=by kernel_rfl
@[go_sem] theorem Zja:Fh Tryz.prog 46 5=some (5,1,false):=by kernel_rfl
@[go_sem] theorem Ziv:Fh Tryz.prog 54 0=some (0,1,false):=by kernel_rfl
@[go_sem] theorem ZjA:Fh Tryz.prog 54 1=some (1,1,false):=by kernel_rfl
@[go_sem] theorem Ziy:Fh Tryz.prog 54 2=some (2,1,false):=by kernel_rfl
@[go_sem] theorem Zjg:Fh Tryz.prog 54 3=some (3,7,true):=by kernel_rfl
@[go_sem] theorem Zju:Fh Tryz.prog 54 4=some (10,1,false):=by kernel_rfl
@[go_sem] theorem Ziw:Fh Tryz.prog 58 0=some (0,7,true):=by kernel_rfl
@[go_sem] theorem Zjl:Fh Tryz.prog 58 1=some (7,7,true):=by kernel_rfl
@[go_sem] theorem Zje:Fh Tryz.prog 75 0=some (0,1,false):=by kernel_rfl
@[go_sem] theorem ZiI:Fh Tryz.prog 75 1=some (1,6,true):=by kernel_rfl
@[go_sem] theorem Zjc:Fh Tryz.prog 82 0=some (0,1,false):=by kernel_rfl
@[go_sem] theorem ZiS:Fh Tryz.prog 82 1=some (1,1,false):=by kernel_rfl
@[go_sem] theorem ZiO:Fh Tryz.prog 82 2=some (2,1,false):=by kernel_rfl
@[go_sem] theorem ZkX:NH Tryz.prog 138=none:=by kernel_rfl
@[go_sem] theorem Zky:NH Tryz.prog 180=some .u64:=by kernel_rfl
@[go_sem] theorem ZlQ:NH Tryz.prog 21=some .i32:=by kernel_rfl
@[go_sem] theorem ZmZ:NH Tryz.prog 3=some .i64:=by kernel_rfl
@[go_sem] theorem Znf:NH Tryz.prog 5=some .u8:=by kernel_rfl
@[go_sem] theorem Zm9:NH Tryz.prog 9=none:=by kernel_rfl
@[go_sem] theorem ZgM:D9 Tryz.prog 106=some [(0,1),(1,1)]:=by kernel_rfl
@[go_sem] theorem ZgH:D9 Tryz.prog 117=none:=by kernel_rfl
@[go_sem] theorem ZgF:D9 Tryz.prog 122=some [(0,1),(1,1)]:=by kernel_rfl
@[go_sem] theorem ZgG:D9 Tryz.prog 130=none:=by kernel_rfl
@[go_sem] theorem ZgN:D9 Tryz.prog 184=some [(0,1),(1,1),(2,1),(3,1),(4,1),(5,1),(6,1),(7,1)]:=by kernel_rfl
@[go_sem] theorem ZgZ:D9 Tryz.prog 185=none:=by kernel_rfl
@[go_sem] theorem Zg4:D9 Tryz.prog 212=some [(0,6),(6,1)]:=by kernel_rfl
@[go_sem] theorem Zhg:D9 Tryz.prog 26=some [(0,1),(1,1),(2,1),(3,1),(4,1),(5,1),(6,1)]:=by kernel_rfl
@[go_sem] theorem ZhD:D9 Tryz.prog 39=some [(0,1),(1,1),(2,1)]:=by kernel_rfl
@[go_sem] theorem Zh4:D9 Tryz.prog 46=some [(0,1),(1,1),(2,1),(3,1),(4,1),(5,1)]:=by kernel_rfl
@[go_sem] theorem Zhx:D9 Tryz.prog 54=some [(0,1),(1,1),(2,1),(3,7),(10,1)]:=by kernel_rfl
@[go_sem] theorem Zia:D9 Tryz.prog 75=some [(0,1),(1,6)]:=by kernel_rfl
@[go_sem] theorem Zhw:D9 Tryz.prog 82=some [(0,1),(1,1),(2,1)]:=by kernel_rfl
@[go_sem] theorem Zh0:D9 Tryz.prog 92=none:=by kernel_rfl
@[go_sem] theorem Zj3:EL Tryz.prog 117=false:=by kernel_rfl
@[go_sem] theorem ZkG:EL Tryz.prog 130=false:=by kernel_rfl
@[go_sem] theorem Zkj:EL Tryz.prog 138=false:=by kernel_rfl
@[go_sem] theorem Zj2:EL Tryz.prog 163=false:=by kernel_rfl
@[go_sem] theorem ZjX:EL Tryz.prog 174=false:=by kernel_rfl
@[go_sem] theorem ZjN:EL Tryz.prog 180=false:=by kernel_rfl
@[go_sem] theorem ZjG:EL Tryz.prog 185=false:=by kernel_rfl
@[go_sem] theorem ZlY:EL Tryz.prog 21=false:=by kernel_rfl
@[go_sem] theorem Zj7:EL Tryz.prog 213=false:=by kernel_rfl
@[go_sem] theorem Zlk:EL Tryz.prog 22=false:=by kernel_rfl
@[go_sem] theorem Zlq:EL Tryz.prog 23=false:=by kernel_rfl
@[go_sem] theorem Zlo:EL Tryz.prog 24=false:=by kernel_rfl
@[go_sem] theorem ZlR:EL Tryz.prog 29=false:=by kernel_rfl
@[go_sem] theorem Zm7:EL Tryz.prog 3=false:=by kernel_rfl
@[go_sem] theorem Zmi:EL Tryz.prog 31=false:=by kernel_rfl
@[go_sem] theorem ZlL:EL Tryz.prog 35=false:=by kernel_rfl
@[go_sem] theorem ZlE:EL Tryz.prog 37=false:=by kernel_rfl
@[go_sem] theorem Zmp:EL Tryz.prog 43=false:=by kernel_rfl
@[go_sem] theorem Zmo:EL Tryz.prog 44=false:=by kernel_rfl
@[go_sem] theorem Zmu:EL Tryz.prog 5=false:=by kernel_rfl
@[go_sem] theorem Zlt:EL Tryz.prog 69=false:=by kernel_rfl
@[go_sem] theorem Znc:EL Tryz.prog 9=true:=by kernel_rfl
@[go_sem] theorem ZlB:EL Tryz.prog 92=false:=by kernel_rfl
@[go_sem] theorem Zmf:IW Tryz.prog 117=some (8,true):=by kernel_rfl
@[go_sem] theorem Zlm:IW Tryz.prog 122=some (2,true):=by kernel_rfl
@[go_sem] theorem ZlM:IW Tryz.prog 125=some (1,false):=by kernel_rfl
@[go_sem] theorem ZlC:IW Tryz.prog 184=some (8,true):=by kernel_rfl
@[go_sem] theorem ZlW:IW Tryz.prog 185=some (88,true):=by kernel_rfl
@[go_sem] theorem Zlu:IW Tryz.prog 212=some (7,true):=by kernel_rfl
@[go_sem] theorem Zmq:IW Tryz.prog 22=some (1,false):=by kernel_rfl
@[go_sem] theorem Zm3:IW Tryz.prog 23=some (1,false):=by kernel_rfl
@[go_sem] theorem ZmS:IW Tryz.prog 24=some (1,false):=by kernel_rfl
@[go_sem] theorem Zm2:IW Tryz.prog 26=some (7,true):=by kernel_rfl
@[go_sem] theorem ZmQ:IW Tryz.prog 29=some (1,false):=by kernel_rfl
@[go_sem] theorem tyT_3:IW Tryz.prog 3=some (1,false):=by kernel_rfl
@[go_sem] theorem Zmx:IW Tryz.prog 32=some (1,false):=by kernel_rfl
@[go_sem] theorem ZmY:IW Tryz.prog 35=some (1,false):=by kernel_rfl
@[go_sem] theorem Zmz:IW Tryz.prog 37=some (1,false):=by kernel_rfl
@[go_sem] theorem ZmO:IW Tryz.prog 39=some (3,true):=by kernel_rfl
@[go_sem] theorem tyT_4:IW Tryz.prog 4=some (1,false):=by kernel_rfl
@[go_sem] theorem Zm8:IW Tryz.prog 43=some (1,false):=by kernel_rfl
@[go_sem] theorem Zms:IW Tryz.prog 44=some (1,false):=by kernel_rfl
@[go_sem] theorem Zna:IW Tryz.prog 46=some (6,true):=by kernel_rfl
@[go_sem] theorem ZmU:IW Tryz.prog 49=some (1,false):=by kernel_rfl
@[go_sem] theorem tyT_5:IW Tryz.prog 5=some (1,false):=by kernel_rfl
@[go_sem] theorem ZmD:IW Tryz.prog 54=some (11,true):=by kernel_rfl
@[go_sem] theorem Zm5:IW Tryz.prog 58=some (14,true):=by kernel_rfl
@[go_sem] theorem ZmI:IW Tryz.prog 69=some (1,false):=by kernel_rfl
@[go_sem] theorem ZmL:IW Tryz.prog 75=some (7,true):=by kernel_rfl
@[go_sem] theorem Zmy:IW Tryz.prog 82=some (3,true):=by kernel_rfl
@[go_sem] theorem ZmT:IW Tryz.prog 85=some (1,false):=by kernel_rfl
@[go_sem] theorem tyT_9:IW Tryz.prog 9=some (1,false):=by kernel_rfl
@[go_sem] theorem ZmJ:IW Tryz.prog 92=some (11,true):=by kernel_rfl
@[go_sem] theorem Zcs:C5 Tryz.prog 106=some [.val (.string ⟨#[]⟩),.val (.int .i64 0)]:=by kernel_rfl
@[go_sem] theorem Zjm:C5 Tryz.prog 117=some [.val (.string ⟨#[]⟩),.val (.string ⟨#[]⟩),.val (.string ⟨#[]⟩),.val (.string ⟨#[]⟩),.val (.string ⟨#[]⟩),.val (.string ⟨#[]⟩),.val (.string ⟨#[]⟩),.val (.string ⟨#[]⟩)]:=by kernel_rfl
@[go_sem] theorem Zi5:C5 Tryz.prog 122=some [.val .nilFunc,.val (.bool false)]:=by kernel_rfl
@[go_sem] theorem Zjr:C5 Tryz.prog 130=some [.val (.int .i64 0),.val (.int .i64 0),.val (.int .i64 0),.val (.int .i64 0),.val (.int .i64 0)]:=by kernel_rfl
@[go_sem] theorem ZiW:C5 Tryz.prog 184=some [.val (.string ⟨#[]⟩),.val (.int .i64 0),.val (.int .i64 0),.val (.bool false),.val (.bool false),.val (.bool false),.val (.bool false),.val (.bool false)]:=by kernel_rfl
@[go_sem] theorem ZiR:C5 Tryz.prog 185=some [.val (.string ⟨#[]⟩),.val (.int .i64 0),.val (.int .i64 0),.val (.bool false),.val (.bool false),.val (.bool false),.val (.bool false),.val (.bool false),.val (.string ⟨#[]⟩),.val (.int .i64 0),.val (.int .i64 0),.val (.bool false),.val (.bool false),.val (.bool false),.val (.bool false),.val (.bool false),.val (.string ⟨#[]⟩),.val (.int .i64 0),.val (.int .i64 0),.val (.bool false),.val (.bool false),.val (.bool false),.val (.bool false),.val (.bool false),.val (.string ⟨#[]⟩),.val (.int .i64 0),.val (.int .i64 0),.val (.bool false),.val (.bool false),.val (.bool false),.val (.bool false),.val (.bool false),.val (.string ⟨#[]⟩),.val (.int .i64 0),.val (.int .i64 0),.val (.bool false),.val (.bool false),.val (.bool false),.val (.bool false),.val (.bool false),.val (.string ⟨#[]⟩),.val (.int .i64 0),.val (.int .i64 0),.val (.bool false),.val (.bool false),.val (.bool false),.val (.bool false),.val (.bool false),.val (.string ⟨#[]⟩),.val (.int .i64 0),.val (.int .i64 0),.val (.bool false),.val (.bool false),.val (.bool false),.val (.bool false),.val (.bool false),.val (.string ⟨#[]⟩),.val (.int .i64 0),.val (.int .i64 0),.val (.bool false),.val (.bool false),.val (.bool false),.val (.bool false),.val (.bool false),.val (.string ⟨#[]⟩),.val (.int .i64 0),.val (.int .i64 0),.val (.bool false),.val (.bool false),.val (.bool false),.val (.bool false),.val (.bool false),.val (.string ⟨#[]⟩),.val (.int .i64 0),.val (.int .i64 0),.val (.bool false),.val (.bool false),.val (.bool false),.val (.bool false),.val (.bool false),.val (.string ⟨#[]⟩),.val (.int .i64 0),.val (.int .i64 0),.val (.bool false),.val (.bool false),.val (.bool false),.val (.bool false),.val (.bool false)]:=by kernel_rfl
@[go_sem] theorem Zi4:C5 Tryz.prog 212=some [.val (.int .i64 0),.val (.int .i64 0),.val (.int .i64 0),.val (.string ⟨#[]⟩),.list [] .full,.list [] .full,.val (.int .i64 0)]:=by kernel_rfl
@[go_sem] theorem Y4:C5 Tryz.prog 26=some [.val (.int .i64 0),.val (.int .i64 0),.val (.int .i64 0),.val (.int .i64 0),.list [] .full,.list [] .full,.list [] .full]:=by kernel_rfl
@[go_sem] theorem Zkn:C5 Tryz.prog 29=some [.list [] .full]:=by kernel_rfl
@[go_sem] theorem Zlc:C5 Tryz.prog 3=some [.val (.int .i64 0)]:=by kernel_rfl
@[go_sem] theorem ZkQ:C5 Tryz.prog 32=some [.val (.int .i64 0)]:=by kernel_rfl
@[go_sem] theorem Zkr:C5 Tryz.prog 35=some [.list [] .full]:=by kernel_rfl
@[go_sem] theorem ZkT:C5 Tryz.prog 37=some [.list [] .full]:=by kernel_rfl
@[go_sem] theorem Zj6:C5 Tryz.prog 39=some [.val (.int .i64 0),.val (.int .i64 0),.val (.string ⟨#[]⟩)]:=by kernel_rfl
@[go_sem] theorem Zk5:C5 Tryz.prog 4=some [.val (.bool false)]:=by kernel_rfl
@[go_sem] theorem MR:C5 Tryz.prog 46=some [.val (.int .i64 0),.val (.int .i64 0),.val (.int .i64 0),.val (.string ⟨#[]⟩),.list [] .full,.list [] .full]:=by kernel_rfl
@[go_sem] theorem Uz:C5 Tryz.prog 54=some [.val (.int .i64 0),.val (.string ⟨#[]⟩),.val (.int .i64 0),.val (.int .i64 0),.val (.int .i64 0),.val (.int .i64 0),.val (.int .i64 0),.list [] .full,.list [] .full,.list [] .full,.list [] .full]:=by kernel_rfl
@[go_sem] theorem ZjZ:C5 Tryz.prog 69=some [.list [] .full]:=by kernel_rfl
@[go_sem] theorem JD:C5 Tryz.prog 75=some [.val (.string ⟨#[]⟩),.val (.int .i64 0),.val (.int .i64 0),.val (.int .i64 0),.val (.string ⟨#[]⟩),.list [] .full,.list [] .full]:=by kernel_rfl
@[go_sem] theorem ZjU:C5 Tryz.prog 82=some [.val (.int .i64 0),.val (.int .i64 0),.val (.string ⟨#[]⟩)]:=by kernel_rfl
@[go_sem] theorem ZkS:C5 Tryz.prog 85=some [.val .nilFunc]:=by kernel_rfl
@[go_sem] theorem Zmj:C5 Tryz.prog 9=some [.val (.string ⟨#[]⟩)]:=by kernel_rfl
@[go_sem] theorem ZkL:C5 Tryz.prog 92=some [.val .nilFunc,.val .nilFunc,.val .nilFunc,.val .nilFunc,.val .nilFunc,.val .nilFunc,.val .nilFunc,.val .nilFunc,.val .nilFunc,.val .nilFunc,.val .nilFunc]:=by kernel_rfl
theorem HH:Tryz.prog.follows .mixedOrders=true:=by kernel_rfl
inductive Vl where
 | mk (kind int scale:Int) (text:ByteArray) (list:List Vl) (fields:List (ByteArray × Vl))
inductive Ty where
 | mk (kind min max scale:Int) (words:List ByteArray) (elem:List Ty) (fields:List (Int × ByteArray × Int × Ty × List Vl))
namespace Vl
def kind:Vl→Int | mk k _ _ _ _ _=>k
def int:Vl→Int | mk _ i _ _ _ _=>i
def scale:Vl→Int | mk _ _ s _ _ _=>s
def text:Vl→ByteArray | mk _ _ _ t _ _=>t
def list:Vl→List Vl | mk _ _ _ _ l _=>l
def fields:Vl→List (ByteArray × Vl) | mk _ _ _ _ _ f=>f
end Vl
mutual
def Vl.size:Vl→Nat
 | .mk _ _ _ _ l f=>1+G8 l+Gk f
def G8:List Vl→Nat
 | []=>0
 | v::r=>v.size+G8 r
def Gk:List (ByteArray × Vl)→Nat
 | []=>0
 | (_,v)::r=>v.size+Gk r
end
mutual
def Vl.cs:Vl→List AV
 | .mk k i s t l f=>[.val (.int .i64 k),.val (.int .i64 i),.val (.int .i64 s),.val (.string t),.list (Fv l) .none,.list (J7 f) .none]
def Fv:List Vl→List AV
 | []=>[]
 | v::r => .agg v.cs::Fv r
def J7:List (ByteArray × Vl)→List AV
 | []=>[]
 | (n,v)::r => .agg (.val (.string n)::v.cs)::J7 r
end
mutual
def Ty.size:Ty→Nat
 | .mk _ _ _ _ _ e f=>1+FI e+B9 f
def FI:List Ty→Nat
 | []=>0
 | t::r=>t.size+FI r
def B9:List (Int × ByteArray × Int × Ty × List Vl)→Nat
 | []=>0
 | (_,_,_,t,_)::r=>t.size+B9 r
end
mutual
def Ty.cs:Ty→List AV
 | .mk k lo hi s w e f=>[.val (.int .i64 k),.val (.int .i64 lo),.val (.int .i64 hi),.val (.int .i64 s),.list (w.map fun x => .val (.string x)) .none,.list (N5 e) .none,.list (Jb f) .none]
def N5:List Ty→List AV
 | []=>[]
 | t::r => .agg t.cs::N5 r
def Jb:List (Int × ByteArray × Int × Ty × List Vl)→List AV
 | []=>[]
 | (n,s,d,t,l)::r => .agg (.val (.int .i64 n) :: .val (.string s) :: .val (.int .i64 d)::(t.cs++[.list (Fv l) .none]))::Jb r
end
theorem GG:∀ l:List Vl,Fv l=l.map fun v => .agg v.cs
 | []=>rfl
 | v::r=>by simp [Fv,GG r]
theorem Pj:∀ l:List (ByteArray × Vl),J7 l=l.map fun p => .agg (.val (.string p.1)::p.2.cs)
 | []=>rfl
 | (n,v)::r=>by simp [J7,Pj r]
@[go_sem] theorem QE (l:List Vl):(Fv l).length=l.length:=by simp [GG]
@[go_sem] theorem XG (l:List (ByteArray × Vl)):(J7 l).length=l.length:=by simp [Pj]
theorem RJ:∀ l:List Ty,N5 l=l.map fun v => .agg v.cs
 | []=>rfl
 | v::r=>by simp [N5,RJ r]
theorem P7:∀ l:List (Int × ByteArray × Int × Ty × List Vl),Jb l=l.map fun p => .agg (.val (.int .i64 p.1) :: .val (.string p.2.1) :: .val (.int .i64 p.2.2.1)::(p.2.2.2.1.cs++[.list (Fv p.2.2.2.2) .none]))
 | []=>rfl
 | (n,s,d,t,l)::r=>by simp [Jb,P7 r]
@[go_sem] theorem Zgi (l:List Ty):(N5 l).length=l.length:=by simp [RJ]
@[go_sem] theorem ZeB (l:List (Int × ByteArray × Int × Ty × List Vl)):(Jb l).length=l.length:=by simp [P7]
theorem Vl.cs_eq (v:Vl):v.cs=[.val (.int .i64 v.kind),.val (.int .i64 v.int),.val (.int .i64 v.scale),.val (.string v.text),.list (Fv v.list) .none,.list (J7 v.fields) .none]:=by cases v;rfl
@[go_sem] theorem Vl.cs_length (v:Vl):v.cs.length=6:=by cases v;rfl
@[go_sem] theorem Vl.cs_pub (v:Vl):v.cs.map AV.pubCell=v.cs:=by cases v;rfl
mutual
theorem Vl.under (nb nr nl:Nat):∀ v:Vl,∀ x∈v.cs,Under nb nr nl x
 | .mk k i s t l f=>by
  intro x a
  simp only [Vl.cs,List.mem_cons,List.not_mem_nil,or_false] at a
  rcases a with rfl | rfl | rfl | rfl | rfl | rfl
  ·exact .val _
  ·exact .val _
  ·exact .val _
  ·exact .val _
  ·exact .list (LV nb nr nl l) trivial
  ·exact .list (LW nb nr nl f) trivial
theorem LV (nb nr nl:Nat):∀ l:List Vl,∀ x∈Fv l,Under nb nr nl x
 | []=>fun _ h=>by simp [Fv] at h
 | v::r=>by
  intro x hx
  simp only [Fv,List.mem_cons] at hx
  rcases hx with rfl | hx
  ·exact .agg (Vl.under nb nr nl v)
  ·exact LV nb nr nl r x hx
theorem LW (nb nr nl:Nat):∀ l:List (ByteArray × Vl),∀ x∈J7 l,Under nb nr nl x
 | []=>fun _ h=>by simp [J7] at h
 | (n,v)::r=>by
  intro x hx
  simp only [J7,List.mem_cons] at hx
  rcases hx with rfl | hx
  ·refine .agg fun y hy=>?_
   rcases List.mem_cons.1 hy with rfl | hy
   ·exact .val _
   ·exact Vl.under nb nr nl v y hy
  ·exact LW nb nr nl r x hx
end
mutual
theorem Ty.under (nb nr nl:Nat):∀ v:Ty,∀ x∈v.cs,Under nb nr nl x
 | .mk k lo hi s w e f=>by
  intro x a
  simp only [Ty.cs,List.mem_cons,List.not_mem_nil,or_false] at a
  rcases a with rfl | rfl | rfl | rfl | rfl | rfl | rfl
  ·exact .val _
  ·exact .val _
  ·exact .val _
  ·exact .val _
  ·refine .list (fun y b=>?_) trivial
   obtain ⟨z,_,rfl⟩:=List.mem_map.1 b
   exact .val _
  ·exact .list (OT nb nr nl e) trivial
  ·exact .list (Kr nb nr nl f) trivial
theorem OT (nb nr nl:Nat):∀ l:List Ty,∀ x∈N5 l,Under nb nr nl x
 | []=>fun _ h=>by simp [N5] at h
 | v::r=>by
  intro x hx
  simp only [N5,List.mem_cons] at hx
  rcases hx with rfl | hx
  ·exact .agg (Ty.under nb nr nl v)
  ·exact OT nb nr nl r x hx
theorem Kr (nb nr nl:Nat):∀ l:List (Int × ByteArray × Int × Ty × List Vl),∀ x∈Jb l,Under nb nr nl x
 | []=>fun _ h=>by simp [Jb] at h
 | (n,s,d,t,l)::r=>by
  intro x hx
  simp only [Jb,List.mem_cons] at hx
  rcases hx with rfl | hx
  ·refine .agg fun y hy=>?_
   simp only [List.mem_cons,List.mem_append,List.not_mem_nil,or_false] at hy
   rcases hy with rfl | rfl | rfl | hy | rfl
   ·exact .val _
   ·exact .val _
   ·exact .val _
   ·exact Ty.under nb nr nl t y hy
   ·exact .list (LV nb nr nl l) trivial
  ·exact Kr nb nr nl r x hx
end
@[go_sem] theorem Zku (nb nr nl:Nat) (v:Vl):Under nb nr nl (.agg v.cs)↔True:=iff_true_intro (.agg (v.under nb nr nl))
@[go_sem] theorem Zjs (nb nr nl:Nat) (v:Ty):Under nb nr nl (.agg v.cs)↔True:=iff_true_intro (.agg (v.under nb nr nl))
@[go_sem] theorem ZgX (nb nr nl:Nat) (l:List Vl):(∀ x∈Fv l,Under nb nr nl x)↔True:=iff_true_intro (LV nb nr nl l)
@[go_sem] theorem ZgJ (nb nr nl:Nat) (l:List (ByteArray × Vl)):(∀ x∈J7 l,Under nb nr nl x)↔True:=iff_true_intro (LW nb nr nl l)
@[go_sem] theorem Zgy (nb nr nl:Nat) (l:List Ty):(∀ x∈N5 l,Under nb nr nl x)↔True:=iff_true_intro (OT nb nr nl l)
@[go_sem] theorem Zge (nb nr nl:Nat) (l:List (Int × ByteArray × Int × Ty × List Vl)):(∀ x∈Jb l,Under nb nr nl x)↔True:=iff_true_intro (Kr nb nr nl l)
theorem Ty.cs_eq (t:Ty):∃ k lo hi s w e f,t = .mk k lo hi s w e f:=by cases t;exact ⟨_,_,_,_,_,_,_,rfl⟩
@[go_sem] theorem Ty.cs_length (v:Ty):v.cs.length=7:=by cases v;rfl
@[go_sem] theorem Ty.cs_pub (v:Ty):v.cs.map AV.pubCell=v.cs:=by cases v;rfl
namespace Ty
def kind:Ty→Int | mk k _ _ _ _ _ _=>k
def min:Ty→Int | mk _ m _ _ _ _ _=>m
def max:Ty→Int | mk _ _ m _ _ _ _=>m
def scale:Ty→Int | mk _ _ _ s _ _ _=>s
def words:Ty→List ByteArray | mk _ _ _ _ w _ _=>w
def elem:Ty→List Ty | mk _ _ _ _ _ e _=>e
def fields:Ty→List (Int × ByteArray × Int × Ty × List Vl) | mk _ _ _ _ _ _ f=>f
end Ty
section
variable (v:Vl) (t:Ty) (x d:AV) (l:List AV)
@[go_sem] theorem Vl.g0:v.cs.getD 0 d = .val (.int .i64 v.kind):=by cases v;rfl
@[go_sem] theorem Vl.g1:v.cs.getD 1 d = .val (.int .i64 v.int):=by cases v;rfl
@[go_sem] theorem Vl.g2:v.cs.getD 2 d = .val (.int .i64 v.scale):=by cases v;rfl
@[go_sem] theorem Vl.g3:v.cs.getD 3 d = .val (.string v.text):=by cases v;rfl
@[go_sem] theorem Vl.g4:v.cs.getD 4 d = .list (Fv v.list) .none:=by cases v;rfl
@[go_sem] theorem Vl.g5:v.cs.getD 5 d = .list (J7 v.fields) .none:=by cases v;rfl
@[go_sem] theorem Vl.take6:v.cs.take 6=v.cs:=by cases v;rfl
@[go_sem] theorem Vl.take6a:(v.cs++l).take 6=v.cs:=by cases v;rfl
@[go_sem] theorem Ty.g0:t.cs.getD 0 d = .val (.int .i64 t.kind):=by cases t;rfl
@[go_sem] theorem Ty.g1:t.cs.getD 1 d = .val (.int .i64 t.min):=by cases t;rfl
@[go_sem] theorem Ty.g2:t.cs.getD 2 d = .val (.int .i64 t.max):=by cases t;rfl
@[go_sem] theorem Ty.g3:t.cs.getD 3 d = .val (.int .i64 t.scale):=by cases t;rfl
@[go_sem] theorem Ty.g4:t.cs.getD 4 d = .list (t.words.map fun x => .val (.string x)) .none:=by cases t;rfl
@[go_sem] theorem Ty.g5:t.cs.getD 5 d = .list (N5 t.elem) .none:=by cases t;rfl
@[go_sem] theorem Ty.g6:t.cs.getD 6 d = .list (Jb t.fields) .none:=by cases t;rfl
@[go_sem] theorem Ty.take7:t.cs.take 7=t.cs:=by cases t;rfl
@[go_sem] theorem Ty.a0:(t.cs++l).getD 0 d = .val (.int .i64 t.kind):=by cases t;rfl
@[go_sem] theorem Ty.a1:(t.cs++l).getD 1 d = .val (.int .i64 t.min):=by cases t;rfl
@[go_sem] theorem Ty.a2:(t.cs++l).getD 2 d = .val (.int .i64 t.max):=by cases t;rfl
@[go_sem] theorem Ty.a3:(t.cs++l).getD 3 d = .val (.int .i64 t.scale):=by cases t;rfl
@[go_sem] theorem Ty.a4:(t.cs++l).getD 4 d = .list (t.words.map fun x => .val (.string x)) .none:=by cases t;rfl
@[go_sem] theorem Ty.a5:(t.cs++l).getD 5 d = .list (N5 t.elem) .none:=by cases t;rfl
@[go_sem] theorem Ty.a6:(t.cs++l).getD 6 d = .list (Jb t.fields) .none:=by cases t;rfl
@[go_sem] theorem Ty.a7:(t.cs++[x]).getD 7 d=x:=by cases t;rfl
@[go_sem] theorem Ty.take7a:(t.cs++l).take 7=t.cs:=by cases t;rfl
@[go_sem] theorem Ty.take8a:(t.cs++[x]).take 8=t.cs++[x]:=by cases t;rfl
@[go_sem] theorem Ty.drop7a:(t.cs++l).drop 7=l:=by cases t;rfl
attribute [go_sem] List.length_append List.map_append
end
end Go.Proofs.YtgpmlelfkjfbiaaGreatDoor
namespace Go.Proofs.YtgpmlelfkjfbiaaGreatDoor
open Go Go.RowKit Go.Ev
theorem Za1 (t:ByteArray):Cb t ⟨#[]⟩=decide (t.size=0):=by
 by_cases h:t.size=0
 ·have:t=⟨#[]⟩:=by
   obtain ⟨⟨l⟩⟩:=t
   simp [ByteArray.size] at h
   subst h;rfl
  subst this
  rfl
 ·simp only [h,decide_false]
  obtain ⟨⟨l⟩⟩:=t
  simp [ByteArray.size] at h
  simp [Cb,h]
theorem QV (w0:World) (B:List (List AV)) (Rw:List RowA) (L:List LoopA) (n low high:Int) :
  ACalls Tryz.prog w0 181 [.val (.int .i64 n),.val (.int .i64 low),.val (.int .i64 high)] ⟨B,Rw,L⟩ fun r st=>r = .val (.bool (decide (low≤n)&&decide (n≤high)))∧st=⟨B,Rw,L⟩:=by
 refine ACalls.finP (EF (rs:=[.tmp 6]) Tryz.func181 rfl rfl Tryz.ntmps181 (A1 Tryz.func181 rfl (by decide)) (Nat.le_of_ble_eq_true rfl) ?_)
 intro M0 W0 g e d a f
 simp only [Au]
 apply Ah;intro K1 b
 apply Ao 1 [0,1,2]
 rw [Am];simp +decide only [go_sem]
 (repeat' apply Aa)<;>first | refine b _ _ ?_ | (intros;omega) | (intros;simp_all;done)
 clear b
 apply Ah;intro K2 c
 apply Ao 1 [6]
 rw [Am];simp +decide only [go_sem]
 (repeat' apply Aa)<;>first | refine c _ _ ?_ | (intros;omega) | (intros;simp_all;done)
 clear c
 apply A2;simp +decide only [go_sem]
 refine Na a (by first | exact List.prefix_append _ _ | exact List.prefix_refl _ | (rw [List.append_assoc];exact List.prefix_append _ _)) (by first | exact List.prefix_append _ _ | exact List.prefix_refl _ | (rw [List.append_assoc];exact List.prefix_append _ _)) (by first | exact List.prefix_append _ _ | exact List.prefix_refl _ | (rw [List.append_assoc];exact List.prefix_append _ _)) (by simp +decide only [go_sem]) ⟨?_,rfl⟩
 rfl
theorem ZB (w0:World) (B:List (List AV)) (Rw:List RowA) (L:List LoopA) (a:Int) :
  ACalls Tryz.prog w0 198 [.val (.int .i64 a)] ⟨B,Rw,L⟩ fun r st=>r = .val (.bool false)∧st=⟨B,Rw,L⟩:=by
 refine ACalls.finP (EF (rs:=[.tmp 2]) Tryz.func198 rfl rfl Tryz.ntmps198 (A1 Tryz.func198 rfl (by decide)) (Nat.le_of_ble_eq_true rfl) ?_)
 intro M0 W0 h f e b g
 simp only [Au]
 apply Ah;intro K1 c
 apply Ao 1 [0]
 rw [Am];simp +decide only [go_sem]
 (repeat' apply Aa)<;>first | refine c _ _ ?_ | (intros;omega) | (intros;simp_all;done)
 clear c
 apply Ah;intro K2 d
 apply Ao 1 [2]
 rw [Am];simp +decide only [go_sem]
 (repeat' apply Aa)<;>first | refine d _ _ ?_ | (intros;omega) | (intros;simp_all;done)
 clear d
 apply A2;simp +decide only [go_sem]
 refine Na b (by first | exact List.prefix_append _ _ | exact List.prefix_refl _ | (rw [List.append_assoc];exact List.prefix_append _ _)) (by first | exact List.prefix_append _ _ | exact List.prefix_refl _ | (rw [List.append_assoc];exact List.prefix_append _ _)) (by first | exact List.prefix_append _ _ | exact List.prefix_refl _ | (rw [List.append_assoc];exact List.prefix_append _ _)) (by simp +decide only [go_sem]) ⟨?_,rfl⟩
 rw [K0]
theorem PV (w0:World) (B:List (List AV)) (Rw:List RowA) (L:List LoopA) (a b:Int) :
  ACalls Tryz.prog w0 143 [.val (.int .i64 a),.val (.int .i64 b)] ⟨B,Rw,L⟩ fun r st=>r = .val (.int .i64 (if a<b then -1 else if a=b then 0 else 1))∧st=⟨B,Rw,L⟩:=by
 refine ACalls.finP (EF (rs:=[.tmp 4]) Tryz.func143 rfl rfl Tryz.ntmps143 (A1 Tryz.func143 rfl (by decide)) (Nat.le_of_ble_eq_true rfl) ?_)
 intro M0 W0 v t u c w
 simp only [Au]
 apply Ah;intro K1 q
 apply Ao 1 [0,1]
 rw [Am];simp +decide only [go_sem]
 (repeat' apply Aa)<;>first | refine q _ _ ?_ | (intros;omega) | (intros;simp_all;done)
 clear q
 apply Ah;intro K2 s
 apply Ao 2 [0,1,5]
 rw [Am];simp +decide only [go_sem]
 (repeat' apply Aa)<;>first | refine Oz _ (ZB w0 _ Rw L _) ?_ | (intros;omega) | (intros;simp_all;done)
 rw [Am];simp +decide only [go_sem]
 (repeat' apply Aa)<;>first | refine s _ _ ?_ | (intros;omega) | (intros;simp_all;done)
 clear s
 apply Ah;intro K3 n
 apply Ao 2 [0,1,5,6]
 rw [Am];simp +decide only [go_sem]
 (repeat' apply Aa)<;>first | refine Oz _ (ZB w0 _ Rw L _) ?_ | (intros;omega) | (intros;simp_all;done)
 rw [Am];simp +decide only [go_sem]
 (repeat' apply Aa)<;>first | refine n _ _ ?_ | (intros;omega) | (intros;simp_all;done)
 clear n
 apply Ah;intro K4 p
 apply Ah;intro K5 o
 apply Ao 1 [0,1,6,11]
 rw [Am];simp +decide only [go_sem]
 (repeat' apply Aa)<;>first | refine o _ _ ?_ | (intros;omega) | (intros;simp_all;done)
 clear o
 refine A4 _ (by simp +decide only [go_sem]) (by simp +decide only [go_sem];rfl) (fun d=>?_) (fun d=>?_)
 ·simp at d
 skip
 apply Br;simp only [go_sem]
 (repeat' apply Aa)<;>first | refine p _ _ ?_ | (intros;omega) | (intros;simp_all;done)
 clear p
 apply Ah;intro K10 l
 apply Ah;intro K11 f
 apply Ao 1 [0,1,13]
 rw [Am];simp +decide only [go_sem]
 (repeat' apply Aa)<;>first | refine f _ _ ?_ | (intros;omega) | (intros;simp_all;done)
 clear f
 refine A4 _ (by simp +decide only [go_sem]) (by simp +decide only [go_sem];rfl) (fun d=>?_) (fun d=>?_)
 ·simp at d
 try simp at d
 apply Br;simp only [go_sem]
 (repeat' apply Aa)<;>first | refine l _ _ ?_ | (intros;omega) | (intros;simp_all;done)
 clear l
 apply Ah;intro K13 j
 apply Ah;intro K14 m
 apply Ao 1 [0,1,16]
 rw [Am];simp +decide only [go_sem]
 (repeat' apply Aa)<;>first | refine m _ _ ?_ | (intros;omega) | (intros;simp_all;done)
 clear m
 refine A4 _ (by simp +decide only [go_sem]) (by simp +decide only [go_sem];rfl) (fun d=>?_) (fun d=>?_)
 ·try simp at d
  apply Ah;intro K15 h
  apply Ao 1 [4]
  rw [Am];simp +decide only [go_sem]
  (repeat' apply Aa)<;>first | refine h _ _ ?_ | (intros;omega) | (intros;simp_all;done)
  clear h
  apply A2;simp +decide only [go_sem]
  refine Na c (by first | exact List.prefix_append _ _ | exact List.prefix_refl _ | (rw [List.append_assoc];exact List.prefix_append _ _)) (by first | exact List.prefix_append _ _ | exact List.prefix_refl _ | (rw [List.append_assoc];exact List.prefix_append _ _)) (by first | exact List.prefix_append _ _ | exact List.prefix_refl _ | (rw [List.append_assoc];exact List.prefix_append _ _)) (by simp +decide only [go_sem]) ⟨?_,rfl⟩
  rw [K0]
  rw [Ae (by omega)]
 try simp at d
 apply Br;simp only [go_sem]
 (repeat' apply Aa)<;>first | refine j _ _ ?_ | (intros;omega) | (intros;simp_all;done)
 clear j
 apply Ah;intro K16 g
 apply Ah;intro K17 i
 apply Ao 1 [19]
 rw [Am];simp +decide only [go_sem]
 (repeat' apply Aa)<;>first | refine i _ _ ?_ | (intros;omega) | (intros;simp_all;done)
 clear i
 refine A4 _ (by simp +decide only [go_sem]) (by simp +decide only [go_sem];rfl) (fun d=>?_) (fun d=>?_)
 ·try simp at d
  apply Ah;intro K18 k
  apply Ao 1 [4]
  rw [Am];simp +decide only [go_sem]
  (repeat' apply Aa)<;>first | refine k _ _ ?_ | (intros;omega) | (intros;simp_all;done)
  clear k
  apply A2;simp +decide only [go_sem]
  refine Na c (by first | exact List.prefix_append _ _ | exact List.prefix_refl _ | (rw [List.append_assoc];exact List.prefix_append _ _)) (by first | exact List.prefix_append _ _ | exact List.prefix_refl _ | (rw [List.append_assoc];exact List.prefix_append _ _)) (by first | exact List.prefix_append _ _ | exact List.prefix_refl _ | (rw [List.append_assoc];exact List.prefix_append _ _)) (by simp +decide only [go_sem]) ⟨?_,rfl⟩
  rw [K0]
  rw [Af (by omega),Af (by omega)]
 try simp at d
 apply Br;simp only [go_sem]
 (repeat' apply Aa)<;>first | refine g _ _ ?_ | (intros;omega) | (intros;simp_all;done)
 clear g
 apply Ah;intro K19 e
 apply Ao 1 [4]
 rw [Am];simp +decide only [go_sem]
 (repeat' apply Aa)<;>first | refine e _ _ ?_ | (intros;omega) | (intros;simp_all;done)
 clear e
 apply A2;simp +decide only [go_sem]
 refine Na c (by first | exact List.prefix_append _ _ | exact List.prefix_refl _ | (rw [List.append_assoc];exact List.prefix_append _ _)) (by first | exact List.prefix_append _ _ | exact List.prefix_refl _ | (rw [List.append_assoc];exact List.prefix_append _ _)) (by first | exact List.prefix_append _ _ | exact List.prefix_refl _ | (rw [List.append_assoc];exact List.prefix_append _ _)) (by simp +decide only [go_sem]) ⟨?_,rfl⟩
 rw [K0]
 rw [Af (by omega),Ae (by omega)]
def LU (c:Nat):Bool:=decide (97≤c)&&decide (c≤122)
def Uj (c:Nat):Bool:=LU c||decide (c=95)||(decide (48≤c)&&decide (c≤57))
def Zbo (l:List UInt8):Bool:=decide (1≤l.length∧l.length≤32)&&LU (l.headD 0).toNat&&l.all fun c=>Uj c.toNat
def E5 (s:ByteArray):Bool:=Zbo s.data.toList
theorem Uk (s:ByteArray) (k:Nat) (h:k<s.size):s.get! k=s.data.toList[k]'(by simpa using h):=by
 rw [Utf8W.get!_of_lt s k h];rfl
theorem Zd9 (s:ByteArray) (f:UInt8→Bool) (k:Nat) (h:k<s.size):(s.data.toList.drop k).all f=(f (s.get! k)&&(s.data.toList.drop (k+1)).all f):=by
 rw [List.drop_eq_getElem_cons (by simpa using h),Uk s k h];rfl
theorem Zd0 (s:ByteArray) (h:0<s.size):s.data.toList.headD 0=s.get! 0:=by
 rw [Uk s 0 h]
 have b:0<s.data.toList.length:=by simpa using h
 have:∀ (l:List UInt8) (q:0<l.length),l.headD 0=l[0]:=fun l q=>by
  cases l with
  | nil=>simp at q
  | cons a l=>rfl
 exact this _ b
theorem Zb4 (s:ByteArray) (k:Nat) (h:k<s.size):(G2 s.data.toList).getD k .junk = .val (.int .u8 (s.get! k).toNat):=by
 have a:s.data.toList.length=s.size:=by simp
 rw [Uk s k h]
 simp [G2,a,h,List.getD]
theorem X1 (s:ByteArray):(G2 s.data.toList).length=s.size:=by
 have a:s.data.toList.length=s.size:=by simp
 simp [G2,a]
theorem Zb9 (c:Nat):Uj c=decide ((97≤(c:Int)∧(c:Int)≤122)∨(c:Int)=95∨(48≤(c:Int)∧(c:Int)≤57)):=by
 rw [Bool.eq_iff_iff]
 simp [Uj,LU]
 omega
theorem SY (c:Nat):LU c=decide (97≤(c:Int)∧(c:Int)≤122):=by
 rw [Bool.eq_iff_iff]
 simp [LU]
 omega
theorem U8 (s:ByteArray) (h1:1≤s.size) (h2:s.size≤32):E5 s=(LU (s.get! 0).toNat&&s.data.toList.all fun c=>Uj c.toNat):=by
 have a:s.data.toList.length=s.size:=by simp
 rw [E5,Zbo,Ad (by omega),Zd0 s h1];rfl
theorem Zav (s:ByteArray) (h:¬ (1≤s.size∧s.size≤32)):E5 s=false:=by
 have a:s.data.toList.length=s.size:=by simp
 rw [E5,Zbo,Ac (by omega)];rfl
theorem RE (w0:World) (B:List (List AV)) (Rw:List RowA) (L:List LoopA) (s:ByteArray) (hs:s.size≤maxLen) :
  ACalls Tryz.prog w0 65 [.val (.string s)] ⟨B,Rw,L⟩ fun r st=>r = .val (.bool (E5 s))∧st=⟨B,Rw,L⟩:=by
 refine ACalls.finP (EF (rs:=[.tmp 2]) Tryz.func65 rfl rfl Tryz.ntmps65 (A1 Tryz.func65 rfl (by decide)) (Nat.le_of_ble_eq_true rfl) ?_)
 intro M0 W0 N F H b Q
 unfold maxLen at hs
 have G:s.data.toList.length=s.size:=by simp
 have f:=Za1 s
 obtain ⟨d,hd⟩:∃ d,(s.get! 0).toNat=d:=⟨_,rfl⟩
 have a:=X1 s
 simp only [Au]
 apply Ah;intro K1 C
 apply Ao 1 [0]
 rw [Am];simp +decide only [go_sem,hd,a,f]
 (repeat' apply Aa)<;>first | refine C _ _ ?_ | (intros;omega) | (intros;simp_all;done) | (intros;simp only [Bool.or_eq_false_iff,Bool.or_eq_true,Bool.and_eq_true,Bool.and_eq_false_iff,decide_eq_true_eq,decide_eq_false_iff_not,bne_iff_ne] at *; omega)
 clear C
 apply Ah;intro K2 D
 apply Ah;intro K3 u
 apply Ao 1 [0,21]
 rw [Am];simp +decide only [go_sem,hd,a,f]
 (repeat' apply Aa)<;>first | refine u _ _ ?_ | (intros;omega) | (intros;simp_all;done) | (intros;simp only [Bool.or_eq_false_iff,Bool.or_eq_true,Bool.and_eq_true,Bool.and_eq_false_iff,decide_eq_true_eq,decide_eq_false_iff_not,bne_iff_ne] at *; omega)
 clear u
 refine A4 _ (by simp +decide only [go_sem]) (by simp +decide only [go_sem];rfl) (fun g=>?_) (fun g=>?_)
 ·simp only [Bool.or_eq_true,Bool.or_eq_false_iff,Bool.and_eq_true,Bool.and_eq_false_iff,decide_eq_true_eq,decide_eq_false_iff_not,Bool.not_eq_true',Bool.not_eq_false',Bool.not_eq_eq_eq_not,Bool.not_true,Bool.not_false] at g
  apply Ah;intro K4 z
  apply Ao 1 [2]
  rw [Am];simp +decide only [go_sem,hd,a,f]
  (repeat' apply Aa)<;>first | refine z _ _ ?_ | (intros;omega) | (intros;simp_all;done) | (intros;simp only [Bool.or_eq_false_iff,Bool.or_eq_true,Bool.and_eq_true,Bool.and_eq_false_iff,decide_eq_true_eq,decide_eq_false_iff_not,bne_iff_ne] at *; omega)
  clear z
  apply A2;simp +decide only [go_sem]
  refine Na b (by first | exact List.prefix_append _ _ | exact List.prefix_refl _ | (rw [List.append_assoc];exact List.prefix_append _ _)) (by first | exact List.prefix_append _ _ | exact List.prefix_refl _ | (rw [List.append_assoc];exact List.prefix_append _ _)) (by first | exact List.prefix_append _ _ | exact List.prefix_refl _ | (rw [List.append_assoc];exact List.prefix_append _ _)) (by simp +decide only [go_sem]) ⟨?_,rfl⟩
  rw [K0]
  congr 2
  symm
  by_cases hz:1≤s.size∧s.size≤32
  ·rw [U8 s hz.1 hz.2,hd,SY,Ac (by omega)];rfl
  ·exact Zav s hz
 simp only [Bool.or_eq_true,Bool.or_eq_false_iff,Bool.and_eq_true,Bool.and_eq_false_iff,decide_eq_true_eq,decide_eq_false_iff_not,Bool.not_eq_true',Bool.not_eq_false',Bool.not_eq_eq_eq_not,Bool.not_true,Bool.not_false] at g
 have K:1≤s.size∧s.size≤32∧97≤d∧d≤122:=by omega
 clear g
 have h:LU d=true:=by rw [SY];exact Ad (by omega)
 apply Br;simp only [go_sem]
 (repeat' apply Aa)<;>first | refine D _ _ ?_ | (intros;omega) | (intros;simp_all;done) | (intros;simp only [Bool.or_eq_false_iff,Bool.or_eq_true,Bool.and_eq_true,Bool.and_eq_false_iff,decide_eq_true_eq,decide_eq_false_iff_not,bne_iff_ne] at *; omega)
 clear D
 apply Ah;intro K5 w
 apply Ah;intro K6 t
 apply Ao 1 [23,24,25]
 rw [Am];simp +decide only [go_sem,hd,a,f]
 (repeat' apply Aa)<;>first | refine t _ _ ?_ | (intros;omega) | (intros;simp_all;done) | (intros;simp only [Bool.or_eq_false_iff,Bool.or_eq_true,Bool.and_eq_true,Bool.and_eq_false_iff,decide_eq_true_eq,decide_eq_false_iff_not,bne_iff_ne] at *; omega)
 clear t
 apply Ak
 refine AC (fun m e st=>∃ k:Nat,k≤s.size∧m=s.size-k∧LU d=true∧(s.data.toList.all fun c=>Uj c.toNat)=((s.data.toList.drop k).all fun c=>Uj c.toNat)∧e=[(23,true,.list (G2 s.data.toList) .none),(24,true,.val (.int .i64 s.size)),(25,true,.val (.int .i64 k))]∧st=⟨B,Rw,L⟩) s.size ⟨0,by omega,rfl,by assumption,rfl,rfl,rfl⟩ ?_
 rintro m e st ⟨k,O,rfl,J,p,rfl,rfl⟩ KR E
 obtain ⟨c,hc⟩:∃ c,(s.get! k).toNat=c:=⟨_,rfl⟩
 obtain ⟨x,hn1⟩:∃ x,(G2 s.data.toList).getD k .junk=x:=⟨_,rfl⟩
 apply Ah;intro K7 y
 apply Ao 1 [23,24,25,26]
 rw [Am];simp +decide only [go_sem,hn1,a]
 (repeat' apply Aa)<;>first | refine y _ _ ?_ | (intros;omega) | (intros;simp_all;done) | (intros;simp only [Bool.or_eq_false_iff,Bool.or_eq_true,Bool.and_eq_true,Bool.and_eq_false_iff,decide_eq_true_eq,decide_eq_false_iff_not,bne_iff_ne] at *; omega)
 clear y
 apply Ah;intro K8 v
 refine A4 _ (by simp +decide only [go_sem]) (by simp +decide only [go_sem];rfl) (fun g=>?_) (fun g=>?_)
 rotate_left
 ·simp only [Bool.or_eq_true,Bool.or_eq_false_iff,Bool.and_eq_true,Bool.and_eq_false_iff,decide_eq_true_eq,decide_eq_false_iff_not,Bool.not_eq_true',Bool.not_eq_false',Bool.not_eq_eq_eq_not,Bool.not_true,Bool.not_false] at g
  apply KG;simp +decide only [go_sem,hn1,a]
  (repeat' apply Aa)<;>first | refine w _ _ ?_ | (intros;omega) | (intros;simp_all;done) | (intros;simp only [Bool.or_eq_false_iff,Bool.or_eq_true,Bool.and_eq_true,Bool.and_eq_false_iff,decide_eq_true_eq,decide_eq_false_iff_not,bne_iff_ne] at *; omega)
  clear w
  apply Ah;intro K9 q
  apply Ao 1 [2]
  rw [Am];simp +decide only [go_sem,hn1,a]
  (repeat' apply Aa)<;>first | refine q _ _ ?_ | (intros;omega) | (intros;simp_all;done) | (intros;simp only [Bool.or_eq_false_iff,Bool.or_eq_true,Bool.and_eq_true,Bool.and_eq_false_iff,decide_eq_true_eq,decide_eq_false_iff_not,bne_iff_ne] at *; omega)
  clear q
  apply A2;simp +decide only [go_sem]
  refine Na b (by first | exact List.prefix_append _ _ | exact List.prefix_refl _ | (rw [List.append_assoc];exact List.prefix_append _ _)) (by first | exact List.prefix_append _ _ | exact List.prefix_refl _ | (rw [List.append_assoc];exact List.prefix_append _ _)) (by first | exact List.prefix_append _ _ | exact List.prefix_refl _ | (rw [List.append_assoc];exact List.prefix_append _ _)) (by simp +decide only [go_sem]) ⟨?_,rfl⟩
  rw [K0]
  have:k=s.size:=by omega
  subst this
  rw [U8 s (by omega) (by omega),hd,h,p,List.drop_eq_nil_of_le (by omega)];rfl
 simp only [Bool.or_eq_true,Bool.or_eq_false_iff,Bool.and_eq_true,Bool.and_eq_false_iff,decide_eq_true_eq,decide_eq_false_iff_not,Bool.not_eq_true',Bool.not_eq_false',Bool.not_eq_eq_eq_not,Bool.not_true,Bool.not_false] at g
 have i:=Zd9 s (fun c=>Uj c.toNat) k (by omega)
 simp only [hc] at i
 rw [Zb9 c] at i
 have hn2:=Zb4 s k (by omega)
 rw [hn1,hc] at hn2
 subst hn2
 apply Br;simp only [go_sem]
 (repeat' apply Aa)<;>first | refine v _ _ ?_ | (intros;omega) | (intros;simp_all;done) | (intros;simp only [Bool.or_eq_false_iff,Bool.or_eq_true,Bool.and_eq_true,Bool.and_eq_false_iff,decide_eq_true_eq,decide_eq_false_iff_not,bne_iff_ne] at *; omega)
 clear v
 apply Ah;intro K10 o
 apply Ak
 apply Ah;intro K11 j
 apply Ao 1 [4,23,24,25]
 rw [Am];simp +decide only [go_sem,hn1,a]
 (repeat' apply Aa)<;>first | refine j _ _ ?_ | (intros;omega) | (intros;simp_all;done) | (intros;simp only [Bool.or_eq_false_iff,Bool.or_eq_true,Bool.and_eq_true,Bool.and_eq_false_iff,decide_eq_true_eq,decide_eq_false_iff_not,bne_iff_ne] at *; omega)
 clear j
 apply Ah;intro K12 l
 apply Ao 1 [23,24,25,46]
 rw [Am];simp +decide only [go_sem,hn1,a]
 (repeat' apply Aa)<;>first | refine l _ _ ?_ | (intros;omega) | (intros;simp_all;done) | (intros;simp only [Bool.or_eq_false_iff,Bool.or_eq_true,Bool.and_eq_true,Bool.and_eq_false_iff,decide_eq_true_eq,decide_eq_false_iff_not,bne_iff_ne] at *; omega)
 clear l
 refine A4 _ (by simp +decide only [go_sem]) (by simp +decide only [go_sem];rfl) (fun g=>?_) (fun g=>?_)
 ·simp only [Bool.or_eq_true,Bool.or_eq_false_iff,Bool.and_eq_true,Bool.and_eq_false_iff,decide_eq_true_eq,decide_eq_false_iff_not,Bool.not_eq_true',Bool.not_eq_false',Bool.not_eq_eq_eq_not,Bool.not_true,Bool.not_false] at g
  apply Ah;intro K13 n
  apply Ao 1 [2]
  rw [Am];simp +decide only [go_sem,hn1,a]
  (repeat' apply Aa)<;>first | refine n _ _ ?_ | (intros;omega) | (intros;simp_all;done) | (intros;simp only [Bool.or_eq_false_iff,Bool.or_eq_true,Bool.and_eq_true,Bool.and_eq_false_iff,decide_eq_true_eq,decide_eq_false_iff_not,bne_iff_ne] at *; omega)
  clear n
  apply A2;simp +decide only [go_sem]
  refine Na b (by first | exact List.prefix_append _ _ | exact List.prefix_refl _ | (rw [List.append_assoc];exact List.prefix_append _ _)) (by first | exact List.prefix_append _ _ | exact List.prefix_refl _ | (rw [List.append_assoc];exact List.prefix_append _ _)) (by first | exact List.prefix_append _ _ | exact List.prefix_refl _ | (rw [List.append_assoc];exact List.prefix_append _ _)) (by simp +decide only [go_sem]) ⟨?_,rfl⟩
  rw [K0]
  rw [U8 s (by omega) (by omega),hd,h,p,i,Ac (by omega)];rfl
 simp only [Bool.or_eq_true,Bool.or_eq_false_iff,Bool.and_eq_true,Bool.and_eq_false_iff,decide_eq_true_eq,decide_eq_false_iff_not,Bool.not_eq_true',Bool.not_eq_false',Bool.not_eq_eq_eq_not,Bool.not_true,Bool.not_false] at g
 apply Br;simp only [go_sem]
 (repeat' apply Aa)<;>first | refine o _ _ ?_ | (intros;omega) | (intros;simp_all;done) | (intros;simp only [Bool.or_eq_false_iff,Bool.or_eq_true,Bool.and_eq_true,Bool.and_eq_false_iff,decide_eq_true_eq,decide_eq_false_iff_not,bne_iff_ne] at *; omega)
 clear o
 apply Ao 1 [23,24,25]
 rw [Am];simp +decide only [go_sem,hn1,a]
 (repeat' apply Aa)<;>first | refine E (s.size-(k+1)) _ _ ?_ ⟨k+1,?_,rfl,?_,?_,?_,rfl⟩ | (intros;omega) | (intros;simp_all;done)
 ·omega
 ·omega
 ·exact h
 ·rw [p,i,Ad (by omega)];rfl
 ·simp
def ER (a b:ByteArray):Int:=Lib.compareBytes a.data.toList b.data.toList
theorem Zk (w0:World) (st:St) (a b:ByteArray):ACalls Tryz.prog w0 141 [.val (.string a),.val (.string b)] st fun v s'=>v = .val (.int .i64 (ER a b))∧s'=st :=
 Nn (A1 Tryz.func141 rfl (by decide)) rfl fun M w d h c=>by
  have:=UP (us:=[.string a,.string b]) c
  subst this
  exact (Tryz.strings_Compare a b w).mono fun e i ⟨f,g⟩=>⟨f,g▸Below.refl _ _⟩
theorem Zcf (w0:World) (st:St) (hT:Lib.Utf8Tabs 0 1 w0) (s:ByteArray) (hs:s.size≤maxLen):ACalls Tryz.prog w0 115 [.val (.string s)] st fun v s'=>v = .val (.bool (Lib.validD s.data.toList))∧s'=st :=
 Nn (A1 Tryz.func115 rfl (by decide)) rfl fun M w b c a=>by
  have:=UP (us:=[.string s]) a
  subst this
  exact Any.utf8_ValidString Tryz.laysValid s w hs (Utf8Tabs_below hT c)
def BV (v:Vl):List Vl:=if v.kind=8∨v.kind=10 then v.list else if v.kind=9 then v.fields.map (·.2) else []
@[go_sem] theorem ZgS (l:List Vl):(∀ y∈Fv l,y.cells.length=6)↔True:=iff_true_intro (by
 rw [GG];intro y a
 obtain ⟨v,_,rfl⟩:=List.mem_map.1 a
 exact v.cs_length)
@[go_sem] theorem Zkh (l:List Vl):(∀ y∈Fv l,y.cells.length=6∧A5 y=true)↔True:=iff_true_intro (by
 rw [GG];intro y a
 obtain ⟨v,_,rfl⟩:=List.mem_map.1 a
 exact ⟨v.cs_length,rfl⟩)
@[go_sem] theorem ZiF (l:List Vl):(Fv l).map AV.pub=Fv l:=by
 rw [GG,List.map_map]
 refine List.map_congr_left fun v _=>?_
 simp only [Function.comp,AV.pub,Vl.cs_pub]
theorem ZbO (l:List Vl) (k:Nat) (h:k<l.length):(Fv l).getD k .junk = .agg (l[k]).cs:=by
 simp [GG,List.getD,h]
theorem Zbx (l:List (ByteArray × Vl)) (k:Nat) (h:k<l.length):(J7 l).getD k .junk = .agg (.val (.string (l[k]).1)::(l[k]).2.cs):=by
 simp [Pj,List.getD,h]
theorem ZW (l:List (ByteArray × Vl)) (k:Nat) (h:k<l.length):Fv ((l.take (k+1)).map (·.2))=Fv ((l.take k).map (·.2))++[.agg (l[k]).2.cs]:=by
 rw [GG,GG,List.take_succ_eq_append_getElem h,List.map_append,List.map_append];rfl
theorem Yi (l:List (ByteArray × Vl)) (k:Nat) (h:k≤l.length):(Fv ((l.take k).map (·.2))).length=k:=by
 rw [QE,List.length_map,List.length_take];omega
theorem Zek (w0:World) (B:List (List AV)) (Rw:List RowA) (L:List LoopA) (v:Vl) (hl:v.list.length≤1000000000000) (hf:v.fields.length≤1000000000000) :
  ACalls Tryz.prog w0 187 [.agg v.cs] ⟨B,Rw,L⟩ fun r st=>r = .list (Fv (BV v)) .none∧st=⟨B,Rw,L⟩:=by
 refine ACalls.finP (EF (rs:=[.tmp 2]) Tryz.func187 rfl rfl Tryz.ntmps187 (A1 Tryz.func187 rfl (by decide)) (Nat.le_of_ble_eq_true rfl) ?_)
 intro M0 W0 U K Q b V
 have O:=XG v.fields
 simp only [Au]
 apply Ah;intro K1 E
 apply Ao 1 [1]
 rw [Am];simp +decide only [go_sem]
 (repeat' apply Aa)<;>first | refine E _ _ ?_ | (intros;omega) | (intros;simp_all;done) | (intros;simp only [Bool.or_eq_false_iff,Bool.or_eq_true,Bool.and_eq_true,Bool.and_eq_false_iff,decide_eq_true_eq,decide_eq_false_iff_not,bne_iff_ne] at *; omega)
 clear E
 apply Ah;intro K2 F
 apply Ah;intro K3 y
 apply Ao 1 [1,7]
 rw [Am];simp +decide only [go_sem]
 (repeat' apply Aa)<;>first | refine y _ _ ?_ | (intros;omega) | (intros;simp_all;done) | (intros;simp only [Bool.or_eq_false_iff,Bool.or_eq_true,Bool.and_eq_true,Bool.and_eq_false_iff,decide_eq_true_eq,decide_eq_false_iff_not,bne_iff_ne] at *; omega)
 clear y
 apply Ak
 apply Ah;intro K4 f
 apply Ah;intro K5 z
 apply Ao 1 [1,7,8]
 rw [Am];simp +decide only [go_sem]
 (repeat' apply Aa)<;>first | refine z _ _ ?_ | (intros;omega) | (intros;simp_all;done) | (intros;simp only [Bool.or_eq_false_iff,Bool.or_eq_true,Bool.and_eq_true,Bool.and_eq_false_iff,decide_eq_true_eq,decide_eq_false_iff_not,bne_iff_ne] at *; omega)
 clear z
 refine A4 _ (by simp +decide only [go_sem]) (by simp +decide only [go_sem];rfl) (fun a=>?_) (fun a=>?_)
 -- JOIN
 ·simp only [Bool.or_eq_true,Bool.or_eq_false_iff,Bool.and_eq_true,Bool.and_eq_false_iff,decide_eq_true_eq,decide_eq_false_iff_not,Bool.not_eq_true',Bool.not_eq_false',Bool.not_eq_eq_eq_not,Bool.not_true,Bool.not_false] at a
  apply Br;simp only [go_sem]
  (repeat' apply Aa)<;>first | refine f _ _ ?_ | (intros;omega) | (intros;simp_all;done) | (intros;simp only [Bool.or_eq_false_iff,Bool.or_eq_true,Bool.and_eq_true,Bool.and_eq_false_iff,decide_eq_true_eq,decide_eq_false_iff_not,bne_iff_ne] at *; omega)
  clear f
  refine A4 _ (by simp +decide only [go_sem]) (by simp +decide only [go_sem];rfl) (fun a=>?_) (fun a=>?_)
  ·simp only [Bool.or_eq_true,Bool.or_eq_false_iff,Bool.and_eq_true,Bool.and_eq_false_iff,decide_eq_true_eq,decide_eq_false_iff_not,Bool.not_eq_true',Bool.not_eq_false',Bool.not_eq_eq_eq_not,Bool.not_true,Bool.not_false] at a
   apply Ah;intro K6 w
   apply Ao 1 [2]
   rw [Am];simp +decide only [go_sem]
   (repeat' apply Aa)<;>first | refine w _ _ ?_ | (intros;omega) | (intros;simp_all;done) | (intros;simp only [Bool.or_eq_false_iff,Bool.or_eq_true,Bool.and_eq_true,Bool.and_eq_false_iff,decide_eq_true_eq,decide_eq_false_iff_not,bne_iff_ne] at *; omega)
   clear w
   apply A2;simp +decide only [go_sem]
   refine Na b (by first | exact List.prefix_append _ _ | exact List.prefix_refl _ | (rw [List.append_assoc];exact List.prefix_append _ _)) (by first | exact List.prefix_append _ _ | exact List.prefix_refl _ | (rw [List.append_assoc];exact List.prefix_append _ _)) (by first | exact List.prefix_append _ _ | exact List.prefix_refl _ | (rw [List.append_assoc];exact List.prefix_append _ _)) ?_ ⟨?_,rfl⟩
   ·simp +decide only [go_sem]
   ·simp only [go_sem]
    rw [BV,Ae (by omega)]
  simp only [Bool.or_eq_true,Bool.or_eq_false_iff,Bool.and_eq_true,Bool.and_eq_false_iff,decide_eq_true_eq,decide_eq_false_iff_not,Bool.not_eq_true',Bool.not_eq_false',Bool.not_eq_eq_eq_not,Bool.not_true,Bool.not_false] at a
  omega
 simp only [Bool.or_eq_true,Bool.or_eq_false_iff,Bool.and_eq_true,Bool.and_eq_false_iff,decide_eq_true_eq,decide_eq_false_iff_not,Bool.not_eq_true',Bool.not_eq_false',Bool.not_eq_eq_eq_not,Bool.not_true,Bool.not_false] at a
 apply Ao 1 [1,7,8]
 rw [Am];simp +decide only [go_sem]
 (repeat' apply Aa)<;>first | refine f _ _ ?_ | (intros;omega) | (intros;simp_all;done) | (intros;simp only [Bool.or_eq_false_iff,Bool.or_eq_true,Bool.and_eq_true,Bool.and_eq_false_iff,decide_eq_true_eq,decide_eq_false_iff_not,bne_iff_ne] at *; omega)
 clear f
 refine A4 _ (by simp +decide only [go_sem]) (by simp +decide only [go_sem];rfl) (fun a=>?_) (fun a=>?_)
 ·simp only [Bool.or_eq_true,Bool.or_eq_false_iff,Bool.and_eq_true,Bool.and_eq_false_iff,decide_eq_true_eq,decide_eq_false_iff_not,Bool.not_eq_true',Bool.not_eq_false',Bool.not_eq_eq_eq_not,Bool.not_true,Bool.not_false] at a
  apply Ah;intro K17 i
  apply Ao 1 [2]
  rw [Am];simp +decide only [go_sem]
  (repeat' apply Aa)<;>first | refine i _ _ ?_ | (intros;omega) | (intros;simp_all;done) | (intros;simp only [Bool.or_eq_false_iff,Bool.or_eq_true,Bool.and_eq_true,Bool.and_eq_false_iff,decide_eq_true_eq,decide_eq_false_iff_not,bne_iff_ne] at *; omega)
  clear i
  apply A2;simp +decide only [go_sem]
  refine Na b (by first | exact List.prefix_append _ _ | exact List.prefix_refl _ | (rw [List.append_assoc];exact List.prefix_append _ _)) (by first | exact List.prefix_append _ _ | exact List.prefix_refl _ | (rw [List.append_assoc];exact List.prefix_append _ _)) (by first | exact List.prefix_append _ _ | exact List.prefix_refl _ | (rw [List.append_assoc];exact List.prefix_append _ _)) ?_ ⟨?_,rfl⟩
  ·simp +decide only [go_sem]
  ·simp only [go_sem]
   rw [BV,Ae (by omega)]
 simp only [Bool.or_eq_true,Bool.or_eq_false_iff,Bool.and_eq_true,Bool.and_eq_false_iff,decide_eq_true_eq,decide_eq_false_iff_not,Bool.not_eq_true',Bool.not_eq_false',Bool.not_eq_eq_eq_not,Bool.not_true,Bool.not_false] at a
 apply Ah;intro K18 p
 apply Ao 1 [1,13]
 rw [Am];simp +decide only [go_sem]
 (repeat' apply Aa)<;>first | refine p _ _ ?_ | (intros;omega) | (intros;simp_all;done) | (intros;simp only [Bool.or_eq_false_iff,Bool.or_eq_true,Bool.and_eq_true,Bool.and_eq_false_iff,decide_eq_true_eq,decide_eq_false_iff_not,bne_iff_ne] at *; omega)
 clear p
 refine A4 _ (by simp +decide only [go_sem]) (by simp +decide only [go_sem];rfl) (fun a=>?_) (fun a=>?_)
 ·simp only [Bool.or_eq_true,Bool.or_eq_false_iff,Bool.and_eq_true,Bool.and_eq_false_iff,decide_eq_true_eq,decide_eq_false_iff_not,Bool.not_eq_true',Bool.not_eq_false',Bool.not_eq_eq_eq_not,Bool.not_true,Bool.not_false] at a
  apply Ah;intro K19 g
  apply Ao 1 [1,3]
  rw [Am];simp +decide only [go_sem]
  (repeat' apply Aa)<;>first | refine g _ _ ?_ | (intros;omega) | (intros;simp_all;done) | (intros;simp only [Bool.or_eq_false_iff,Bool.or_eq_true,Bool.and_eq_true,Bool.and_eq_false_iff,decide_eq_true_eq,decide_eq_false_iff_not,bne_iff_ne] at *; omega)
  clear g
  apply Ah;intro K20 t
  apply Ah;intro K21 u
  apply Ao 1 [3,16,17,18]
  rw [Am];simp +decide only [go_sem]
  (repeat' apply Aa)<;>first | refine u _ _ ?_ | (intros;omega) | (intros;simp_all;done) | (intros;simp only [Bool.or_eq_false_iff,Bool.or_eq_true,Bool.and_eq_true,Bool.and_eq_false_iff,decide_eq_true_eq,decide_eq_false_iff_not,bne_iff_ne] at *; omega)
  clear u
  apply Ak
  refine AC (fun m e st=>∃ (k:Nat) (o:Ev.Own) (r:List RowA) (X:List (List AV)),k≤v.fields.length∧m=v.fields.length-k∧Grow Rw 6 (Fv ((v.fields.take k).map (·.2))) o r ∧
   e=[(3,true,.list (Fv ((v.fields.take k).map (·.2))) o),(16,true,.list (J7 v.fields) .none),(17,true,.val (.int .i64 v.fields.length)),(18,true,.val (.int .i64 k))]∧st=⟨B++X,Rw++r,L⟩) v.fields.length ⟨0,.full,[],[v.cs],by omega,rfl,.nil _ _,rfl,by simp⟩ ?_
  rintro m e st ⟨k,o,r,X,N,rfl,G,rfl,rfl⟩ KR J
  obtain ⟨x,hx⟩:∃ x,(J7 v.fields).getD k .junk=x:=⟨_,rfl⟩
  have c:=VI (P:=Tryz.prog) RY (by rw [MR];rfl) (by decide) G
  have d:=Yi v.fields k N
  apply Ah;intro K22 s
  apply Ao 1 [3,16,17,18,19]
  rw [Am];simp +decide only [go_sem,hx,c,d]
  (repeat' apply Aa)<;>first | refine s _ _ ?_ | (intros;omega) | (intros;simp_all;done) | (intros;simp only [Bool.or_eq_false_iff,Bool.or_eq_true,Bool.and_eq_true,Bool.and_eq_false_iff,decide_eq_true_eq,decide_eq_false_iff_not,bne_iff_ne] at *; omega)
  clear s
  apply Ah;intro K23 n
  refine A4 _ (by simp +decide only [go_sem]) (by simp +decide only [go_sem];rfl) (fun a=>?_) (fun a=>?_)
  rotate_left
  ·simp only [Bool.or_eq_true,Bool.or_eq_false_iff,Bool.and_eq_true,Bool.and_eq_false_iff,decide_eq_true_eq,decide_eq_false_iff_not,Bool.not_eq_true',Bool.not_eq_false',Bool.not_eq_eq_eq_not,Bool.not_true,Bool.not_false] at a
   apply KG;simp +decide only [go_sem,hx,c,d]
   (repeat' apply Aa)<;>first | refine t _ _ ?_ | (intros;omega) | (intros;simp_all;done) | (intros;simp only [Bool.or_eq_false_iff,Bool.or_eq_true,Bool.and_eq_true,Bool.and_eq_false_iff,decide_eq_true_eq,decide_eq_false_iff_not,bne_iff_ne] at *; omega)
   clear t
   apply Ah;intro K24 q
   apply Ao 1 [2]
   rw [Am];simp +decide only [go_sem,hx,c,d]
   (repeat' apply Aa)<;>first | refine q _ _ ?_ | (intros;omega) | (intros;simp_all;done) | (intros;simp only [Bool.or_eq_false_iff,Bool.or_eq_true,Bool.and_eq_true,Bool.and_eq_false_iff,decide_eq_true_eq,decide_eq_false_iff_not,bne_iff_ne] at *; omega)
   clear q
   apply A2;simp +decide only [go_sem]
   refine Na b (by first | exact List.prefix_append _ _ | exact List.prefix_refl _ | (rw [List.append_assoc];exact List.prefix_append _ _)) (by first | exact List.prefix_append _ _ | exact List.prefix_refl _ | (rw [List.append_assoc];exact List.prefix_append _ _)) (by first | exact List.prefix_append _ _ | exact List.prefix_refl _ | (rw [List.append_assoc];exact List.prefix_append _ _)) ?_ ⟨?_,rfl⟩
   ·simp +decide only [go_sem]
   ·simp only [go_sem]
    rw [BV,Af (by omega),Ae (by omega),List.take_of_length_le (by omega)]
  simp only [Bool.or_eq_true,Bool.or_eq_false_iff,Bool.and_eq_true,Bool.and_eq_false_iff,decide_eq_true_eq,decide_eq_false_iff_not,Bool.not_eq_true',Bool.not_eq_false',Bool.not_eq_eq_eq_not,Bool.not_true,Bool.not_false] at a
  have D:k<v.fields.length:=by omega
  have hx2:=Zbx v.fields k D
  rw [hx] at hx2
  subst hx2
  have H:=ZW v.fields k D
  have C:=Yi v.fields (k+1) (by omega)
  apply Br;simp only [go_sem]
  (repeat' apply Aa)<;>first | refine n _ _ ?_ | (intros;omega) | (intros;simp_all;done) | (intros;simp only [Bool.or_eq_false_iff,Bool.or_eq_true,Bool.and_eq_true,Bool.and_eq_false_iff,decide_eq_true_eq,decide_eq_false_iff_not,bne_iff_ne] at *; omega)
  clear n
  apply Ah;intro K25 h
  apply Ak
  apply Ah;intro K26 j
  apply Ao 1 [3,5,16,17,18]
  rw [Am];simp +decide only [go_sem,hx,c,d]
  (repeat' apply Aa)<;>first | refine j _ _ ?_ | (intros;omega) | (intros;simp_all;done) | (intros;simp only [Bool.or_eq_false_iff,Bool.or_eq_true,Bool.and_eq_true,Bool.and_eq_false_iff,decide_eq_true_eq,decide_eq_false_iff_not,bne_iff_ne] at *; omega)
  clear j
  apply Ao 1 [3,16,17,18]
  rw [Am];simp +decide only [go_sem,hx,c,d]
  (repeat' apply Aa)<;>first | refine h _ _ ?_ | (intros;omega) | (intros;simp_all;done) | (intros;simp only [Bool.or_eq_false_iff,Bool.or_eq_true,Bool.and_eq_true,Bool.and_eq_false_iff,decide_eq_true_eq,decide_eq_false_iff_not,bne_iff_ne] at *; omega)
  clear h
  apply Ao 1 [3,16,17,18]
  rw [Am];simp +decide only [go_sem,hx,c,d]
  (repeat' apply Aa)<;>first | refine J (v.fields.length-(k+1)) _ _ ?_ ⟨k+1,.row Rw.length,[.grow (k+1) 6],_,?_,rfl,.more _ _ _ _ C,?_,rfl⟩ | (intros;omega) | (intros;simp_all;done)
  ·omega
  ·omega
  ·rw [H];simp
 simp only [Bool.or_eq_true,Bool.or_eq_false_iff,Bool.and_eq_true,Bool.and_eq_false_iff,decide_eq_true_eq,decide_eq_false_iff_not,Bool.not_eq_true',Bool.not_eq_false',Bool.not_eq_eq_eq_not,Bool.not_true,Bool.not_false] at a
 apply Br;simp only [go_sem]
 (repeat' apply Aa)<;>first | refine F _ _ ?_ | (intros;omega) | (intros;simp_all;done) | (intros;simp only [Bool.or_eq_false_iff,Bool.or_eq_true,Bool.and_eq_true,Bool.and_eq_false_iff,decide_eq_true_eq,decide_eq_false_iff_not,bne_iff_ne] at *; omega)
 clear F
 apply Ah;intro K27 l
 apply Ao 1 [2]
 rw [Am];simp +decide only [go_sem]
 (repeat' apply Aa)<;>first | refine l _ _ ?_ | (intros;omega) | (intros;simp_all;done) | (intros;simp only [Bool.or_eq_false_iff,Bool.or_eq_true,Bool.and_eq_true,Bool.and_eq_false_iff,decide_eq_true_eq,decide_eq_false_iff_not,bne_iff_ne] at *; omega)
 clear l
 apply A2;simp +decide only [go_sem]
 refine Na b (by first | exact List.prefix_append _ _ | exact List.prefix_refl _ | (rw [List.append_assoc];exact List.prefix_append _ _)) (by first | exact List.prefix_append _ _ | exact List.prefix_refl _ | (rw [List.append_assoc];exact List.prefix_append _ _)) (by first | exact List.prefix_append _ _ | exact List.prefix_refl _ | (rw [List.append_assoc];exact List.prefix_append _ _)) ?_ ⟨?_,rfl⟩
 ·simp +decide only [go_sem]
 ·simp only [go_sem]
  rw [BV,Af (by omega),Af (by omega)];rfl
mutual
def EQ (lv:Nat):Vl→List (Nat × Vl)
 | .mk k i s t l f=>(lv,.mk k i s t l f)::(if k=8∨k=10 then ZaS (lv+1) l else if k=9 then Za6 (lv+1) f else [])
def ZaS (lv:Nat):List Vl→List (Nat × Vl)
 | []=>[]
 | v::r=>EQ lv v++ZaS lv r
def Za6 (lv:Nat):List (ByteArray × Vl)→List (Nat × Vl)
 | []=>[]
 | (_,v)::r=>EQ lv v++Za6 lv r
end
theorem Yx (lv:Nat):∀ l,ZaS lv l=l.flatMap (EQ lv)
 | []=>rfl
 | v::r=>by simp [ZaS,Yx lv r]
theorem Zs (lv:Nat):∀ l,Za6 lv l=(l.map (·.2)).flatMap (EQ lv)
 | []=>rfl
 | (_,v)::r=>by simp [Za6,Zs lv r]
theorem Nw (lv:Nat) (v:Vl):EQ lv v=(lv,v)::(BV v).flatMap (EQ (lv+1)):=by
 obtain ⟨k,i,s,t,l,f⟩:=v
 simp only [EQ,BV,Vl.kind,Vl.list,Vl.fields,Yx,Zs]
 by_cases h1:k=8∨k=10
 ·simp only [h1,if_true]
 ·by_cases h2:k=9
  ·subst h2;simp
  ·simp only [h1,h2,if_false,List.flatMap_nil]
theorem XN {α β:Type} (f:α→List β) (l:List α) (q:Nat) (h:q<l.length):((l.take (q+1)).flatMap f).length=((l.take q).flatMap f).length+(f l[q]).length:=by
 rw [List.take_succ_eq_append_getElem h,List.flatMap_append,List.length_append];simp
theorem Yv {α β:Type} (f:α→List β) (l:List α) (q:Nat) (h:q<l.length) (j:Nat) (x:β) (hx:(f l[q])[j]? = some x):(l.flatMap f)[((l.take q).flatMap f).length+j]? = some x:=by
 have e:l=l.take q++l[q]::l.drop (q+1):=by rw [←List.drop_eq_getElem_cons h,List.take_append_drop]
 have a:l.flatMap f=(l.take q).flatMap f++(f l[q]++(l.drop (q+1)).flatMap f):=by
  conv=>lhs;rw [e]
  rw [List.flatMap_append,List.flatMap_cons]
 rw [a,List.getElem?_append_right (by omega),Nat.add_sub_cancel_left,List.getElem?_append_left (Ag.1 hx).1,hx]
theorem Nu:∀ (l:List Vl) (v:Vl),v∈l→v.size≤G8 l
 | [],_,h=>by simp at h
 | a::r,v,h=>by
  rcases List.mem_cons.1 h with rfl | h
  ·simp [G8]
  ·have:=Nu r v h
   simp [G8];omega
theorem NE:∀ (l:List (ByteArray × Vl)) (p:ByteArray × Vl),p∈l→p.2.size≤Gk l
 | [],_,h=>by simp at h
 | (n,a)::r,p,h=>by
  rcases List.mem_cons.1 h with rfl | h
  ·simp [Gk]
  ·have:=NE r p h
   simp [Gk];omega
theorem Vl.size_pos (v:Vl):0<v.size:=by cases v;simp [Vl.size];omega
theorem Ny:∀ l:List Vl,l.length≤G8 l
 | []=>Nat.le_refl _
 | v::r=>by have:=Ny r;have:=v.size_pos;simp [G8];omega
theorem NW:∀ l:List (ByteArray × Vl),l.length≤Gk l
 | []=>Nat.le_refl _
 | (n,v)::r=>by have:=NW r;have:=v.size_pos;simp [Gk];omega
theorem Vl.size_eq (v:Vl):v.size=1+G8 v.list+Gk v.fields:=by cases v;simp [Vl.size,Vl.list,Vl.fields]
theorem ZbI (v x:Vl) (h:x∈BV v):x.size<v.size:=by
 have e:=v.size_eq
 unfold BV at h
 split at h
 ·have:=Nu _ _ h;omega
 ·split at h
  ·obtain ⟨p,a,rfl⟩:=List.mem_map.1 h
   have:=NE _ _ a;omega
  ·simp at h
theorem It (v:Vl):v.list.length<v.size∧v.fields.length<v.size∧(BV v).length<v.size:=by
 have e:=v.size_eq
 have b:=Ny v.list
 have a:=NW v.fields
 refine ⟨by omega,by omega,?_⟩
 unfold BV
 split
 ·omega
 ·split
  ·simp;omega
  ·simp;omega
mutual
def Vl.wide:Vl→Bool
 | .mk _ _ _ _ l f=>decide (l.length≤1000000000000)&&decide (f.length≤1000000000000)&&Vt l&&UZ f
def Vt:List Vl→Bool
 | []=>true
 | v::r=>v.wide&&Vt r
def UZ:List (ByteArray × Vl)→Bool
 | []=>true
 | (_,v)::r=>v.wide&&UZ r
end
theorem Ua:∀ l,Vt l=true↔∀ v∈l,v.wide=true
 | []=>by simp [Vt]
 | v::r=>by simp [Vt,Ua r]
theorem Vk:∀ l,UZ l=true↔∀ p∈l,p.2.wide=true
 | []=>by simp [UZ]
 | (n,v)::r=>by simp [UZ,Vk r]
theorem Vl.wide_iff (v:Vl):v.wide=true↔v.list.length≤1000000000000∧v.fields.length≤1000000000000∧(∀ x∈v.list,x.wide=true)∧∀ p∈v.fields,p.2.wide=true:=by
 cases v;simp only [Vl.wide,Bool.and_eq_true,decide_eq_true_eq,Ua,Vk,Vl.list,Vl.fields,and_assoc]
theorem WI {v x:Vl} (h:v.wide=true) (hx:x∈BV v):x.wide=true:=by
 obtain ⟨_,_,a,b⟩:=v.wide_iff.1 h
 unfold BV at hx
 split at hx
 ·exact a x hx
 ·split at hx
  ·obtain ⟨p,c,rfl⟩:=List.mem_map.1 hx
   exact b p c
  ·simp at hx
theorem Hk:∀ (k:Nat) (v:Vl),v.size≤k→v.size≤1000000000000→v.wide=true
 | 0,v,h,_=>by have:=v.size_pos;omega
 | k+1,v,h,h2=>by
  have e:=v.size_eq
  obtain ⟨a,b,_⟩:=It v
  refine v.wide_iff.2 ⟨by omega,by omega,fun x d=>?_,fun p c=>?_⟩
  ·have:=Nu _ _ d;exact Hk k x (by omega) (by omega)
  ·have:=NE _ _ c;exact Hk k p.2 (by omega) (by omega)
mutual
def Vl.depth:Vl→Nat
 | .mk _ _ _ _ l f=>1+max (HT l) (HC f)
def HT:List Vl→Nat
 | []=>0
 | t::r=>max t.depth (HT r)
def HC:List (ByteArray × Vl)→Nat
 | []=>0
 | (_,t)::r=>max t.depth (HC r)
end
theorem Ia:∀ (l:List Vl) (d:Nat),HT l≤d↔∀ v∈l,v.depth≤d
 | [],d=>by simp [HT]
 | v::r,d=>by simp [HT,Nat.max_le,Ia r d]
theorem Jg:∀ (l:List (ByteArray × Vl)) (d:Nat),HC l≤d↔∀ v∈l,v.2.depth≤d
 | [],d=>by simp [HC]
 | (_,t)::r,d=>by simp [HC,Nat.max_le,Jg r d]
theorem Vl.depth_eq (v:Vl):v.depth=1+Max.max (HT v.list) (HC v.fields):=by cases v;simp [Vl.depth,Vl.list,Vl.fields]
theorem depth_part {v x:Vl} (h:x∈BV v):x.depth<v.depth:=by
 have e:=v.depth_eq
 unfold BV at h
 split at h
 ·have:=(Ia v.list _).1 (Nat.le_refl _) x h;omega
 ·split at h
  ·obtain ⟨p,a,rfl⟩:=List.mem_map.1 h
   have:=(Jg v.fields _).1 (Nat.le_refl _) p a;omega
  ·simp at h
mutual
theorem Vl.depth_size:∀ v:Vl,v.depth≤v.size
 | .mk _ _ _ _ l f=>by have:=QS l;have:=QC f;simp only [Vl.depth,Vl.size];omega
theorem QS:∀ l:List Vl,HT l≤G8 l
 | []=>Nat.le_refl _
 | v::r=>by have:=v.depth_size;have:=QS r;simp only [HT,G8];omega
theorem QC:∀ l:List (ByteArray × Vl),HC l≤Gk l
 | []=>Nat.le_refl _
 | (_,v)::r=>by have:=v.depth_size;have:=QC r;simp only [HC,Gk];omega
end
def Zbp (p:Nat × Vl):List AV:=[.val (.int .i64 p.1),.agg p.2.cs]
def ZE (w0:World) (items:List (List AV)) (k:Nat) (J:Nat→St→Prop) (Jx:St→Prop):Prop :=
 ∀ i SB SR SL x XB XL,J i ⟨SB,SR,SL⟩→items[i]? = some x→Vq Tryz.prog w0 k x ⟨SB++XB,SR,SL++XL⟩ fun r s'=>∃ TB TR TL b,r = .val (.bool b)∧s'=⟨TB++XB,TR,TL++XL⟩∧TB.length=SB.length∧SR.length≤TR.length∧TL.length=SL.length∧(b=true→J (i+1) ⟨TB,TR,TL⟩)∧(b=false→Jx ⟨TB,TR,TL⟩)
def Zaj (w0:World) (items:List (List AV)) (k:Nat) (J:Nat→St→Prop) (Jx:St→Prop) (v:Vl):Prop :=
 ∀ (lv i:Nat) (lvi:Int) SB SR SL XB XL,lv+v.depth≤4611686018427387904→v.wide=true→J i ⟨SB,SR,SL⟩→lvi=lv→(∀ j x,(EQ lv v)[j]? = some x→items[i+j]? = some (Zbp x)) →
  ACalls Tryz.prog w0 123 [.agg v.cs,.val (.int .i64 lvi),.yld k] ⟨SB++XB,SR,SL++XL⟩ fun r s'=>∃ TB TR TL XB' b,r = .val (.bool b)∧s'=⟨TB++(XB++XB'),TR,TL++XL⟩∧TB.length=SB.length∧SR.length≤TR.length∧TL.length=SL.length∧(b=true→J (i+(EQ lv v).length) ⟨TB,TR,TL⟩)∧(b=false→Jx ⟨TB,TR,TL⟩)
theorem Z0 (w0:World) (items:List (List AV)) (k:Nat) (J:Nat→St→Prop) (Jx:St→Prop) (hY:ZE w0 items k J Jx) (v:Vl) (ih:∀ x,x.size<v.size→Zaj w0 items k J Jx x):Zaj w0 items k J Jx v:=by
 intro d i ad SB SR SL XB XL ah g h0 hle D
 subst hle
 obtain ⟨C,N,_⟩:=v.wide_iff.1 g
 have Y:(BV v).length≤1000000000000:=by
  unfold BV
  split
  ·exact C
  ·split
   ·simpa using N
   ·simp
 refine EF (rs:=[.tmp 6]) Tryz.func123 rfl rfl Tryz.ntmps123 (A1 Tryz.func123 rfl (by decide)) (Nat.le_of_ble_eq_true rfl) ?_
 intro M0 W0 hN ae ai U hu
 obtain ⟨af,ag,V⟩:=It v
 have f:=Nw d v
 have c:=QE (BV v)
 obtain ⟨ps,hpe⟩:∃ ps,BV v=ps:=⟨_,rfl⟩
 have w:items[i]? = some (Zbp (d,v)):=by
  have:=D 0 (d,v) (by rw [f];rfl)
  simpa using this
 simp only [Au]
 apply Ah;intro K1 G
 apply Ao 1 [1,2,3]
 rw [Am];simp +decide only [go_sem]
 (repeat' apply Aa)<;>first | refine G _ _ ?_ | (intros;omega) | (intros;simp_all;done) | (intros;simp only [Bool.or_eq_false_iff,Bool.or_eq_true,Bool.and_eq_true,Bool.and_eq_false_iff,decide_eq_true_eq,decide_eq_false_iff_not,bne_iff_ne] at *; omega)
 clear G
 apply Ah;intro K2 K
 apply Ah;intro K3 u
 apply Ao 2 [1,2,3,13]
 rw [Am];simp +decide only [go_sem]
 (repeat' apply Aa)<;>first | refine ZC _ (fun _=>hY i SB SR SL _ (XB++[v.cs]) XL h0 w) (fun r s' hp _=>?_) | (intros;omega) | (intros;simp_all;done) | (intros;simp only [Bool.or_eq_false_iff,Bool.or_eq_true,Bool.and_eq_true,Bool.and_eq_false_iff,decide_eq_true_eq,decide_eq_false_iff_not,bne_iff_ne] at *; omega)
 obtain ⟨TB,TR,TL,b,rfl,rfl,l1,l2,l3,ab,hp2⟩:=hp rfl
 rw [←l1]
 rw [Am];simp +decide only [go_sem]
 (repeat' apply Aa)<;>first | refine u _ _ ?_ | (intros;omega) | (intros;simp_all;done) | (intros;simp only [Bool.or_eq_false_iff,Bool.or_eq_true,Bool.and_eq_true,Bool.and_eq_false_iff,decide_eq_true_eq,decide_eq_false_iff_not,bne_iff_ne] at *; omega)
 clear u
 refine A4 _ (by simp +decide only [go_sem]) (by simp +decide only [go_sem];rfl) (fun hb=>?_) (fun hb=>?_)
 ·simp only [Bool.not_eq_true'] at hb
  apply Ah;intro K4 F
  apply Ao 1 [6]
  rw [Am];simp +decide only [go_sem]
  (repeat' apply Aa)<;>first | refine F _ _ ?_ | (intros;omega) | (intros;simp_all;done) | (intros;simp only [Bool.or_eq_false_iff,Bool.or_eq_true,Bool.and_eq_true,Bool.and_eq_false_iff,decide_eq_true_eq,decide_eq_false_iff_not,bne_iff_ne] at *; omega)
  clear F
  apply A2;simp +decide only [go_sem]
  exact ⟨TB,TR,TL,[v.cs],false,rfl,rfl,l1,l2,l3,fun h=>(by cases h),fun _=>hp2 hb⟩
 simp only [Bool.not_eq_false'] at hb
 apply Br;simp only [go_sem]
 (repeat' apply Aa)<;>first | refine K _ _ ?_ | (intros;omega) | (intros;simp_all;done) | (intros;simp only [Bool.or_eq_false_iff,Bool.or_eq_true,Bool.and_eq_true,Bool.and_eq_false_iff,decide_eq_true_eq,decide_eq_false_iff_not,bne_iff_ne] at *; omega)
 clear K
 apply Ah;intro K5 z
 apply Ah;intro K6 t
 apply Ao 2 [1,2,15,16,17]
 rw [Am];simp +decide only [go_sem]
 (repeat' apply Aa)<;>first | refine Oz _ (Zek w0 _ TR _ v C N) ?_ | (intros;omega) | (intros;simp_all;done) | (intros;simp only [Bool.or_eq_false_iff,Bool.or_eq_true,Bool.and_eq_true,Bool.and_eq_false_iff,decide_eq_true_eq,decide_eq_false_iff_not,bne_iff_ne] at *; omega)
 rw [hpe] at c V Y f ⊢
 rw [Am];simp +decide only [go_sem]
 (repeat' apply Aa)<;>first | refine t _ _ ?_ | (intros;omega) | (intros;simp_all;done) | (intros;simp only [Bool.or_eq_false_iff,Bool.or_eq_true,Bool.and_eq_true,Bool.and_eq_false_iff,decide_eq_true_eq,decide_eq_false_iff_not,bne_iff_ne] at *; omega)
 clear t
 apply Ak
 refine AC (fun m e st=>∃ (q:Nat) (UB:List (List AV)) (UR:List RowA) (UL:List LoopA) (XB':List (List AV)),q≤ps.length∧m=ps.length-q∧J (i+1+((ps.take q).flatMap (EQ (d+1))).length) ⟨UB,UR,UL⟩∧UB.length=SB.length∧SR.length≤UR.length∧UL.length=SL.length∧e=[(1,true,.val (.int .i64 d)),(2,true,.yld k),(15,true,.list (Fv ps) .none),(16,true,.val (.int .i64 ps.length)),(17,true,.val (.int .i64 q))]∧st=⟨UB++(XB++XB'),UR,UL++XL⟩) ps.length ⟨0,TB,TR,TL,[v.cs],by omega,rfl,by simpa using ab hb,l1,l2,l3,rfl,by simp⟩ ?_
 rintro m e st ⟨q,UB,UR,UL,XB',hq,rfl,hj,m1,m2,m3,rfl,rfl⟩ KR Z
 obtain ⟨x,hx⟩:∃ x,(Fv ps).getD q .junk=x:=⟨_,rfl⟩
 apply Ah;intro K7 E
 apply Ao 1 [1,2,15,16,17,18]
 rw [Am];simp +decide only [go_sem,hx,c]
 (repeat' apply Aa)<;>first | refine E _ _ ?_ | (intros;omega) | (intros;simp_all;done) | (intros;simp only [Bool.or_eq_false_iff,Bool.or_eq_true,Bool.and_eq_true,Bool.and_eq_false_iff,decide_eq_true_eq,decide_eq_false_iff_not,bne_iff_ne] at *; omega)
 clear E
 apply Ah;intro K8 y
 refine A4 _ (by simp +decide only [go_sem]) (by simp +decide only [go_sem];rfl) (fun hb=>?_) (fun hb=>?_)
 rotate_left
 ·simp only [Bool.or_eq_true,Bool.or_eq_false_iff,Bool.and_eq_true,Bool.and_eq_false_iff,decide_eq_true_eq,decide_eq_false_iff_not,Bool.not_eq_true',Bool.not_eq_false',Bool.not_eq_eq_eq_not,Bool.not_true,Bool.not_false] at hb
  apply KG;simp +decide only [go_sem,hx,c]
  (repeat' apply Aa)<;>first | refine z _ _ ?_ | (intros;omega) | (intros;simp_all;done) | (intros;simp only [Bool.or_eq_false_iff,Bool.or_eq_true,Bool.and_eq_true,Bool.and_eq_false_iff,decide_eq_true_eq,decide_eq_false_iff_not,bne_iff_ne] at *; omega)
  clear z
  apply Ah;intro K9 s
  apply Ao 1 [6]
  rw [Am];simp +decide only [go_sem,hx,c]
  (repeat' apply Aa)<;>first | refine s _ _ ?_ | (intros;omega) | (intros;simp_all;done) | (intros;simp only [Bool.or_eq_false_iff,Bool.or_eq_true,Bool.and_eq_true,Bool.and_eq_false_iff,decide_eq_true_eq,decide_eq_false_iff_not,bne_iff_ne] at *; omega)
  clear s
  apply A2;simp +decide only [go_sem]
  refine ⟨UB,UR,UL,XB',true,rfl,rfl,m1,m2,m3,fun _=>?_,fun h=>(by cases h)⟩
  rw [List.take_of_length_le (by omega)] at hj
  rw [f,List.length_cons,show i+((ps.flatMap (EQ (d+1))).length+1)=i+1+(ps.flatMap (EQ (d+1))).length by omega]
  exact hj
 simp only [Bool.or_eq_true,Bool.or_eq_false_iff,Bool.and_eq_true,Bool.and_eq_false_iff,decide_eq_true_eq,decide_eq_false_iff_not,Bool.not_eq_true',Bool.not_eq_false',Bool.not_eq_eq_eq_not,Bool.not_true,Bool.not_false] at hb
 have a:q<ps.length:=by omega
 have hx2:=ZbO ps q a
 rw [hx] at hx2
 subst hx2
 have O:=XN (EQ (d+1)) ps q a
 have H:∀ j x,(EQ (d+1) (ps[q]'a))[j]? = some x→items[i+1+((ps.take q).flatMap (EQ (d+1))).length+j]? = some (Zbp x):=fun j x aa=>by
  have h1:=Yv (EQ (d+1)) ps q a j x aa
  have h2:=D (((ps.take q).flatMap (EQ (d+1))).length+j+1) x (by rw [f,List.getElem?_cons_succ,h1])
  rw [show i+1+((ps.take q).flatMap (EQ (d+1))).length+j=i+(((ps.take q).flatMap (EQ (d+1))).length+j+1) by omega]
  exact h2
 apply Br;simp only [go_sem]
 (repeat' apply Aa)<;>first | refine y _ _ ?_ | (intros;omega) | (intros;simp_all;done) | (intros;simp only [Bool.or_eq_false_iff,Bool.or_eq_true,Bool.and_eq_true,Bool.and_eq_false_iff,decide_eq_true_eq,decide_eq_false_iff_not,bne_iff_ne] at *; omega)
 clear y
 apply Ah;intro K10 p
 apply Ak
 apply Ah;intro K11 l
 apply Ao 1 [1,2,8,15,16,17]
 rw [Am];simp +decide only [go_sem,hx,c]
 (repeat' apply Aa)<;>first | refine l _ _ ?_ | (intros;omega) | (intros;simp_all;done) | (intros;simp only [Bool.or_eq_false_iff,Bool.or_eq_true,Bool.and_eq_true,Bool.and_eq_false_iff,decide_eq_true_eq,decide_eq_false_iff_not,bne_iff_ne] at *; omega)
 clear l
 apply Ah;intro K12 n
 apply Ao 2 [1,2,15,16,17,26]
 rw [Am];simp +decide only [go_sem,hx,c]
 (repeat' apply Aa)<;>first | refine Ub _ (ih (ps[q]'a) (ZbI v _ (by rw [hpe];exact List.getElem_mem a)) (d+1) _ _ UB UR UL (XB++(XB'++[(ps[q]'a).cs])) XL (by have:=depth_part (v:=v) (x:=ps[q]'a) (by rw [hpe];exact List.getElem_mem a);omega) (WI g (by rw [hpe];exact List.getElem_mem a)) hj (by omega) H) ?_ | (intros;omega) | (intros;simp_all;done) | (intros;simp only [Bool.or_eq_false_iff,Bool.or_eq_true,Bool.and_eq_true,Bool.and_eq_false_iff,decide_eq_true_eq,decide_eq_false_iff_not,bne_iff_ne] at *; omega)
 rintro r s' ⟨VB,VR,VL,XB2,b2,rfl,rfl,n1,n2,n3,Q,np2⟩
 rw [Am];simp +decide only [go_sem,hx,c]
 (repeat' apply Aa)<;>first | refine n _ _ ?_ | (intros;omega) | (intros;simp_all;done) | (intros;simp only [Bool.or_eq_false_iff,Bool.or_eq_true,Bool.and_eq_true,Bool.and_eq_false_iff,decide_eq_true_eq,decide_eq_false_iff_not,bne_iff_ne] at *; omega)
 clear n
 refine A4 _ (by simp +decide only [go_sem]) (by simp +decide only [go_sem];rfl) (fun hb=>?_) (fun hb=>?_)
 ·simp only [Bool.not_eq_true'] at hb
  apply Ah;intro K13 o
  apply Ao 1 [6]
  rw [Am];simp +decide only [go_sem,hx,c]
  (repeat' apply Aa)<;>first | refine o _ _ ?_ | (intros;omega) | (intros;simp_all;done) | (intros;simp only [Bool.or_eq_false_iff,Bool.or_eq_true,Bool.and_eq_true,Bool.and_eq_false_iff,decide_eq_true_eq,decide_eq_false_iff_not,bne_iff_ne] at *; omega)
  clear o
  apply A2;simp +decide only [go_sem]
  exact ⟨VB,VR,VL,XB'++([(ps[q]'a).cs]++XB2),false,rfl,by simp,by omega,by omega,by omega,fun h=>(by cases h),fun _=>np2 hb⟩
 simp only [Bool.not_eq_false'] at hb
 apply Br;simp only [go_sem]
 (repeat' apply Aa)<;>first | refine p _ _ ?_ | (intros;omega) | (intros;simp_all;done) | (intros;simp only [Bool.or_eq_false_iff,Bool.or_eq_true,Bool.and_eq_true,Bool.and_eq_false_iff,decide_eq_true_eq,decide_eq_false_iff_not,bne_iff_ne] at *; omega)
 clear p
 apply Ao 1 [1,2,15,16,17]
 rw [Am];simp +decide only [go_sem,hx,c]
 (repeat' apply Aa)<;>first | refine Z (ps.length-(q+1)) _ _ ?_ ⟨q+1,VB,VR,VL,XB'++([(ps[q]'a).cs]++XB2),?_,rfl,?_,?_,?_,?_,?_,?_⟩ | (intros;omega) | (intros;simp_all;done)
 ·omega
 ·omega
 ·rw [O];have:=Q hb;rwa [Nat.add_assoc (i+1)] at this
 ·omega
 ·omega
 ·omega
 ·simp
 ·simp
theorem Y8 (w0:World) (items:List (List AV)) (k:Nat) (J:Nat→St→Prop) (Jx:St→Prop) (hY:ZE w0 items k J Jx):∀ (n:Nat) (v:Vl),v.size≤n→Zaj w0 items k J Jx v
 | 0,v,h=>by have:=v.size_pos;omega
 | n+1,v,h=>Z0 w0 items k J Jx hY v fun x a=>Y8 w0 items k J Jx hY n x (by omega)
def I3 (v:Vl):List (List AV):=(EQ 1 v).map Zbp
theorem Md (w0:World) (v:Vl) (hv:v.depth<4611686018427387904∧v.wide=true) (l:Nat):Zgx Tryz.prog w0 122 [.box l 0] (I3 v) (fun st=>st.boxes[l]? = some v.cs):=by
 intro k J Jx Y N G D
 have E:ZE w0 (I3 v) k J (fun s=>Jx s):=by
  intro i SB SR SL x XB XL Q z
  have:=N i ⟨SB,SR,SL⟩ x ⟨XB,[],XL⟩ rfl Q z
  simp only [St.ext,List.append_nil] at this
  intro M w f H K
  obtain ⟨Z,d,t,e,u,p⟩:=this M w f H K
  refine ⟨Z,d,t,e,u,fun n=>(p n).mono ?_⟩
  intro en w' hc
  refine hc.mono ?_
  rintro r s ⟨⟨TB,TR,TL⟩,rfl,⟨y,g,q⟩,hp⟩
  rcases hp with ⟨rfl,hp⟩ | ⟨rfl,hp⟩
  ·exact ⟨TB,TR,TL,true,rfl,rfl,y,g,q,fun _=>hp,fun h=>(by cases h)⟩
  ·exact ⟨TB,TR,TL,false,rfl,rfl,y,g,q,fun h=>(by cases h),fun _=>hp⟩
 obtain ⟨a,U⟩:=Y _ _ D
 obtain ⟨SB,SR,SL⟩:=G
 have O:l<SB.length:=(Ag.1 a).1
 have u:DK ⟨SB,SR,SL⟩ (.box l 0)=true:=by simp [DK,O]
 have p:Bq ⟨SB,SR,SL⟩ (.box l 0)=v.cs:=by
  simp only at a
  simp [Bq,List.getD,a]
 have c:=Y8 w0 (I3 v) k J Jx E v.size v (Nat.le_refl _) 1 0 1 SB SR SL [] [] (by omega) hv.2 D rfl (fun j x z=>by simp [I3,z])
 simp only [List.append_nil,List.nil_append,Nat.zero_add] at c
 refine EF (rs:=[]) Tryz.func122 rfl rfl Tryz.ntmps122 (A1 Tryz.func122 rfl (by decide)) (Nat.le_of_ble_eq_true rfl) ?_
 intro M0 W0 hN F V o hu
 simp only [Au]
 apply Ao 2 []
 rw [Am];simp +decide only [go_sem,u,p]
 (repeat' apply Aa)<;>first | refine Ub _ c ?_ | (intros;omega) | (intros;simp_all;done)
 rintro r s ⟨TB,TR,TL,XB',b,rfl,rfl,y,g,q,C,m⟩
 rw [Am];simp +decide only [go_sem]
 refine ⟨⟨TB,TR,TL⟩,⟨XB',[],[]⟩,rfl,by simp [St.ext],?_⟩
 cases b with
 | true=>exact .inl (by have:=C rfl;simpa [I3] using this)
 | false=>exact .inr (m rfl)
end Go.Proofs.YtgpmlelfkjfbiaaGreatDoor
