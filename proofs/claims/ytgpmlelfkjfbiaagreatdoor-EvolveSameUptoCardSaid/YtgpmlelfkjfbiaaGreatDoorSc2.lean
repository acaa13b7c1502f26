/-
  Part 2 of the proof: rules and walks that the claim's last text uses.
-/
import Derived.Attr
import Derived.Ground.Names2Prog
import Derived.Ground.NamesProg
import Derived.Ground.SlgnProg
import Derived.Ground.SlsfProg
import Derived.OrdersIn
import Derived.RangeFuncIn
import Derived.Shelf.LaysM
import Derived.Shelf.Small.Bits
import Derived.Shelf.Small.Strs
import Derived.Shelf.Strconv.Itoa0
import Derived.Shelf.Strconv.Itoa1
import Derived.Shelf.Strconv.Itoa2
import Derived.Shelf.Strconv.Itoa3
import Derived.Shelf.Strings.Repeat
import Derived.Shelf.Unicode.DecodeSlow
import Derived.Shelf.Unicode.ValidAny
import Derived.StillTail
import Derived.Test.YtgpmlelfkjfbiaaGreatDoorProg
import Derived.Test.YtgpmlelfkjfbiaaGreatDoorSc1
set_option linter.unusedSimpArgs false
set_option linter.unusedVariables false
set_option maxRecDepth 100000
set_option maxHeartbeats 4000000
namespace Go.Ev
open Go Go.RowKit
def Marked (W0:World) (ds:List Deferred) (w:World):Prop :=
 ∃ Ds:List Nat,Ds.Nodup∧ds=Ds.map (fun D=>{ target := .collected D,args := #[] })∧∀ D∈Ds,W0.heap.size≤D∧w.heap[D]? = some (.deferred (some []))
abbrev AQ:=Exit→Env→St→Prop
structure At (w0:World) (n:Nat) (M0:Mem) (W0:World) (e:Env) (st:St) (a:Act) (w:World) (M:Mem):Prop where
 rel:Rel w0 n M e st a w
 ext:Ext w0 M0 W0 M w
 marks:Marked W0 a.defers w
def Zj7 (w0:World) (n:Nat) (M0:Mem) (W0:World) (Q:AQ) (x:Exit) (a':Act) (w':World):Prop :=
 ∃ M' e' st',At w0 n M0 W0 e' st' a' w' M'∧Q x e' st'
def GE (P:Program) (w0:World) (n:Nat) (M0:Mem) (W0:World) (ro:Option Nat) (c:Code) (Q:AQ) (e:Env) (st:St):Prop :=
 ∀ m M a w,At w0 n M0 W0 e st a w M→c.wpIn (FW ro) m P (Zj7 w0 n M0 W0 Q) a w
def Wb (K:Env→St→Prop) (Q:AQ):AQ
 | .normal,e,st=>K e st
 | x,e,st=>Q x e st
def Tt (id:Nat) (Q:AQ):AQ
 | .exit i,e,st=>if i=id then Q .normal e st else Q (.exit i) e st
 | x,e,st=>Q x e st
section
variable {P:Program} {w0:World} {n:Nat} {M0:Mem} {W0:World} {ro:Option Nat} {Q:AQ} {e:Env} {st:St}
theorem ZcU {c:Code} {Q':AQ} (h:GE P w0 n M0 W0 ro c Q e st) (hq:∀ x e s,Q x e s→Q' x e s):GE P w0 n M0 W0 ro c Q' e st :=
 fun m M a w f=>wpIn_mono (h m M a w f) fun _ _ _ ⟨M',g,i,d,b⟩=>⟨M',g,i,d,hq _ _ _ b⟩
theorem At.sub {M:Mem} {a:Act} {w:World} {e':Env} (h:At w0 n M0 W0 e st a w M) (hs:ZcL e' e):At w0 n M0 W0 e' st a w M:=⟨h.rel.sub hs,h.ext,h.marks⟩
theorem Marked.later {M M':Mem} {ds:List Deferred} {w w':World} (h:Marked W0 ds w) (hx:Ext w0 M w M' w') (hl:RelSt w0 M st w):Marked W0 ds w':=by
 obtain ⟨Ds,f,d,a⟩:=h
 refine ⟨Ds,f,d,fun D b=>⟨(a D b).1,hx.objs D _ (a D b).2 rfl fun k g e=>?_⟩⟩
 have c:k<st.loops.length:=by rw [←hl.loop.NL];exact g
 obtain ⟨_,r,hr,_⟩:=hl.loop.record k _ (List.getElem?_eq_getElem c)
 rw [e,(a D b).2] at hr
 cases hr
theorem DU {c:Code} (e':Env) (h:GE P w0 n M0 W0 ro c Q e' st) (hs:ZcL e' e):GE P w0 n M0 W0 ro c Q e st:=fun m M a w b=>h m M a w (b.sub hs)
theorem Ao (c:Nat) (L:List Nat) {id:Nat} {l:List Oper} (h:XT P w0 n false l (fun e' st'=>Q .normal (Do L e') st') c l e st):GE P w0 n M0 W0 ro (.region id l.toArray false) Q e st:=by
 intro m M a w b
 refine wpIn_region_lit (QV ro m false l _ _ c l e st a w M b.rel h fun e' st' k o i f g d j=>⟨i,_,_,⟨g.sub (Bg L _),b.ext.trans d,?_⟩,f⟩)
 rw [j]
 exact b.marks.later d b.rel.st
theorem Bl (h:Q .normal e st):GE P w0 n M0 W0 ro .skip Q e st:=fun _ M _ _ a=>wpIn_skip ⟨M,e,st,a,h⟩
theorem KE {id:Nat} (h:Q (.exit id) e st):GE P w0 n M0 W0 ro (.exit id) Q e st:=fun _ M _ _ a=>wpIn_exit ⟨M,e,st,a,h⟩
theorem A3 (h:Q .ret e st):GE P w0 n M0 W0 ro .ret Q e st:=fun _ M _ _ a=>wpIn_ret ⟨M,e,st,a,h⟩
theorem Ah {x y:Code} (h:∀ K:Env→St→Prop,(∀ e s,GE P w0 n M0 W0 ro y Q e s→K e s)→GE P w0 n M0 W0 ro x (Wb K Q) e st):GE P w0 n M0 W0 ro (.seq x y) Q e st:=by
 intro m M a w g
 refine wpIn_seq (wpIn_mono (h (GE P w0 n M0 W0 ro y Q) (fun _ _ h=>h) m M a w g) ?_)
 rintro ex d f ⟨M',i,j,c,b⟩
 cases ex with
 | normal=>exact b m M' d f c
 | _=>exact ⟨M',i,j,c,b⟩
theorem Av {x y:Code} (I:Env→St→Prop) (hx:∀ K:Env→St→Prop,(∀ e s,I e s→K e s)→GE P w0 n M0 W0 ro x (Wb K Q) e st) (hy:∀ e s,I e s→GE P w0 n M0 W0 ro y Q e s):GE P w0 n M0 W0 ro (.seq x y) Q e st :=
 Ah fun K a=>ZcU (hx I fun _ _ h=>h) fun ex e s h=>by
  cases ex with
  | normal=>exact a e s (hy e s h)
  | _=>exact h
theorem Ak {id:Nat} {c:Code} (h:GE P w0 n M0 W0 ro c (Tt id Q) e st):GE P w0 n M0 W0 ro (.block id c) Q e st:=by
 intro m M a w j
 refine wpIn_block (wpIn_mono (h m M a w j) ?_)
 rintro ex k l ⟨M',f,g,d,b⟩
 cases ex with
 | exit i =>
  simp only [Tt] at b
  simp only [Exit.inBlock]
  split at b<;>rename_i hc
  ·rw [Ae hc];exact ⟨M',f,g,d,b⟩
  ·rw [Af hc];exact ⟨M',f,g,d,b⟩
 | _=>exact ⟨M',f,g,d,b⟩
theorem A2 {c:Operand} {x y:Code} (b:Bool) (hc:AM e true c) (hb:Ar e c = .val (.bool b)) (ht:b=true→GE P w0 n M0 W0 ro x Q e st) (hf:b=false→GE P w0 n M0 W0 ro y Q e st):GE P w0 n M0 W0 ro (.cond c x y) Q e st:=by
 intro m M a w d
 have hv:=Bc d.rel hc
 rw [hb] at hv
 have ev:a.eval c = .bool b:=hv.val_inv.1
 exact wpIn_cond_split ev (fun h=>ht h m M a w d) (fun h=>hf h m M a w d)
theorem Nh (p:Nat→Prop) (h:∃ k,p k):∃ k,p k∧∀ m,p m→k≤m:=by
 obtain ⟨k,b⟩:=h
 induction k using Nat.strongRecOn with
 | _ k ih =>
  by_cases c:∃ m,m<k∧p m
  ·obtain ⟨m,e,a⟩:=c
   exact ih m e a
  ·exact ⟨k,b,fun m d=>by
    by_cases c':m<k
    ·exact absurd ⟨m,c',d⟩ c
    ·omega⟩
theorem AC {c:Code} (I:Nat→Env→St→Prop) (k0:Nat) (h0:I k0 e st) (round:∀ k e s,I k e s→∀ K:Env→St→Prop,(∀ k' e' s',k'<k→I k' e' s'→K e' s')→GE P w0 n M0 W0 ro c (Wb K Q) e s):GE P w0 n M0 W0 ro (.loop c) Q e st:=by
 intro m M a w u
 let J:Nat→Act→World→Prop:=fun k b d=>∃ M' e' s',At w0 n M0 W0 e' s' b d M'∧I k e' s'
 let μ:Act→World→Nat:=fun b d=>by
  classical exact if h:∃ k,J k b d then Classical.choose (Nh (fun k=>J k b d) h) else 0
 have o:∀ b d k,J k b d→J (μ b d) b d∧μ b d≤k:=by
  intro b d k i
  have f:∃ k,J k b d:=⟨k,i⟩
  have:=Classical.choose_spec (Nh (fun k=>J k b d) f)
  have e:μ b d=Classical.choose (Nh (fun k=>J k b d) f):=by simp only [μ,dif_pos f]
  rw [e]
  exact ⟨this.1,this.2 k i⟩
 refine wpIn_loop (fun b d=>∃ k,J k b d) μ ⟨k0,M,e,st,u,h0⟩ ?_
 rintro a1 q ⟨k,i⟩
 obtain ⟨⟨M1,z,x,r,v⟩,_⟩:=o a1 q k i
 refine wpIn_mono (round _ z x v (fun e' s'=>∃ k',k'<_∧I k' e' s') (fun k' _ _ g t=>⟨k',g,t⟩) m M1 a1 q r) ?_
 rintro ex b d ⟨M',e',s',g,l⟩
 cases ex with
 | normal =>
  obtain ⟨k',j,y⟩:=l
  have p:J k' b d:=⟨M',e',s',g,y⟩
  exact ⟨⟨k',p⟩,Nat.lt_of_le_of_lt (o b d k' p).2 j⟩
 | _=>exact ⟨M',e',s',g,l⟩
def Own.under (nr:Nat):Own→Prop
 | .row id=>id<nr
 | _=>True
inductive Under (nb nr nl:Nat):AV→Prop
 | val (v:Value):Under nb nr nl (.val v)
 | list {xs:List AV} {o:Own} (h:∀ x∈xs,Under nb nr nl x) (ho:o.under nr):Under nb nr nl (.list xs o)
 | elem {x:AV} {k:Nat} (h:Under nb nr nl x):Under nb nr nl (.elem x k)
 | box {l k:Nat} (h:l<nb):Under nb nr nl (.box l k)
 | clo {f:FuncId} {xs:List AV} (h:∀ x∈xs,Under nb nr nl x):Under nb nr nl (.clo f xs)
 | agg {xs:List AV} (h:∀ x∈xs,Under nb nr nl x):Under nb nr nl (.agg xs)
 | tup {xs:List AV} (h:∀ x∈xs,Under nb nr nl x):Under nb nr nl (.tup xs)
 | yld {k:Nat} (h:k<nl):Under nb nr nl (.yld k)
 | vec {id ver o n:Nat} (h:id<nr):Under nb nr nl (.vec id ver o n)
 | vel {id ver o:Nat} (h:id<nr):Under nb nr nl (.vel id ver o)
theorem V6 {nb nr nl:Nat} (v:Value):Under nb nr nl (.val v)↔True:=iff_true_intro (.val v)
theorem T0 {nb nr nl:Nat} {xs:List AV} {o:Own}:Under nb nr nl (.list xs o)↔(∀ x∈xs,Under nb nr nl x)∧o.under nr:=⟨fun h=>by cases h with | list a b=>exact ⟨a,b⟩,fun h => .list h.1 h.2⟩
theorem UP {nb nr nl:Nat} {x:AV} {k:Nat}:Under nb nr nl (.elem x k)↔Under nb nr nl x:=⟨fun h=>by cases h;assumption,.elem⟩
theorem Wp {nb nr nl l k:Nat}:Under nb nr nl (.box l k)↔l<nb:=⟨fun h=>by cases h;assumption,.box⟩
theorem Rf {nb nr nl:Nat} {f:FuncId} {xs:List AV}:Under nb nr nl (.clo f xs)↔∀ x∈xs,Under nb nr nl x:=⟨fun h=>by cases h;assumption,.clo⟩
theorem OV {nb nr nl:Nat} {xs:List AV}:Under nb nr nl (.agg xs)↔∀ x∈xs,Under nb nr nl x:=⟨fun h=>by cases h;assumption,.agg⟩
theorem VG {nb nr nl:Nat} {xs:List AV}:Under nb nr nl (.tup xs)↔∀ x∈xs,Under nb nr nl x:=⟨fun h=>by cases h;assumption,.tup⟩
theorem VX {nb nr nl k:Nat}:Under nb nr nl (.yld k)↔k<nl:=⟨fun h=>by cases h;assumption,.yld⟩
theorem Vx {nb nr nl id ver o n:Nat}:Under nb nr nl (.vec id ver o n)↔id<nr:=⟨fun h=>by cases h;assumption,.vec⟩
theorem V1 {nb nr nl id ver o:Nat}:Under nb nr nl (.vel id ver o)↔id<nr:=⟨fun h=>by cases h;assumption,.vel⟩
def Mem.cut (M:Mem) (nb nr nl:Nat):Mem:={ M with N:=nb,NR:=nr,NL:=nl }
theorem R.cut {M:Mem} {w:World} {v:Value} {x:AV} {nb nr nl:Nat} (h:R w0 M w v x) (hu:Under nb nr nl x):R w0 (M.cut nb nr nl) w v x:=by
 induction h with
 | flat h=>exact .flat h
 | agg hl d _ ih=>exact .agg hl d fun i a b=>ih i a b (OV.1 hu _ (List.getElem_mem _))
 | tup hl _ ih=>exact .tup hl fun i a b=>ih i a b (VG.1 hu _ (List.getElem_mem _))
 | nil ho=>exact .nil ho
 | emp ho=>exact .emp ho
 | @list b off cap xs o sz us hc hm hcell _ ho ih =>
  obtain ⟨d,e⟩:=T0.1 hu
  refine .list sz us hc hm hcell (fun i c=>ih i c (d _ (List.getElem_mem _))) ?_
  cases o with
  | none=>trivial
  | full=>exact ho
  | seed=>exact ho
  | row id=>exact ⟨e,ho.2⟩
 | elem u k hcell _ ih=>exact .elem u k hcell (ih (UP.1 hu))
 | box _=>exact .box (M:=M.cut nb nr nl) (Wp.1 hu)
 | clo hl _ ih=>exact .clo hl fun i a b=>ih i a b (Rf.1 hu _ (List.getElem_mem _))
 | yld _=>exact .yld (M:=M.cut nb nr nl) (VX.1 hu)
 | vec c hv h=>exact .vec (M:=M.cut nb nr nl) (Vx.1 hu) hv h
 | vel c hv h=>exact .vel (M:=M.cut nb nr nl) (V1.1 hu) hv h
theorem R.under {M:Mem} {w:World} {v:Value} {x:AV} (h:R w0 M w v x):Under M.N M.NR M.NL x:=by
 have d:∀ {cs:Array Value} {xs:List AV},cs.size=xs.length→(∀ i (_:i<cs.size) (h2:i<xs.length),Under M.N M.NR M.NL xs[i])→∀ x∈xs,Under M.N M.NR M.NL x:=by
  intro cs xs c h x e
  obtain ⟨i,a,rfl⟩:=List.mem_iff_getElem.1 e
  exact h i (c▸a) a
 induction h with
 | flat h=>exact .val _
 | agg c h1 _ ih=>exact .agg (d c ih)
 | tup c _ ih=>exact .tup (d c ih)
 | nil ho=>exact .list (fun _ h=>by cases h) (by rename_i o;cases o<;>first | trivial | exact absurd rfl (ho _))
 | emp ho=>exact .list (fun _ h=>by cases h) (by rename_i o;cases o<;>first | trivial | exact absurd rfl (ho _))
 | @list b off cap xs o sz us hc hm hcell _ ho ih =>
  refine .list (fun x e=>?_) ?_
  ·obtain ⟨i,a,rfl⟩:=List.mem_iff_getElem.1 e
   exact ih i a
  ·cases o with
   | row id=>exact ho.1
   | _=>trivial
 | elem u k hcell _ ih=>exact .elem ih
 | box h=>exact .box h
 | clo c _ ih=>exact .clo (d c ih)
 | yld h=>exact .yld h
 | vec a _ _=>exact .vec a
 | vel a _ _=>exact .vel a
def Lq (nb nr nl:Nat):Env→Prop
 | []=>True
 | (_,c,v)::e=>(c=true→Under nb nr nl v)∧Lq nb nr nl e
theorem Ti {nb nr nl:Nat}:∀ {e:Env} {s:Nat} {x:Bool × AV},Lq nb nr nl e→DG e s=some x→x.1=true→Under nb nr nl x.2
 | (k,c,v)::e,s,x,h,hl,ht=>by
  simp only [DG] at hl
  by_cases q:k=s
  ·rw [Ae q] at hl;cases hl;exact h.1 ht
  ·rw [Af q] at hl;exact Ti h.2 hl ht
def St.cut (s:St) (nb nr nl:Nat):St:=⟨s.boxes.take nb,s.rows.take nr,s.loops.take nl⟩
def RowA.cells:RowA→List AV
 | .vec _ _ cs=>cs
 | _=>[]
structure Calm (nb nr nl:Nat) (s:St):Prop where
 rows:∀ r∈s.rows,∀ x∈r.cells,Under nb nr nl x
 boxes:∀ cs∈s.boxes,∀ x∈cs,Under nb nr nl x
 loops:∀ la∈s.loops,∀ k x,DG la.e k=some x→x.1=true→Under nb nr nl x.2
theorem RelSt.calm {M:Mem} {w:World} (h:RelSt w0 M st w):Calm st.boxes.length st.rows.length st.loops.length st where
 rows:=by
  intro r p x hx
  obtain ⟨l,a,rfl⟩:=List.mem_iff_getElem.1 p
  have m:=h.row l _ (List.getElem?_eq_getElem a)
  cases hrow:st.rows[l] with
  | vec ver sz cs =>
   rw [hrow] at m hx
   obtain ⟨_,_,_,_,_,_,_,c,_,_,_,b,_,e⟩:=m
   obtain ⟨i,d,rfl⟩:=List.mem_iff_getElem.1 hx
   have j:i<cs.length:=d
   have:=(e i (by omega) j).under
   rwa [h.N,h.NR,h.loop.NL] at this
  | _=>rw [hrow] at hx;cases hx
 boxes:=by
  intro cs g x hx
  obtain ⟨l,a,rfl⟩:=List.mem_iff_getElem.1 g
  obtain ⟨_,_,c,_,_,b,_,e⟩:=h.box l _ (List.getElem?_eq_getElem a)
  obtain ⟨i,d,rfl⟩:=List.mem_iff_getElem.1 hx
  have:=(e i (b▸d) d).under
  rwa [h.N,h.NR,h.loop.NL] at this
 loops:=by
  intro q f k x hx o
  obtain ⟨l,a,rfl⟩:=List.mem_iff_getElem.1 f
  obtain ⟨_,r,_,_,_,_,_,_,_,n⟩:=h.loop.record l _ (List.getElem?_eq_getElem a)
  have:=n k x hx
  unfold entryOk at this
  rw [Ae o] at this
  have:=this.under
  rwa [h.N,h.NR,h.loop.NL] at this
theorem entryOk.cut {M:Mem} {w:World} {nb nr nl:Nat} {v:Value} {x:Bool × AV} (h:entryOk w0 M w v x) (hu:x.1=true→Under nb nr nl x.2):entryOk w0 (M.cut nb nr nl) w v x:=by
 unfold entryOk at *
 split
 ·rename_i c;rw [Ae c] at h;exact h.cut (hu c)
 ·rename_i c;rw [Af c] at h;exact h
theorem RelSt.cut {M:Mem} {w:World} (h:RelSt w0 M st w) {nb nr nl:Nat} (h1:nb≤st.boxes.length) (h2:nr≤st.rows.length) (h3:nl≤st.loops.length) (hc:Calm nb nr nl (st.cut nb nr nl)) :
  RelSt w0 (M.cut nb nr nl) (st.cut nb nr nl) w where
 below:=h.below
 N:=by simp [Mem.cut,St.cut];omega
 NR:=by simp [Mem.cut,St.cut];omega
 top:=h.top
 inj:=fun l H k G e=>h.inj l H (by have:=h.N;simp only [Mem.cut] at k;omega) (by have:=h.N;simp only [Mem.cut] at G;omega) e
 box:=fun l cs g=>by
  simp only [St.cut] at g
  have z:l<nb:=by
   have:=(Ag.1 g).1
   simp at this;omega
  have a:cs∈st.boxes.take nb:=List.mem_of_getElem? g
  rw [List.getElem?_take_of_lt z] at g
  obtain ⟨a1,a2,c,q,a3,a4,a5,a6⟩:=h.box l cs g
  exact ⟨a1,a2,c,q,a3,a4,a5,fun i y D=>(a6 i y D).cut (hc.boxes cs a _ (List.getElem_mem _))⟩
 row:=fun id x f=>by
  simp only [St.cut] at f
  have o:id<nr:=by
   have:=(Ag.1 f).1
   simp at this;omega
  have a:x∈st.rows.take nr:=List.mem_of_getElem? f
  rw [List.getElem?_take_of_lt o] at f
  have b:=h.row id x f
  have d:nb≤M.N:=by have:=h.N;omega
  cases x with
  | grow n sz =>
   obtain ⟨a1,a2,a3,a4,a5,a6,a7,m⟩:=b
   exact ⟨a1,a2,a3,a4,fun l g=>a5 l (Nat.lt_of_lt_of_le g d),a6,a7,m⟩
  | vec v sz cs =>
   obtain ⟨a1,a2,a3,a4,a5,a6,a7,c,q,m,p,y,D,F⟩:=b
   exact ⟨a1,a2,a3,a4,fun l g=>a5 l (Nat.lt_of_lt_of_le g d),a6,a7,c,q,m,p,y,D,fun i h1 h2=>(F i h1 h2).cut (hc.rows _ a _ (List.getElem_mem _))⟩
  | dead v =>
   obtain ⟨a1,a2,a3,a4⟩:=b
   exact ⟨a1,a2,fun l g=>a3 l (Nat.lt_of_lt_of_le g d),a4⟩
 rowinj:=fun i j u C e=>h.rowinj i j (by have:=h.NR;simp only [Mem.cut] at u;omega) (by have:=h.NR;simp only [Mem.cut] at C;omega) e
 loop:={
  NL:=by simp [Mem.cut,St.cut];omega
  inj:=fun i j u C e=>h.loop.inj i j (by have:=h.loop.NL;simp only [Mem.cut] at u;omega) (by have:=h.loop.NL;simp only [Mem.cut] at C;omega) e
  record:=fun k t f=>by
   simp only [St.cut] at f
   have E:k<nl:=by
    have:=(Ag.1 f).1
    simp at this;omega
   have a:t∈st.loops.take nl:=List.mem_of_getElem? f
   rw [List.getElem?_take_of_lt E] at f
   obtain ⟨a1,r,a2,a3,a4,a5,a6,a7,m,p⟩:=h.loop.record k t f
   exact ⟨a1,r,a2,a3,a4,a5,a6,a7,m,fun s x hs=>(p s x hs).cut (hc.loops t a s x hs)⟩ }
theorem Ext.cut {M1:Mem} {w1 w2:World} {M2:Mem} (h:Ext w0 M1 w1 M2 w2) {nb nr nl:Nat} (h1:M1.N≤nb) (h2:M1.NR≤nr) (h3:M1.NL≤nl) (h4:nl≤M2.NL):Ext w0 M1 w1 (M2.cut nb nr nl) w2 :=
 ⟨h1,h.bx,h2,h.rows,h.cell,h.size,h3,h.lb,fun k a b=>h.lnew k a (Nat.lt_of_lt_of_le b h4),h.objs⟩
theorem Rel.cut {M:Mem} {a:Act} {w:World} (h:Rel w0 n M e st a w) {nb nr nl:Nat} (h1:nb≤st.boxes.length) (h2:nr≤st.rows.length) (h3:nl≤st.loops.length) (hc:Calm nb nr nl (st.cut nb nr nl)) (he:Lq nb nr nl e) :
  Rel w0 n (M.cut nb nr nl) e (st.cut nb nr nl) a w :=
 ⟨h.st.cut h1 h2 h3 hc,h.size,fun s x hs=>(h.env s x hs).cut (Ti he hs)⟩
theorem SX {c:Code} (nb nr nl:Nat) (h1:nb≤st.boxes.length) (h2:nr≤st.rows.length) (h3:nl≤st.loops.length) (k1:M0.N≤nb) (k2:M0.NR≤nr) (k3:M0.NL≤nl) (hc:Calm nb nr nl (st.cut nb nr nl)) (he:Lq nb nr nl e)
  (h:GE P w0 n M0 W0 ro c Q e (st.cut nb nr nl)):GE P w0 n M0 W0 ro c Q e st :=
 fun m M a w b=>h m _ a w ⟨b.rel.cut h1 h2 h3 hc he,b.ext.cut k1 k2 k3 (by rw [b.rel.st.loop.NL];exact h3),b.marks⟩
end
section
variable {P:Program} {w0:World} {n:Nat} {M:Mem} {e:Env} {st:St} {a:Act} {w:World}
def UM (P:Program) (e:Env) (st:St):ResultVar→Prop
 | .tmp t=>AM e true (.tmp t)
 | .cell t ty=>(Ba P e true st (.load ty (.tmp t))).1
def Zbg (P:Program) (e:Env) (st:St):ResultVar→AV
 | .tmp t=>(Ar e (.tmp t)).pub
 | .cell t ty=>(Ba P e true st (.load ty (.tmp t))).2.1.pub
def YW:List AV→AV
 | [x]=>x
 | l => .tup l
def Zb8 (P:Program) (rs:List ResultVar) (Post:AV→St→Prop):AQ:=fun x e st =>
 match x with
 | .normal | .ret=>(∀ r∈rs,UM P e st r)∧Post (YW (rs.map (Zbg P e st))) st
 | _=>False
theorem S9 (h:Rel w0 n M e st a w) (t:TypeId) (x:Operand) (hob:(Ba P e true st (.load t x)).1) :
  ∃ v,(do loadVar t (← asAddr (a.eval x)):Sem Value).run P w = .ok v w∧R w0 M w v (Ba P e true st (.load t x)).2.1:=by
 unfold Ba at hob ⊢
 cases ht:IB P t with
 | none=>simp [ht] at hob
 | some p =>
  obtain ⟨sz,z⟩:=p
  simp only [ht] at hob ⊢
  obtain ⟨D,C,l,q⟩:=hob
  obtain ⟨b,o,ev,g,m⟩:=YL h.st (Bc h D) C
  rw [ev]
  have i:∀ j,j<sz→∃ u,w.cell? ⟨b,o+EN (Ar e x)+j,none⟩=some u∧∀ c,R w0 M w u ((Bj st (Ar e x))[EN (Ar e x)+j]'c):=by
   intro j c
   obtain ⟨u,s,r⟩:=m (EN (Ar e x)+j) (by omega)
   exact ⟨u,by rw [←s,Nat.add_assoc],fun _=>r⟩
  let f:Nat→Value:=fun j=>((w.cell? ⟨b,o+EN (Ar e x)+j,none⟩).getD undef)
  have y:∀ j,j<sz→w.cell? ⟨b,o+EN (Ar e x)+j,none⟩=some (f j):=fun j c=>by
   obtain ⟨u,d,_⟩:=i j c
   simp [f,d]
  refine ⟨if z then .agg ((List.range sz).map f).toArray else f 0,?_,(Qr g l q (fun j c=>?_))⟩
  ·simp only [asAddr,Sem.run_bind,Sem.run_pure,Result.andThen_ok]
   exact QF ht y q
  ·by_cases hjs:j<sz
   ·obtain ⟨u,d,k⟩:=i j hjs
    have:f j=u:=by simp [f,d]
    rw [this]
    exact k c
   ·obtain ⟨u,d,k⟩:=m (EN (Ar e x)+j) c
    have:f j=u:=by simp [f,Nat.add_assoc,d]
    rw [this]
    exact k
theorem N6 {α:Type} (f:α→Sem Value) (g:α→Value):∀ (l:List α),(∀ x∈l,(f x).run P w = .ok (g x) w)→(l.mapM f).run P w = .ok (l.map g) w
 | [],_=>by simp
 | x::l,h=>by simp [h x (by simp),N6 f g l (fun y a=>h y (by simp [a]))]
theorem Un {V:ResultVar→AV} (rs:List ResultVar) (g:ResultVar→Value) (hg:∀ r∈rs,R w0 M w (g r) (V r)) :
  R w0 M w (if h:(rs.map g).toArray.size=1 then (rs.map g).toArray[0] else .tuple (rs.map g).toArray) (YW (rs.map V)):=by
 match rs,hg with
 | [],_=>exact .tup rfl (fun i b _=>absurd b (by simp))
 | [r],hg=>exact (hg r (by simp))
 | r::r'::l,hg =>
  have:¬ ((List.map g (r::r'::l)).toArray.size=1):=by simp
  rw [dif_neg this]
  refine .tup (by simp) (fun i b a=>?_)
  have e:i<(r::r'::l).length:=by simpa using a
  have d:(List.map g (r::r'::l)).toArray[i]=g (r::r'::l)[i]:=by rw [List.getElem_toArray,List.getElem_map]
  have c:(List.map V (r::r'::l))[i]'a=V (r::r'::l)[i]:=by rw [List.getElem_map]
  have:=(hg (r::r'::l)[i] (List.getElem_mem _))
  rw [←d,←c] at this
  exact this
theorem ZaT (h:Rel w0 n M e st a w) {fn:Func} {rs:List ResultVar} (hfn:fn.results=rs.toArray) (hrs:∀ r∈rs,UM P e st r) :
  ∃ v,(results fn a.tmps).run P w = .ok v w∧R w0 M w v (YW (rs.map (Zbg P e st))):=by
 let f:ResultVar→Sem Value:=fun
  | .tmp t=>pure (a.tmps.getD t undef)
  | .cell b t=>do loadVar t (← asAddr (a.tmps.getD b undef))
 have d:∀ r∈rs,∃ v,(f r).run P w = .ok v w∧R w0 M w v (Zbg P e st r):=by
  intro r c
  have:=hrs r c
  cases r with
  | tmp t=>exact ⟨_,rfl,(Bc h (x := .tmp t) this).pub⟩
  | cell b t =>
   obtain ⟨v,m,k⟩:=S9 h t (.tmp b) this
   exact ⟨v,m,k.pub⟩
 classical
 let g:ResultVar→Value:=fun r=>if c:r∈rs then Classical.choose (d r c) else undef
 have j:∀ r∈rs,(f r).run P w = .ok (g r) w∧R w0 M w (g r) (Zbg P e st r):=by
  intro r c
  have:=Classical.choose_spec (d r c)
  have e:g r=Classical.choose (d r c):=by simp only [g,dif_pos c]
  rw [e];exact this
 have l:(fn.results.mapM f).run P w = .ok ((rs.map g).toArray) w:=by
  rw [hfn,Array.mapM_eq_mapM_toList]
  simp only [Sem.run_map,N6 f g rs (fun r c=>(j r c).1),Result.andThen_ok]
 have i:(results fn a.tmps).run P w = .ok (if h:(rs.map g).toArray.size=1 then (rs.map g).toArray[0] else .tuple (rs.map g).toArray) w:=by
  unfold results
  simp only [Sem.run_bind]
  refine Eq.trans (congrArg (fun x=>Result.andThen x _) l) ?_
  simp only [Result.andThen_ok,Sem.run_pure]
 refine ⟨_,i,?_⟩
 exact Un rs g fun r c=>(j r c).2
def Au:Nat→List AV→Env
 | _,[]=>[]
 | k,x::l=>(k,true,x)::Au (k+1) l
theorem PL:∀ (l:List AV) (k s:Nat) (x:Bool × AV),DG (Au k l) s=some x→∃ i,s=k+i∧∃ y,l[i]? = some y∧x=(true,y)
 | [],_,_,_,h=>by cases h
 | y::l,k,s,x,h=>by
  simp only [Au,DG] at h
  by_cases c:k=s
  ·rw [Ae c] at h;cases h;exact ⟨0,c.symm,y,rfl,rfl⟩
  ·rw [Af c] at h
   obtain ⟨i,d,z,a,b⟩:=PL l (k+1) s x h
   exact ⟨i+1,by omega,z,a,b⟩
theorem R.same {M:Mem} {w w':World} (hs:∀ (b off:Nat) (v:Value),w.cell? ⟨b,off,none⟩=some v→w'.cell? ⟨b,off,none⟩=some v) {v:Value} {x:AV} (h:R w0 M w v x):R w0 M w' v x:=by
 induction h with
 | flat h=>exact .flat h
 | agg hl h1 _ ih=>exact .agg hl h1 ih
 | tup hl _ ih=>exact .tup hl ih
 | nil ho=>exact .nil ho
 | emp ho=>exact .emp ho
 | @list b off cap xs o sz us hc hm hcell _ ho ih =>
  refine .list sz us hc hm (fun i a=>⟨(hcell i a).1,fun j c=>⟨((hcell i a).2 j c).1,?_⟩⟩) ih ho
  obtain ⟨v,hv⟩:=OK (u:=us i) (j:=j) (by rw [(hcell i a).1];exact c)
  exact (hs _ _ _ ((((hcell i a).2 j c).2).trans hv)).trans hv.symm
 | @elem b off x u k hcell _ ih =>
  refine .elem u k (fun j c=>⟨(hcell j c).1,?_⟩) ih
  obtain ⟨v,hv⟩:=OK (u:=u) (j:=j) c
  exact (hs _ _ _ ((hcell j c).2.trans hv)).trans hv.symm
 | box hl=>exact .box hl
 | clo hl _ ih=>exact .clo hl ih
 | yld hk=>exact .yld hk
 | vec a hv h=>exact .vec a hv h
 | vel a hv h=>exact .vel a hv h
theorem Ol {w:World} {D:Nat} {o o':Obj} (hD:w.heap[D]? = some o) (ho:o.isCells=false) {b off:Nat} {v:Value} (h:w.cell? ⟨b,off,none⟩=some v):(w.putObj D o').cell? ⟨b,off,none⟩=some v:=by
 by_cases c:b=D
 ·subst c
  unfold World.cell? at h
  simp only [hD] at h
  cases o with
  | cells c ty fz=>simp [Obj.isCells] at ho
  | _=>simp at h
 ·unfold World.cell? at h ⊢
  simp only [World.putObj_heap_other c] at h ⊢
  exact h
theorem entryOk.same {M:Mem} {w w':World} (hs:∀ (b off:Nat) (v:Value),w.cell? ⟨b,off,none⟩=some v→w'.cell? ⟨b,off,none⟩=some v) {v:Value} {x:Bool × AV} (h:entryOk w0 M w v x):entryOk w0 M w' v x:=by
 unfold entryOk at *
 split
 ·rename_i c;rw [Ae c] at h;exact h.same hs
 ·rename_i c;rw [Af c] at h;exact h
theorem RowOk.same {M:Mem} {w w':World} {id:Nat} {x:RowA} (h:RowOk w0 M w id x) (hs:∀ (b off:Nat) (v:Value),w.cell? ⟨b,off,none⟩=some v→w'.cell? ⟨b,off,none⟩=some v)
  (hc:∀ {b:Nat} {c:Array Value} {ty:TypeId},w.heap[b]? = some (.cells c ty (0,0))→w'.heap[b]? = some (.cells c ty (0,0))) (hz:w.heap.size≤w'.heap.size):RowOk w0 M w' id x:=by
 cases x with
 | grow n sz =>
  obtain ⟨a1,a2,a3,a4,a5,a6,a7,c,ty,d,a⟩:=h
  exact ⟨a1,a2,a3,a4,a5,a6,a7,c,ty,hc d,a⟩
 | vec v sz cs =>
  obtain ⟨a1,a2,a3,a4,a5,a6,a7,c,ty,d,a,k,g,e⟩:=h
  exact ⟨a1,a2,a3,a4,a5,a6,a7,c,ty,hc d,a,k,g,fun i j f=>(e i j f).same hs⟩
 | dead v =>
  obtain ⟨a1,a2,a3,a4⟩:=h
  exact ⟨a1,a2,a3,Nat.lt_of_lt_of_le a4 hz⟩
theorem Below.putObj {B D:Nat} {x y:World} (h:Below B x y) (hD:B≤D) (o:Obj):Below B x (y.putObj D o) :=
 h.trans ⟨rfl,rfl,rfl,by simp,fun k a=>World.putObj_heap_other (by omega)⟩
theorem RelSt.putObj {M:Mem} {w:World} (h:RelSt w0 M st w) {D:Nat} {o:Obj} (o':Obj) (hD:w.heap[D]? = some o) (ho:o.isCells=false) (h0:w0.heap.size≤D) (hl:∀ k,k<M.NL→M.lb k≠D):RelSt w0 M st (w.putObj D o'):=by
 have hs:∀ (b a:Nat) (v:Value),w.cell? ⟨b,a,none⟩=some v→(w.putObj D o').cell? ⟨b,a,none⟩=some v:=fun b a v=>Ol hD ho
 have n:∀ {b:Nat} {c:Array Value} {d:TypeId},w.heap[b]? = some (.cells c d (0,0))→(w.putObj D o').heap[b]? = some (.cells c d (0,0)):=by
  intro b c d hb
  rw [World.putObj_heap_other (fun e=>by subst e;rw [hD] at hb;cases hb;cases ho)]
  exact hb
 refine ⟨Below.putObj h.below h0 _,h.N,h.NR,fun b hb=>h.top b (by simpa using hb),h.inj,fun l cs g=>?_,fun id x f=>(h.row id x f).same hs n (by simp),h.rowinj,⟨h.loop.NL,h.loop.inj,fun k y f=>?_⟩⟩
 ·obtain ⟨a1,a2,c,d,a3,a4,a5,a6⟩:=h.box l cs g
  exact ⟨a1,a2,c,d,n a3,a4,a5,fun i q p=>(a6 i q p).same hs⟩
 ·have m:k<M.NL:=by rw [h.loop.NL];exact (Ag.1 f).1
  obtain ⟨a1,r,a2,a3,a4,a5,a6,a7,u,t⟩:=h.loop.record k y f
  exact ⟨a1,r,by rw [World.putObj_heap_other (hl k m)];exact a2,a3,a4,a5,a6,a7,u,fun s x j=>(t s x j).same hs⟩
theorem M8 {M0:Mem} {W0:World} {fn:Func} {RR:Ending→World→Prop} {m:Nat} {tmps:Array Value}:∀ (Ds:List Nat) (M:Mem) (w:World),Ds.Nodup→(∀ D∈Ds,W0.heap.size≤D∧w.heap[D]? = some (.deferred (some []))) →
  W0.heap.size≥w0.heap.size→RelSt w0 M st w→Ext w0 M0 W0 M w →
  (∀ w',RelSt w0 M st w'→Ext w0 M0 W0 M w'→(∀ v x,R w0 M w v x→R w0 M w' v x)→∃ v,(results fn tmps).run P w' = .ok v w'∧RR (.returned v) w') →
  LeavesInM (FW none) m P fn tmps RR (Ds.map fun D=>{ target := .collected D,args := #[] }) .returning w
 | [],M,w,_,_,_,hr,hx,hk=>hk w hr hx fun _ _ h=>h
 | D::Ds,M,w,hn,hD,hw,hr,hx,hk=>by
  obtain ⟨G,i⟩:=hD D (by simp)
  have l:∀ k,k<M.NL→M.lb k≠D:=by
   intro k q e
   have d:k<st.loops.length:=by rw [←hr.loop.NL];exact q
   obtain ⟨_,r,hr',_⟩:=hr.loop.record k _ (List.getElem?_eq_getElem d)
   rw [e,i] at hr'
   cases hr'
  have hs:∀ (b c:Nat) (v:Value),w.cell? ⟨b,c,none⟩=some v→(w.putObj D (.deferred none)).cell? ⟨b,c,none⟩=some v:=fun b c v=>Ol i rfl
  have p:Ext w0 M0 W0 M (w.putObj D (.deferred none)) :=
   ⟨hx.N,hx.bx,hx.NR,hx.rows,fun b c v j n=>let ⟨a,b'⟩:=hx.cell b c v j n;⟨hs _ _ _ a,b'⟩,by have:=hx.size;simpa using this,hx.NL,hx.lb,hx.lnew,fun b o j n F=>by
    have H:b<W0.heap.size:=(Array.getElem?_eq_some_iff.1 j).1
    rw [World.putObj_heap_other (by omega)]
    exact hx.objs b o j n F⟩
  refine ⟨by simp,.inl ⟨D,_,rfl,run_takeDeferred i,?_⟩⟩
  have f:=List.nodup_cons.1 hn
  refine M8 Ds M _ f.2 (fun E s=>?_) hw (hr.putObj _ i rfl (by omega) l) p (fun w' y t C=>hk w' y t fun v x h=>C v x (h.same hs))
  obtain ⟨u,z⟩:=hD E (List.mem_cons_of_mem _ s)
  have g:E≠D:=fun e=>f.1 (by rw [←e];exact s)
  exact ⟨u,by rw [World.putObj_heap_other g];exact z⟩
theorem Ep {f:FuncId} {fn:Func} {c:Code} {args:List AV} {rs:List ResultVar} {Post:AV→St→Prop} (hf:P.funcs[f]? = some fn) (hb:fn.body=some c) (hrs:fn.results=rs.toArray) (hn:fn.ntmps=n)
  (hen:KA P f) (ha:args.length≤n)
  (h:∀ (M0:Mem) (W0:World),M0.N=st.boxes.length→M0.NR=st.rows.length→M0.NL=st.loops.length→Calm st.boxes.length st.rows.length st.loops.length st→(∀ x∈args,Under st.boxes.length st.rows.length st.loops.length x) →
   GE P w0 n M0 W0 none c (Zb8 P rs Post) (Au 0 args) st):ACalls P w0 f args st Post:=by
 refine ⟨hen,fun M w a b d=>?_⟩
 have U:a.size=args.length:=d.1
 have O:∀ x∈args,Under st.boxes.length st.rows.length st.loops.length x:=by
  intro x H
  obtain ⟨i,z,rfl⟩:=List.mem_iff_getElem.1 H
  have:=(d.get (i:=i) (Array.getElem?_eq_getElem (by omega)) (List.getElem?_eq_getElem z)).under
  rwa [b.N,b.NR,b.loop.NL] at this
 have k:Rel w0 n M (Au 0 args) st { tmps:=a++Array.replicate (fn.ntmps-a.size) undef,defers:=[] } w:=by
  refine ⟨b,by simp;omega,fun s x hs=>?_⟩
  obtain ⟨i,j,y,u,rfl⟩:=PL _ _ _ _ hs
  have z:i<args.length:=(Ag.1 u).1
  have hs':s=i:=by omega
  subst hs'
  simp only [entryOk,if_true]
  have J:(a++Array.replicate (fn.ntmps-a.size) undef).getD s undef=a[s]'(by omega):=by
   simp [Array.getD_eq_getD_getElem?,Array.getElem?_append_left (show s<a.size by omega),Array.getElem?_eq_getElem (show s<a.size by omega)]
  rw [J]
  exact d.get (Array.getElem?_eq_getElem (by omega)) u
 refine Sm (n:=0) (callsIn_of_wp_marks hf hb trivial (wpIn_mono (h M w b.N b.NR b.loop.NL b.calm O 0 M _ w ⟨k,.refl _ _ _,[],by simp⟩) ?_))
 rintro ex o D ⟨M',p,l,j,m⟩
 have e:∀ (q:∀ r∈rs,UM P p l r) (C:Post (YW (rs.map (Zbg P p l))) l),
   LeavesInM (FW none) 0 P fn o.tmps (Comes' w0 M w Post) o.defers .returning D:=by
  intro q C
  obtain ⟨Ds,Q,K,Y⟩:=j.marks
  rw [K]
  refine M8 Ds M' D Q Y b.base_le j.rel.st j.ext fun F t E k3=>?_
  have g:Rel w0 n M' p l o F:=⟨t,j.rel.size,fun s x hs=>by
   have:=j.rel.env s x hs
   unfold entryOk at *
   split
   ·rename_i c;rw [Ae c] at this;exact k3 _ _ this
   ·rename_i c;rw [Af c] at this;exact this⟩
  obtain ⟨v,G,V⟩:=ZaT g hrs q
  exact ⟨v,G,v,M',_,l,rfl,C,E,t,V⟩
 cases ex with
 | normal=>exact e m.1 m.2
 | ret=>exact e m.1 m.2
 | _=>exact m.elim
def Zl0 (st:St) (Post:AV→St→Prop) (r:AV) (s:St):Prop :=
 st.boxes.length≤s.boxes.length∧st.rows.length≤s.rows.length∧st.loops.length≤s.loops.length∧Calm st.boxes.length st.rows.length st.loops.length (s.cut st.boxes.length st.rows.length st.loops.length) ∧
  Under st.boxes.length st.rows.length st.loops.length r∧Post r (s.cut st.boxes.length st.rows.length st.loops.length)
theorem ACalls.fin {f:FuncId} {args:List AV} {Post:AV→St→Prop} (h:ACalls P w0 f args st (Zl0 st Post)):ACalls P w0 f args st Post:=by
 refine ⟨h.1,fun M w c a b=>(h.2 M w c a b).mono ?_⟩
 rintro en n ⟨v,M',r,g,j,⟨k,l,d,i,e,m⟩,h3,h4,h5⟩
 exact ⟨v,M'.cut st.boxes.length st.rows.length st.loops.length,r,_,j,m,h3.cut (by have:=a.N;omega) (by have:=a.NR;omega) (by have:=a.loop.NL;omega) (by rw [h4.loop.NL];exact d),h4.cut k l d i,h5.cut e⟩
theorem ZaV {f:FuncId} {fn:Func} {c:Code} (hf:P.funcs[f]? = some fn) (hb:fn.body=some c) (hn:fn.name ≠ "runtime.NumGoroutine"):KA P f:=by
 intro a w
 simp [callFunc,hf,hb,hn]
end
section
variable {P:Program} {w0:World} {n:Nat}
def Zao (P:Program) (w0:World) (e1:Env) (c:Bool) (st:St) (o:Oper) (v:AV):Prop :=
 match o.op with
 | .call ⟨.value f,args,_⟩=>c=true→AM e1 true f∧(∀ x∈args.toList,AM e1 true x)∧Oy P w0 (Ar e1 f) (args.toList.map fun x=>argP e1 (Ar e1 x)) st fun r s=>r=v∧s=st
 | op=>(c=true→(Ba P e1 c st op).1)∧(Ba P e1 c st op).2.1=v∧(Ba P e1 c st op).2.2=st
theorem Sj {e1:Env} {c:Bool} {st:St} {o:Oper} {v:AV} (hc:¬ KX o.op=true) :
  Zao P w0 e1 c st o v=((c=true→(Ba P e1 c st o.op).1)∧(Ba P e1 c st o.op).2.1=v∧(Ba P e1 c st o.op).2.2=st):=by
 obtain ⟨g,op,d,h,b,a⟩:=o
 cases op with
 | call cc =>
  obtain ⟨callee,e,i⟩:=cc
  cases callee with
  | value f=>exact absurd rfl hc
  | _=>rfl
 | _=>rfl
theorem RV {M:Mem} {e1:Env} {st:St} {a:Act} {w:World} (h:Rel w0 n M e1 st a w) (ro:Option Nat) (m:Nat) {all:List Oper} {o:Oper} {v:AV} (hg:Lj all e1 o.guard) (hv:Zao P w0 e1 (Dz all e1 o.guard) st o v)
  (Q:Exit→Act→World→Prop) (K:Act→World→Prop) (hK:∀ u w' M',Ext w0 M w M' w'→RelSt w0 M' st w'→entryOk w0 M' w' u (Dz all e1 o.guard,v)→K (a.put o.dst u) w') :
  if Region.wanted o (yielded all.toArray a.tmps) then o.wpIn (FW ro) m P a w K Q else (∀ f,o.about P w a.eval=some f→(FW ro).fn f)∧K (a.put o.dst undef) w:=by
 rw [OB h hg]
 cases hcc:Dz all e1 o.guard with
 | true =>
  rw [hcc] at hv hK
  rw [Ae rfl]
  by_cases hc:KX o.op=true
  ·obtain ⟨dst,op,l,t,d,guard⟩:=o
   cases op<;>try cases hc
   rename_i cc
   obtain ⟨callee,p,x⟩:=cc
   cases callee<;>try cases hc
   rename_i f
   obtain ⟨i,j,e⟩:=hv rfl
   refine KG h ro m i j e Q _ (fun r s q u w' M' k b c=>?_)
   obtain ⟨rfl,rfl⟩:=q
   exact hK u w' M' k b c
  ·rw [Sj hc] at hv
   obtain ⟨i,j,e⟩:=hv
   refine RB h ro m o (i rfl) Q _ (fun u w' M' k b c=>?_)
   rw [e] at b
   rw [j] at c
   exact hK u w' M' k b c
 | false =>
  rw [hcc] at hK
  rw [Af (by simp)]
  exact ⟨fun g _=>Wi ro g,hK undef w M (.refl _ _ _) h.st rfl⟩
structure Trail (P:Program) (w0:World) (n:Nat) (all os:List Oper) (e:Env) (st:St) (E:Nat→Env) (C:Nat→Bool) (V:Nat→AV):Prop where
 zero:E 0=e
 step:∀ j o,os[j]? = some o→E (j+1)=KN (E j) o.dst (C j) (V j)∧Lj all (Dy true all o (E j)) o.guard∧KP n o.dst∧Dz all (Dy true all o (E j)) o.guard=C j ∧
  Zao P w0 (Dy true all o (E j)) (C j) st o (V j)
theorem TD {all os:List Oper} {e:Env} {st:St} {o:Oper} {E:Nat→Env} {C:Nat→Bool} {V:Nat→AV} {v:AV} (hg:Lj all (Dy true all o e) o.guard) (hd:KP n o.dst)
  (ho:Zao P w0 (Dy true all o e) (Dz all (Dy true all o e) o.guard) st o v) (T:Trail P w0 n all os (KN e o.dst (Dz all (Dy true all o e) o.guard) v) st E C V) :
  Trail P w0 n all (o::os) e st (fun | 0=>e | j+1=>E j) (fun | 0=>Dz all (Dy true all o e) o.guard | j+1=>C j) (fun | 0=>v | j+1=>V j):=by
 refine ⟨rfl,fun j q hq=>?_⟩
 cases j with
 | zero =>
  simp only [List.getElem?_cons_zero,Option.some.injEq] at hq
  subst hq
  exact ⟨T.zero,hg,hd,rfl,ho⟩
 | succ j =>
  simp only [List.getElem?_cons_succ] at hq
  exact T.step j q hq
theorem TI {all:List Oper} {st:St} {KK:Env→St→Prop}:∀ (c:Nat) (os:List Oper) (e:Env),XT P w0 n true all KK c os e st→∃ E C V,Trail P w0 n all os e st E C V∧KK (E os.length) st
 | 0,_,_,h=>h.elim
 | c+1,os,e,h=>by
  have p:∀ (os:List Oper) (e:Env),evS P w0 n true all (XT P w0 n true all KK c) KK os e st→∃ E C V,Trail P w0 n all os e st E C V∧KK (E os.length) st:=by
   intro os
   induction os with
   | nil=>exact fun e h=>⟨fun _=>e,fun _=>false,fun _ => .junk,⟨rfl,fun j o u=>by simp at u⟩,h⟩
   | cons o os ih =>
    intro e h
    by_cases hc:KX o.op=true
    ·obtain ⟨t,op,q,s,k,l⟩:=o
     cases op<;>try cases hc
     rename_i cc
     obtain ⟨callee,r,y⟩:=cc
     cases callee<;>try cases hc
     rename_i f
     simp only [evS] at h
     obtain ⟨m,hd,i,x⟩:=h
     rcases x with ⟨v,k1,k2⟩ | ⟨hf,_⟩
     ·obtain ⟨E,C,V,T,b⟩:=TI c os _ k2
      exact ⟨_,_,_,TD m hd (fun d=>⟨(i d).1,(i d).2,k1 d⟩) T,b⟩
     ·cases hf
    ·rw [VD hc] at h
     obtain ⟨m,hd,i,w,a⟩:=h
     have g:=w (.inr rfl)
     simp only at g
     rw [g] at a
     obtain ⟨E,C,V,T,b⟩:=ih _ a
     exact ⟨_,_,_,TD m hd (by rw [Sj hc];exact ⟨i,rfl,g⟩) T,b⟩
  exact p os e h
theorem MJ {all os:List Oper} {e:Env} {st:St} {E:Nat→Env} {C:Nat→Bool} {V:Nat→AV} (T:Trail P w0 n all os e st E C V)
  (uniq:∀ (i j:Nat) (o p:Oper) (s:Nat),os[i]? = some o→os[j]? = some p→o.dst=some s→p.dst=some s→i=j) (s:Nat):∀ j,j≤os.length →
  ((∀ i o,i<j→os[i]? = some o→o.dst≠some s)→DG (E j) s=DG e s)∧(∀ i o,i<j→os[i]? = some o→o.dst=some s→DG (E j) s=some (C i,V i))
 | 0,_=>⟨fun _=>by rw [T.zero],fun i o h=>absurd h (by omega)⟩
 | j+1,hj=>by
  obtain ⟨g,f⟩:=MJ T uniq s j (by omega)
  have ho:os[j]? = some os[j]:=List.getElem?_eq_getElem (by omega)
  have a:=(T.step j _ ho).1
  have b:os[j].dst≠some s→DG (E (j+1)) s=DG (E j) s:=by
   intro b
   rw [a]
   cases hd:os[j].dst with
   | none=>rfl
   | some d =>
    rw [hd] at b
    simp only [KN,DG]
    rw [Af (fun h=>b (by rw [h]))]
  refine ⟨fun h=>?_,fun i o k hio hd=>?_⟩
  ·rw [b (h j _ (by omega) ho)]
   exact g fun i o k=>h i o (by omega)
  ·by_cases c:i=j
   ·subst c
    rw [ho] at hio
    cases hio
    rw [a,hd]
    simp only [KN,DG,if_true]
   ·rw [b (fun h=>c (uniq i j o _ s hio ho hd h))]
    exact f i o (by omega) hio hd
theorem Oo {F:Fence} {m:Nat} {md:Region.Mode} {ops:Array Oper} {Q':Exit→Act→World→Prop}:∀ (l:List Oper) (k:Nat) (listed:Array Bool) (a:Act) (w:World),(∀ j,l[j]? = ops[k+j]?) →
  Region.seqB md ops l.length k listed=true→wpListIn F m P ops Q' l a w→wpAnyIn F m P md ops Q' l.length listed a w
 | [],_,_,_,_,_,hB,h=>⟨by simpa [Region.seqB] using hB,h⟩
 | o::l,k,listed,a,w,hl,hB,h=>by
  have f:ops[k]? = some o:=by simpa using (hl 0).symm
  simp only [List.length_cons,Region.seqB,Bool.and_eq_true,decide_eq_true_eq] at hB
  refine ⟨fun h1=>(by rw [hB.1] at h1;cases h1),fun i hi=>?_⟩
  rw [hB.1] at hi
  have hik:i=k:=by simpa using hi
  subst hik
  have e:wpOpIn F m P ops Q' i (wpListIn F m P ops Q' l) a w:=by unfold wpOpIn;simp only [f];exact h
  exact wpOpIn_mono (fun c d b=>Oo l (i+1) _ c d (fun j=>by have:=hl (j+1);simpa [Nat.add_assoc,Nat.add_comm 1 j] using this) hB.2 b) e
def WW (o:Oper) (j:Nat):Bool:=o.after.any fun e=>Region.binds .any e&&e.on == j
theorem RY {o:Oper} {j:Nat} (h:WW o j=true):∃ e∈o.after,Region.binds .any e=true∧e.on=j:=by
 obtain ⟨e,b,a⟩:=Array.any_eq_true'.1 h
 simp only [Bool.and_eq_true,beq_iff_eq] at a
 exact ⟨e,b,a.1,a.2⟩
def Zgo (l:List Oper) (i j:Nat) (o p:Oper):Bool :=
 match p.dst with
 | some s=>(decide (i=j)||o.dst != some s)&&(!(R2 l o).contains s||(decide (j<i)&&WW o j))
 | none=>true
def Zgb (l:List Oper) (h:Nat):Bool :=
 (List.range h).all fun i=>match l[i]? with
  | some o=>(o.after.toList.all fun e => !Region.binds .any e||decide (e.on<i))&&(List.range h).all fun j=>match l[j]? with
   | some p=>Zgo l i j o p
   | none=>true
  | none=>true
def Zjt (l:List Oper) (h:Nat):Bool :=
 (List.range (l.length-h)).all fun k=>(List.range (h+k)).all fun j=>(List.range (h+k+1)).any fun q=>decide (j<q)&&(match l[q]? with | some o=>WW o j | none=>false)
def Yz (l:List Oper) (h:Nat):Bool :=
 decide (h≤l.length)&&Zgb l h&&Zjt l h&&Region.seqB .any l.toArray (l.length-h) h (Array.replicate h true++Array.replicate (l.length-h) false)
theorem PZ {l:List Oper} {h:Nat} (hB:Zgb l h=true) {i:Nat} {o:Oper} (hi:i<h) (ho:l[i]? = some o) :
  (∀ e∈o.after,Region.binds .any e=true→e.on<i)∧∀ j p s,j<h→l[j]? = some p→p.dst=some s→(o.dst=some s→i=j)∧(s∈R2 l o→j<i∧WW o j=true):=by
 have b:=List.all_eq_true.1 hB i (List.mem_range.2 hi)
 simp only [ho,Bool.and_eq_true] at b
 refine ⟨fun e f k=>?_,fun j p s m d hs=>?_⟩
 ·have:=List.all_eq_true.1 b.1 e (by simpa using f)
  simpa [k] using this
 ·have a:=List.all_eq_true.1 b.2 j (List.mem_range.2 m)
  simp only [d,Zgo,hs,Bool.and_eq_true,Bool.or_eq_true,decide_eq_true_eq,bne_iff_ne,Bool.not_eq_true'] at a
  refine ⟨fun hd=>a.1.resolve_right (fun c=>c hd),fun g=>?_⟩
  rcases a.2 with h3 | h3
  ·have:(R2 l o).contains s=true:=by simpa using g
   rw [h3] at this;cases this
  ·exact h3
theorem Zx {listed:Array Bool} {i:Nat} (h:listed.getD i true=false):∃ hi:i<listed.size,listed[i]=false:=by
 by_cases c:i<listed.size
 ·exact ⟨c,by simpa [c] using h⟩
 ·simp [Array.getD_eq_getD_getElem?,Array.getElem?_eq_none (Nat.le_of_not_lt c)] at h
theorem ZaP {listed:Array Bool} {i:Nat} (h:listed.getD i false=true):∃ hi:i<listed.size,listed[i]=true:=by
 by_cases c:i<listed.size
 ·exact ⟨c,by simpa [c] using h⟩
 ·simp [Array.getD_eq_getD_getElem?,Array.getElem?_eq_none (Nat.le_of_not_lt c)] at h
theorem EV {listed:Array Bool} {i j:Nat} (hi:i<listed.size) (b:Bool):(listed.setIfInBounds i true).getD j b=if i=j then true else listed.getD j b:=by
 by_cases c:i=j
 ·subst c;simp [hi]
 ·rw [Af c]
  simp [Array.getElem?_setIfInBounds_ne c]
structure DInv (w0:World) (n:Nat) (l:List Oper) (h:Nat) (e:Env) (st:St) (C:Nat→Bool) (V:Nat→AV) (M1:Mem) (w1:World) (ds:List Deferred) (listed:Array Bool) (a:Act) (w:World) (M:Mem):Prop where
 size:listed.size=l.length
 tail:∀ t,h≤t→t<l.length→listed.getD t true=false
 closed:∀ j oj,l[j]? = some oj→listed.getD j false=true→∀ e∈oj.after,Region.binds .any e=true→listed.getD e.on false=true
 rel:RelSt w0 M st w
 tmps:a.tmps.size=n
 defers:a.defers=ds
 ext:Ext w0 M1 w1 M w
 old:∀ s x,(∀ i o,i<h→l[i]? = some o→o.dst≠some s)→DG e s=some x→entryOk w0 M w (a.tmps.getD s undef) x
 new:∀ i o s,i<h→l[i]? = some o→o.dst=some s→listed.getD i false=true→entryOk w0 M w (a.tmps.getD s undef) (C i,V i)
theorem RQ {listed:Array Bool} {h:Nat} (hn:¬ ∀ j,j<h→listed.getD j false=true):∃ j,j<h∧listed.getD j false=false∧∀ i,i<j→listed.getD i false=true:=by
 induction h with
 | zero=>exact absurd (fun j a=>absurd a (by omega)) hn
 | succ h ih =>
  by_cases c:∀ j,j<h→listed.getD j false=true
  ·refine ⟨h,by omega,?_,c⟩
   cases hq:listed.getD h false with
   | false=>rfl
   | true =>
    exact absurd (fun j a=>by
     by_cases e:j=h
     ·exact e▸hq
     ·exact c j (by omega)) hn
  ·obtain ⟨j,f,b,d⟩:=ih c
   exact ⟨j,by omega,b,d⟩
theorem Zcr {l:List Oper} {h:Nat} {e:Env} {st:St} {E:Nat→Env} {C:Nat→Bool} {V:Nat→AV} {M1:Mem} {w1:World} {ds:List Deferred} {ro:Option Nat} {m:Nat} {Q:Exit→Act→World→Prop}
  (T:Trail P w0 n l (l.take h) e st E C V) (hB:Yz l h=true)
  (hend:∀ a w M,Rel w0 n M (E h) st a w→Ext w0 M1 w1 M w→a.defers=ds→wpListIn (FW ro) m P l.toArray Q (l.drop h) a w) :
  ∀ fuel listed a w M,fuel=listed.toList.count false→DInv w0 n l h e st C V M1 w1 ds listed a w M→wpAnyIn (FW ro) m P .any l.toArray Q fuel listed a w:=by
 simp only [Yz,Bool.and_eq_true,decide_eq_true_eq] at hB
 obtain ⟨⟨⟨a0,hH⟩,hT⟩,hS⟩:=hB
 have ax:(l.take h).length=h:=by simp;omega
 have b:∀ j,j<h→(l.take h)[j]? = l[j]? := fun j hj=>List.getElem?_take_of_lt hj
 have ae:∀ {j:Nat} {o:Oper},(l.take h)[j]? = some o→j<h:=fun {j o} hj=>by
  have:=(Ag.1 hj).1;omega
 have aa:∀ (i j:Nat) (o p:Oper) (s:Nat),(l.take h)[i]? = some o→(l.take h)[j]? = some p→o.dst=some s→p.dst=some s→i=j:=by
  intro i j o p s hi hj hs ap
  have a1:=ae hi
  have a2:=ae hj
  rw [b _ a1] at hi
  rw [b _ a2] at hj
  exact ((PZ hH a1 hi).2 j p s a2 hj ap).1 hs
 have f:∀ s j,j≤h→_:=fun s j hj=>MJ T aa s j (by omega)
 have U:∀ (listed:Array Bool) (a:Act) (w:World) (M:Mem) (fuel:Nat),fuel=listed.toList.count false→DInv w0 n l h e st C V M1 w1 ds listed a w M→(∀ j,j<h→listed.getD j false=true) →
   wpAnyIn (FW ro) m P .any l.toArray Q fuel listed a w:=by
  intro listed a w M fuel hf inv g
  have hl:listed=Array.replicate h true++Array.replicate (l.length-h) false:=by
   apply Array.ext
   ·simp [inv.size];omega
   ·intro i y Y
    by_cases c:i<h
    ·have:=g i c
     simp only [Array.getD_eq_getD_getElem?,Array.getElem?_eq_getElem y,Option.getD_some] at this
     rw [this,Array.getElem_append_left (by simpa using c)]
     simp
    ·have:=inv.tail i (by omega) (by rw [←inv.size];exact y)
     simp only [Array.getD_eq_getD_getElem?,Array.getElem?_eq_getElem y,Option.getD_some] at this
     rw [this,Array.getElem_append_right (by simpa using c)]
     simp
  have aw:fuel=(l.drop h).length:=by
   rw [hf,hl]
   simp [List.count_append,List.count_replicate]
  have z:Rel w0 n M (E h) st a w:=by
   refine ⟨inv.rel,inv.tmps,fun s x hs=>?_⟩
   by_cases c:∃ j p,j<h∧l[j]? = some p∧p.dst=some s
   ·obtain ⟨j,p,hj,hp,hd⟩:=c
    have:=(f s h (Nat.le_refl _)).2 j p hj (by rw [b _ hj];exact hp) hd
    rw [this] at hs
    cases hs
    exact inv.new j p s hj hp hd (g j hj)
   ·have:=(f s h (Nat.le_refl _)).1 (fun j p hj hp hd=>c ⟨j,p,hj,by rw [←b _ hj];exact hp,hd⟩)
    rw [this] at hs
    exact inv.old s x (fun j p hj hp hd=>c ⟨j,p,hj,hp,hd⟩) hs
  rw [aw]
  refine Oo (l.drop h) h listed a w (fun j=>by simp [List.getElem?_drop]) ?_ (hend a w M z inv.ext inv.defers)
  rw [hl,List.length_drop]
  exact hS
 have O:∀ (listed:Array Bool) (t:Nat) (o:Oper),(∀ j oj,l[j]? = some oj→listed.getD j false=true→∀ e∈oj.after,Region.binds .any e=true→listed.getD e.on false=true) →
   l[t]? = some o→h≤t→(∀ e∈o.after,Region.binds .any e=true→listed.getD e.on false=true)→∀ d j,j+d+1=t→listed.getD j false=true:=by
  intro listed t o ak ho ht r d
  induction d using Nat.strongRecOn with
  | _ d ih =>
   intro j hj
   have a3:t<l.length:=(Ag.1 ho).1
   have y:=List.all_eq_true.1 (List.all_eq_true.1 hT (t-h) (List.mem_range.2 (by omega))) j (List.mem_range.2 (by omega))
   obtain ⟨q,hq,Y⟩:=List.any_eq_true.1 y
   have a4:q≤t:=by have:=List.mem_range.1 hq;omega
   simp only [Bool.and_eq_true,decide_eq_true_eq] at Y
   obtain ⟨a5,h3⟩:=Y
   cases hoq:l[q]? with
   | none=>simp [hoq] at h3
   | some oq =>
    simp only [hoq] at h3
    obtain ⟨N,J,H,G⟩:=RY h3
    by_cases c:q=t
    ·subst c
     rw [ho] at hoq;cases hoq
     exact G▸r N J H
    ·have:=ih (t-q-1) (by omega) q (by omega)
     exact G▸ak q oq hoq this N J H
 intro fuel
 induction fuel with
 | zero =>
  intro listed a w M hf inv
  refine U listed a w M 0 hf inv (fun j hj=>?_)
  cases hq:listed.getD j false with
  | true=>rfl
  | false =>
   exfalso
   have ag:j<listed.size:=by rw [inv.size];omega
   have:false∈listed.toList:=by
    have e1:listed[j]=false:=by simpa [ag] using hq
    rw [←e1];simp
   have:=List.count_pos_iff.2 this
   omega
 | succ fuel ih =>
  intro listed a w M hf inv
  by_cases g:∀ j,j<h→listed.getD j false=true
  ·exact U listed a w M _ hf inv g
  ·obtain ⟨k,af,ad,am⟩:=RQ g
   have av:k<listed.size:=by rw [inv.size];omega
   have ao:l[k]? = some l[k]:=List.getElem?_eq_getElem (by omega)
   have K:k∈Region.ready .any l.toArray listed:=by
    refine mem_ready.2 ⟨by simpa [av] using ad,l[k],by simp,fun N he hb=>am _ ((PZ hH af ao).1 N he hb)⟩
   refine ⟨fun h0=>absurd K (by rw [h0];simp),fun i hi=>?_⟩
   obtain ⟨ar,o,ho,r⟩:=mem_ready.1 hi
   have u:l[i]? = some o:=by simpa using ho
   have az:i<l.length:=(Ag.1 u).1
   have Z:i<h:=by
    refine Nat.lt_of_not_le fun ai=>?_
    have:=O listed i o inv.closed u ai r (i-k-1) k (by omega)
    rw [ad] at this;cases this
   obtain ⟨t1,t2,t3,t4,t5⟩:=T.step i o (by rw [b _ Z];exact u)
   have D:=PZ hH Z u
   have z:Rel w0 n M (Dy true l o (E i)) st a w:=by
    refine ⟨inv.rel,inv.tmps,fun s x hs=>?_⟩
    simp only [Dy,if_true] at hs
    have hm:=L2 _ _ _ _ hs
    have hl:=IL _ _ _ _ hs
    by_cases c:∃ j p,j<h∧l[j]? = some p∧p.dst=some s
    ·obtain ⟨j,p,hj,hp,hd⟩:=c
     obtain ⟨aj,hw⟩:=(D.2 j p s hj hp hd).2 hm
     obtain ⟨N,J,H,G⟩:=RY hw
     have aq:listed.getD j false=true:=G▸r N J H
     have:=(f s i (by omega)).2 j p aj (by rw [b _ hj];exact hp) hd
     rw [this] at hl
     cases hl
     exact inv.new j p s hj hp hd aq
    ·have:=(f s i (by omega)).1 (fun j p hj hp hd=>c ⟨j,p,by omega,by rw [←b _ (by omega)];exact hp,hd⟩)
     rw [this] at hl
     exact inv.old s x (fun j p hj hp hd=>c ⟨j,p,hj,hp,hd⟩) hl
   unfold wpOpIn
   simp only [ho]
   have F:i<listed.size:=by rw [inv.size];omega
   refine RV z ro m t2 (by rw [t4];exact t5) Q _ fun v w' M' hx au hv=>?_
   rw [t4] at hv
   refine ih _ _ _ M' ?_ ?_
   ·have ab:listed[i]=false:=by simpa [F] using ar
    have ay:0<listed.toList.count false:=List.count_pos_iff.2 (by rw [←ab];simp)
    rw [Array.toList_setIfInBounds,List.count_set (by simpa using F)]
    simp only [Array.getElem_toList,ab]
    rw [Ae (show (false == false)=true from rfl),Af (show ¬ (true == false)=true by decide)]
    omega
   ·have keep:∀ s x,o.dst≠some s→entryOk w0 M w (a.tmps.getD s undef) x→entryOk w0 M' w' ((a.put o.dst v).tmps.getD s undef) x:=by
     intro s x ah y
     rw [Ko a o.dst v s (by rw [inv.tmps];exact t3),Af ah]
     exact y.mono hx
    refine ⟨by simp [inv.size],fun t y Y=>?_,fun j oj hj hl N he hb=>?_,au,by rw [Ql];exact inv.tmps,by rw [KF];exact inv.defers,inv.ext.trans hx,fun s x y Y=>?_,fun j p s hj hp hd hl=>?_⟩
    ·rw [EV F,Af (by omega)];exact inv.tail t y Y
    ·rw [EV F] at hl ⊢
     split
     ·rfl
     ·by_cases c:i=j
      ·subst c
       rw [u] at hj;cases hj
       exact r N he hb
      ·rw [Af c] at hl
       exact inv.closed j oj hj hl N he hb
    ·exact keep s x (y i o Z u) (inv.old s x y Y)
    ·by_cases c:i=j
     ·subst c
      rw [u] at hp;cases hp
      rw [Ko a o.dst v s (by rw [inv.tmps];exact t3),Ae hd]
      exact hv
     ·rw [EV F,Af c] at hl
      refine keep s _ (fun hs=>c ((D.2 j p s hj hp hd).1 hs)) (inv.new j p s hj hp hd hl)
theorem Zcc {M0:Mem} {W0:World} {ro:Option Nat} {Q:AQ} {e:Env} {st:St} (hm:P.follows .mixedOrders=true) (h:Nat) (c1 c2:Nat) (L:List Nat) {id:Nat} {l:List Oper} (hB:Yz l h=true)
  (hev:XT P w0 n true l (fun e1 s1=>XT P w0 n false l (fun e2 s2=>Q .normal (Do L e2) s2) c2 (l.drop h) e1 s1) c1 (l.take h) e st):GE P w0 n M0 W0 ro (.region id l.toArray true) Q e st:=by
 intro m M a w b
 obtain ⟨E,C,V,T,p⟩:=TI _ _ _ hev
 have z:h≤l.length:=by
  simp only [Yz,Bool.and_eq_true,decide_eq_true_eq] at hB;exact hB.1.1.1
 have g:(l.take h).length=h:=by simp;omega
 rw [g] at p
 obtain ⟨F,o⟩:=b.rel.st.drew
 refine wpIn_region_any hm (Zcr T hB (M1:=M) (w1:=w) (ds:=a.defers) (fun a1 w1 M1 i f k=>?_) _ _ a _ M (by simp) ?_)
 ·refine QV ro m false l _ _ c2 _ _ st a1 w1 M1 i p fun e2 s2 a2 G r v u q D=>⟨r,_,_,⟨u.sub (Bg L _),b.ext.trans (f.trans q),?_⟩,v⟩
  rw [D,k]
  exact b.marks.later (f.trans q) b.rel.st
 ·exact ⟨by simp,fun t _ y=>by simp [Array.getD_eq_getD_getElem?,y],fun j _ _ d=>by
   exfalso
   by_cases c:j<l.length
   ·simp [Array.getD_eq_getD_getElem?,c] at d
   ·simp [Array.getD_eq_getD_getElem?,c] at d,F,b.rel.size,rfl,o,fun s x _ hs=>(b.rel.env s x hs).mono o,fun j _ _ _ _ _ d=>by
   exfalso
   by_cases c:j<l.length
   ·simp [Array.getD_eq_getD_getElem?,c] at d
   ·simp [Array.getD_eq_getD_getElem?,c] at d⟩
end
def St.ext (s X:St):St:=⟨s.boxes++X.boxes,s.rows++X.rows,s.loops++X.loops⟩
def St.push (s:St) (la:LoopA):St:={ s with loops:=s.loops++[la] }
def St.like (s t:St):Prop:=s.boxes.length=t.boxes.length∧t.rows.length≤s.rows.length∧s.loops.length=t.loops.length
def ZfS (P:Program) (w0:World) (gf:FuncId) (caps:List AV) (items:List (List AV)) (Fr:St→Prop):Prop :=
 ∀ (k:Nat) (J:Nat→St→Prop) (Jx:St→Prop),(∀ i s,J i s→Fr s∧k<s.loops.length) →
  (∀ i s x X,X.rows=[]→J i s→items[i]? = some x→UO P w0 k x (s.ext X) fun r s'=>∃ t,s'=t.ext X∧t.like s∧((r = .val (.bool true)∧J (i+1) t)∨(r = .val (.bool false)∧Jx t))) →
  ∀ s,J 0 s→ACalls P w0 gf (.yld k::caps) s fun _ s'=>∃ t X,X.rows=[]∧s'=St.ext t X∧(J items.length t∨Jx t)
def Wh:Env→List Nat→List AV→Env
 | e,p::ps,x::xs=>Wh ((p,true,x)::e) ps xs
 | e,_,_=>e
section
variable {P:Program} {w0:World} {n:Nat} {M:Mem} {e:Env} {st:St} {a:Act} {w:World}
theorem Rel.bind:∀ (ps:List Nat) (vs:List Value) (xs:List AV) (e:Env) (a:Act),Rel w0 n M e st a w→ps.length=xs.length→(∀ p∈ps,p<n)→vs.length=xs.length→(∀ (i:Nat) (v:Value) (x:AV),vs[i]? = some v→xs[i]? = some x→R w0 M w v x) →
  Rel w0 n M (Wh e ps xs) st { tmps:=(ps.zip vs).foldl (fun t (p,v)=>t.setIfInBounds p v) a.tmps,defers:=a.defers } w
 | [],[],[],_,_,h,_,_,_,_=>h
 | p::ps,v::vs,x::xs,e,a,h,h1,h2,h3,h4=>by
  simp only [List.zip_cons_cons,List.foldl_cons,Wh]
  have b:p<n:=h2 p (by simp)
  have:=h.put (M':=M) (w':=w) (st':=st) (.refl _ _ _) h.st (dst:=some p) b (c:=true) (v:=v) (r:=x) (h4 0 v x rfl rfl)
  exact Rel.bind ps vs xs _ (a.put (some p) v) this (by simpa using h1) (fun q d=>h2 q (by simp [d])) (by simpa using h3) (fun i u y g f=>h4 (i+1) u y g f)
 | [],_::_,[],_,_,_,_,_,h,_=>by simp at h
 | [],_,_::_,_,_,_,h,_,_,_=>by simp at h
 | _::_,_,[],_,_,_,h,_,_,_=>by simp at h
 | _::_,[],_::_,_,_,_,_,_,h,_=>by simp at h
theorem RelSt.setLoop (h:RelSt w0 M st w) {k:Nat} {la:LoopA} (hk:st.loops[k]? = some la) (s:LoopState) (p:Option Code) {r:Loop} (hr:w.heap[M.lb k]? = some (.loop r)) :
  RelSt w0 M { st with loops:=st.loops.set k { la with st:=s,pend:=p } } (w.putObj (M.lb k) (.loop { r with state:=s,pending:=p }))∧Ext w0 M w M (w.putObj (M.lb k) (.loop { r with state:=s,pending:=p })):=by
 have g:k<st.loops.length:=(Ag.1 hk).1
 have m:k<M.NL:=by rw [h.loop.NL];exact g
 have y:M.lb k<w.heap.size:=(Array.getElem?_eq_some_iff.1 hr).1
 obtain ⟨g0,U,g1,g2,g3,g4,g5,g6,H,G⟩:=h.loop.record k la hk
 rw [hr] at g1
 cases g1
 generalize ho':Obj.loop { r with state:=s,pending:=p }=o'
 have hs:∀ (b a:Nat) (v:Value),w.cell? ⟨b,a,none⟩=some v→(w.putObj (M.lb k) o').cell? ⟨b,a,none⟩=some v:=fun b a v=>Ol hr rfl
 have z:∀ {b:Nat} {c:Array Value} {f:TypeId},w.heap[b]? = some (.cells c f (0,0))→(w.putObj (M.lb k) o').heap[b]? = some (.cells c f (0,0)):=by
  intro b c f hb
  rw [World.putObj_heap_other (fun e=>by subst e;rw [hr] at hb;cases hb)]
  exact hb
 refine ⟨⟨Below.putObj h.below g0 _,h.N,h.NR,fun b hb=>h.top b (by simpa using hb),h.inj,fun l cs t=>?_,fun id x Q=>(h.row id x Q).same hs z (by simp),h.rowinj,⟨by simp [h.loop.NL],h.loop.inj,fun j J hj=>?_⟩⟩,
  ⟨Nat.le_refl _,fun _ _=>rfl,Nat.le_refl _,fun _ _=>⟨Nat.le_refl _,fun _=>⟨rfl,rfl,rfl⟩⟩,fun b a v u E=>⟨hs b a v E,u⟩,by simp,Nat.le_refl _,fun _ _=>rfl,fun _ _ _=>by omega,fun b o u _ O=>?_⟩⟩
 ·obtain ⟨a1,a2,c,f,a3,a4,a5,a6⟩:=h.box l cs t
  exact ⟨a1,a2,c,f,z a3,a4,a5,fun i F K=>(a6 i F K).same hs⟩
 ·by_cases q:j=k
  ·subst q
   rw [List.getElem?_set_self g] at hj
   cases hj
   exact ⟨g0,{ r with state:=s,pending:=p },by rw [←ho'];exact World.putObj_heap_same y,rfl,rfl,g4,g5,g6,H,fun s x d=>(G s x d).same hs⟩
  ·rw [List.getElem?_set_ne (Ne.symm q)] at hj
   have n:j<M.NL:=by rw [h.loop.NL];exact (Ag.1 hj).1
   obtain ⟨a1,r,a2,a3,a4,a5,a6,a7,D,C⟩:=h.loop.record j J hj
   exact ⟨a1,r,by rw [World.putObj_heap_other (fun e=>q (h.loop.inj j k n m e))];exact a2,a3,a4,a5,a6,a7,D,fun s x d=>(C s x d).same hs⟩
 ·rw [World.putObj_heap_other (fun e=>O k m e.symm)]
  exact u
def Mem.newLoop (M:Mem) (b:Nat):Mem:={ M with NL:=M.NL+1,lb:=fun k=>if k=M.NL then b else M.lb k }
theorem Rel.newLoop (h:Rel w0 n M e st a w) (fn:FuncId) (ps:Array Tmp) (asg body:Code) :
  RelSt w0 (M.newLoop (w.heap.size+1)) (st.push ⟨e,n,ps,asg,body,.ready,none⟩) ((w.alloc (.deferred (some []))).alloc (.loop { state := .ready,pending:=none,fn,tmps:=a.tmps,params:=ps,assign:=asg,body,defers:=w.heap.size })) ∧
  Ext w0 M w (M.newLoop (w.heap.size+1)) ((w.alloc (.deferred (some []))).alloc (.loop { state := .ready,pending:=none,fn,tmps:=a.tmps,params:=ps,assign:=asg,body,defers:=w.heap.size })):=by
 generalize hr:({ state := .ready,pending:=none,fn,tmps:=a.tmps,params:=ps,assign:=asg,body,defers:=w.heap.size }:Loop)=r
 have g:KeepsObj w ((w.alloc (.deferred (some []))).alloc (.loop r)):=(KeepsObj.alloc _ _).trans (KeepsObj.alloc _ _)
 have u:∀ (b p:Nat) (v:Value),w.cell? ⟨b,p,none⟩=some v→((w.alloc (.deferred (some []))).alloc (.loop r)).cell? ⟨b,p,none⟩=some v:=by
  intro b p v hv
  have m:=World.block_lt_of_cell? w _ hv
  rw [World.cell?_alloc_lt _ _ _ (by simp;exact Nat.lt_succ_of_lt m),World.cell?_alloc_lt _ _ _ m]
  exact hv
 have f:∀ k,k<M.NL→(M.newLoop (w.heap.size+1)).lb k=M.lb k:=fun k hk=>by simp [Mem.newLoop];omega
 have d:(M.newLoop (w.heap.size+1)).lb M.NL=w.heap.size+1:=by simp [Mem.newLoop]
 have z:Ext w0 M w (M.newLoop (w.heap.size+1)) ((w.alloc (.deferred (some []))).alloc (.loop r)) :=
  ⟨Nat.le_refl _,fun _ _=>rfl,Nat.le_refl _,fun _ _=>⟨Nat.le_refl _,fun _=>⟨rfl,rfl,rfl⟩⟩,fun b p v D C=>⟨u b p v C,D⟩,by simp;omega,Nat.le_succ _,f,fun k D C=>by
   have:k=M.NL:=by simp only [Mem.newLoop] at C;omega
   rw [this,d];omega,fun b o D C _=>g b o D C⟩
 have H:∀ {b:Nat},b<w.heap.size→((w.alloc (.deferred (some []))).alloc (.loop r)).heap[b]? = w.heap[b]? := fun {b} F=>by
  rw [BD _ _ (by simp;omega),BD _ _ F]
 refine ⟨⟨(h.st.below.alloc h.st.base_le _).alloc (by have:=h.st.base_le;simp;omega) _,h.st.N,h.st.NR,fun b F=>h.st.top b (by simp at F;omega),h.st.inj,fun l cs U=>?_,fun id x E=>(h.st.row id x E).keep z rfl rfl rfl rfl rfl (h.st.row id x E).ne (H (h.st.row id x E).lt),h.st.rowinj,⟨by simp [Mem.newLoop,St.push,h.st.loop.NL],fun k y hk t q=>?_,fun k Q hk=>?_⟩⟩,z⟩
 ·obtain ⟨a1,a2,c,K,a3,a4,a5,a6⟩:=h.st.box l cs U
  exact ⟨a1,a2,c,K,by rw [show (M.newLoop (w.heap.size+1)).bx l=M.bx l from rfl,H (Array.getElem?_eq_some_iff.1 a3).1];exact a3,a4,a5,fun i V Z=>(a6 i V Z).mono z⟩
 ·have m:∀ j,j<M.NL→M.lb j<w.heap.size:=fun j Y=>by
   obtain ⟨_,r,q,_⟩:=h.st.loop.record j _ (List.getElem?_eq_getElem (by rw [←h.st.loop.NL];exact Y))
   exact (Array.getElem?_eq_some_iff.1 q).1
  simp only [Mem.newLoop] at hk t
  by_cases c:k=M.NL
  ·by_cases c':y=M.NL
   ·omega
   ·subst c
    rw [d,f y (by omega)] at q
    have:=m y (by omega)
    omega
  ·by_cases c':y=M.NL
   ·subst c'
    rw [d,f k (by omega)] at q
    have:=m k (by omega)
    omega
   ·rw [f k (by omega),f y (by omega)] at q
    exact h.st.loop.inj k y (by omega) (by omega) q
 ·simp only [St.push] at hk
  by_cases c:k=st.loops.length
  ·subst c
   simp only [List.getElem?_concat_length,Option.some.injEq] at hk
   subst hk
   rw [←h.st.loop.NL,d]
   refine ⟨by have:=h.st.base_le;omega,r,?_,?_⟩
   ·have:=World.alloc_heap_new (w.alloc (.deferred (some []))) (.loop r)
    rwa [World.size_alloc] at this
   ·have G:r.tmps=a.tmps:=by rw [←hr]
    exact ⟨by rw [←hr],by rw [←hr],by rw [←hr],by rw [←hr],by rw [←hr],by rw [G];exact h.size,fun s x hs=>by rw [G];exact (h.env s x hs).mono z⟩
  ·have t:k<st.loops.length:=by
    have:=(Ag.1 hk).1
    simp at this;omega
   rw [List.getElem?_append_left t] at hk
   obtain ⟨a1,r',a2,a3,a4,a5,a6,a7,O,J⟩:=h.st.loop.record k Q hk
   rw [f k (by rw [h.st.loop.NL];exact t)]
   exact ⟨a1,r',g _ _ a2 rfl,a3,a4,a5,a6,a7,O,fun s x hs=>(J s x hs).mono z⟩
def ZO (I:Exit→St→Prop) (s1 X:St) (la:LoopA):AQ:=fun x _ s =>
 ∃ t b,s=⟨t.boxes++X.boxes++b,t.rows,(s1.loops++[la])++X.loops⟩∧t.like s1∧t.loops=s1.loops∧I x t ∧
  (b=[]∨Calm (s1.boxes.length+X.boxes.length) t.rows.length s.loops.length ⟨t.boxes++X.boxes,t.rows,s.loops⟩)
def Ua:Exit→Option (Option Code)
 | .normal=>some none
 | .ret=>some (some .ret)
 | .exit id=>some (some (.exit id))
 | _=>none
theorem Za1 {M0:Mem} {W0:World} {I:Exit→St→Prop} {s1 X:St} (hX:X.rows=[]) {la:LoopA} {Post:AV→St→Prop} {x:Exit} {jump:Option Code}
  (h0:RelSt w0 M0 ((s1.push { la with st := .ready,pend:=none }).ext X) W0) (hx0:Ext w0 M0 W0 M w) {e':Env} {s':St} (hr:RelSt w0 M s' w) (hq:ZO I s1 X { la with st := .busy,pend:=none } x e' s')
  (hpost:∀ t,t.like s1→t.loops=s1.loops→I x t→Post (.val (.bool jump.isNone)) ((t.push { la with st:=if jump.isNone then .ready else .done,pend:=jump }).ext X)) :
  ∃ v w',(Instr.endRound (M0.lb s1.loops.length) jump).run P w = .ok v w'∧Comes' w0 M0 W0 Post (.returned v) w':=by
 obtain ⟨t,b,rfl,p,o,E,t4⟩:=hq
 have n:((s1.loops++[{ la with st := .busy,pend:=none }])++X.loops)[s1.loops.length]? = some { la with st := .busy,pend:=none }:=by
  rw [List.getElem?_append_left (by simp),List.getElem?_concat_length]
 obtain ⟨_,D,g1,_⟩:=hr.loop.record _ _ n
 have g:s1.loops.length<M0.NL:=by rw [h0.loop.NL];simp [St.ext,St.push]
 rw [←hx0.lb _ g]
 obtain ⟨e,s⟩:=hr.setLoop n (if jump.isNone then .ready else .done) jump g1
 refine ⟨_,_,run_endRound jump g1,?_⟩
 have u:((s1.loops++[{ la with st := .busy,pend:=none }])++X.loops).set s1.loops.length { la with st:=if jump.isNone then .ready else .done,pend:=jump }=(s1.loops++[{ la with st:=if jump.isNone then .ready else .done,pend:=jump }])++X.loops:=by
  rw [List.set_append_left _ _ (by simp),List.set_append_right _ _ (by simp)]
  simp
 simp only at e
 rw [u] at e
 have f:=hx0.trans s
 have hd:M0.N=s1.boxes.length+X.boxes.length∧M0.NR=s1.rows.length∧M0.NL=s1.loops.length+1+X.loops.length:=by
  refine ⟨by rw [h0.N];simp [St.ext,St.push],by rw [h0.NR];simp [St.ext,St.push,hX],by rw [h0.loop.NL];simp [St.ext,St.push];omega⟩
 obtain ⟨C,H,z⟩:=p
 have j:=hpost t ⟨C,H,z⟩ o E
 have m:(t.push { la with st:=if jump.isNone then .ready else .done,pend:=jump }).ext X=⟨t.boxes++X.boxes,t.rows,(s1.loops++[{ la with st:=if jump.isNone then .ready else .done,pend:=jump }])++X.loops⟩:=by
  simp only [St.push,St.ext,o,hX,List.append_nil]
 rw [m] at j
 have c:∀ M' w',R w0 M' w' (.bool jump.isNone) (.val (.bool jump.isNone)):=fun _ _ => .flat rfl
 rcases t4 with rfl | t4
 ·simp only [List.append_nil] at e
  exact ⟨_,M,_,_,rfl,j,f,e,c _ _⟩
 ·refine ⟨_,M.cut (s1.boxes.length+X.boxes.length) t.rows.length (s1.loops.length+1+X.loops.length),_,_,rfl,j,f.cut (by omega) (by omega) (by omega) (by rw [e.loop.NL];simp;omega),?_,c _ _⟩
  have d:=e.cut (nb:=s1.boxes.length+X.boxes.length) (nr:=t.rows.length) (nl:=s1.loops.length+1+X.loops.length) (by simp;omega) (by simp) (by simp;omega)
  have r:List.take (s1.boxes.length+X.boxes.length) (t.boxes++X.boxes++b)=t.boxes++X.boxes:=List.take_left' (by simp;omega)
  have F:List.take t.rows.length t.rows=t.rows:=List.take_length
  have G:∀ a,List.take (s1.loops.length+1+X.loops.length) (s1.loops++[a]++X.loops)=s1.loops++[a]++X.loops:=fun a=>List.take_of_length_le (by simp;omega)
  simp only [St.cut,r,F,G] at d
  have i:(s1.loops++[{ la with st:=LoopState.busy,pend:=none }]++X.loops).length=s1.loops.length+1+X.loops.length:=by simp;omega
  refine d ⟨?_,?_,fun a hla k y l h=>?_⟩
  ·have:=t4.rows
   simp only [i] at this
   exact this
  ·have:=t4.boxes
   simp only [i] at this
   exact this
  ·have q:=t4.loops
   simp only [i] at q
   simp only [List.mem_append,List.mem_singleton] at hla q
   rcases hla with (hla | rfl) | hla
   ·exact q a (.inl (.inl hla)) k y l h
   ·exact q { la with st := .busy,pend:=none } (.inl (.inr rfl)) k y l h
   ·exact q a (.inr hla) k y l h
structure RoundAt (M0:Mem) (s:St):Prop where
 N:M0.N=s.boxes.length
 NR:M0.NR=s.rows.length
 NL:M0.NL=s.loops.length
 calm:Calm s.boxes.length s.rows.length s.loops.length s
theorem RoundAt.turn {M0:Mem} {s X:St} {la la':LoopA} (h:RoundAt M0 ((s.push la).ext X)) (he:la'.e=la.e):RoundAt M0 ((s.push la').ext X) where
 N:=h.N
 NR:=h.NR
 NL:=by rw [h.NL];simp [St.ext,St.push]
 calm:=by
  have f:((s.push la').ext X).loops.length=((s.push la).ext X).loops.length:=by simp [St.ext,St.push]
  rw [f]
  refine ⟨h.calm.rows,h.calm.boxes,fun l d k x a c=>?_⟩
  have b:l∈s.loops∨l=la'∨l∈X.loops:=by simpa [St.ext,St.push,or_assoc] using d
  rcases b with q | rfl | q
  ·exact h.calm.loops l (by simp [St.ext,St.push,q]) k x a c
  ·rw [he] at a
   exact h.calm.loops la (by simp [St.ext,St.push]) k x a c
  ·exact h.calm.loops l (by simp [St.ext,St.push,q]) k x a c
theorem Zbi {la:LoopA} {s1 X:St} (hX:X.rows=[]) {I:Exit→St→Prop} {x:List AV} {Post:AV→St→Prop} (hlen:x.length=la.ps.size) (hps:∀ p∈la.ps.toList,p<la.n)
  (hbody:∀ (M0:Mem) (W0:World) (l:Nat),RoundAt M0 ((s1.push { la with st := .ready,pend:=none }).ext X)→RoundAt M0 ((s1.push { la with st := .busy,pend:=none }).ext X)→GE P w0 la.n M0 W0 (some l) la.asg (Wb (fun e' s'=>s'.loops=((s1.push { la with st := .ready,pend:=none }).ext X).loops ∧
   GE P w0 la.n M0 W0 (some l) la.body (ZO I s1 X { la with st := .busy,pend:=none }) e' { s' with loops:=((s1.push { la with st := .busy,pend:=none }).ext X).loops }) (fun _ _ _=>False))
   (Wh la.e la.ps.toList x) ((s1.push { la with st := .ready,pend:=none }).ext X))
  (hI:∀ ex s,I ex s→(Ua ex).isSome=true)
  (hpost:∀ ex jump t,Ua ex=some jump→t.like s1→t.loops=s1.loops→I ex t→Post (.val (.bool jump.isNone)) ((t.push { la with st:=if jump.isNone then .ready else .done,pend:=jump }).ext X)) :
  UO P w0 s1.loops.length x ((s1.push { la with st := .ready,pend:=none }).ext X) Post:=by
 intro M w d c f
 have U:((s1.push { la with st := .ready,pend:=none }).ext X).loops[s1.loops.length]? = some { la with st := .ready,pend:=none }:=by
  simp only [St.ext,St.push]
  rw [List.getElem?_append_left (by simp),List.getElem?_concat_length]
 obtain ⟨_,r,g1,g2,g3,g4,g5,g6,Z,Y⟩:=c.loop.record _ _ U
 simp only at g2 g3 g4 g5 g6 Z Y
 have K:=run_yield (P:=P) (args:=d) g1 (by rw [g4,f.1,hlen])
 refine ⟨_,_,_,_,K,fun m=>roundIn_of_wpIn (F:=Fence.wide) trivial ?_⟩
 rw [g5,g6]
 have o:Rel w0 la.n M la.e ((s1.push { la with st := .ready,pend:=none }).ext X) { tmps:=r.tmps,defers:=[] } w:=⟨c,Z,Y⟩
 have u:=Rel.bind la.ps.toList d.toList x la.e _ o (by simp [hlen]) hps (by simp [f.1]) (fun i v y hv K=>f.get (by rw [←Array.getElem?_toList];exact hv) K)
 have J:(r.params.zip d).foldl (fun tmps (t,a)=>tmps.setIfInBounds t a) r.tmps=(la.ps.toList.zip d.toList).foldl (fun t (p,v)=>t.setIfInBounds p v) r.tmps:=by
  rw [g4,←Array.foldl_toList,Array.toList_zip]
 rw [J]
 refine wpIn_mono (hbody M w (M.lb s1.loops.length) ⟨c.N,c.NR,c.loop.NL,c.calm⟩ (RoundAt.turn (la:={ la with st := .ready,pend:=none }) ⟨c.N,c.NR,c.loop.NL,c.calm⟩ rfl) m M _ w ⟨u,.refl _ _ _,[],by simp⟩) ?_
 rintro ex a1 w1 ⟨M1,e1,s',h,V⟩
 cases ex with
 | normal =>
  obtain ⟨C,hb⟩:=V
  have q:s'.loops[s1.loops.length]? = some { la with st := .ready,pend:=none }:=by rw [C];exact U
  obtain ⟨_,G,E,k2,_⟩:=h.rel.st.loop.record _ _ q
  have Q:s1.loops.length<M.NL:=by rw [c.loop.NL];simp [St.ext,St.push]
  have g:=h.ext.lb _ Q
  rw [g] at E
  refine ⟨_,run_beginRound E k2,?_⟩
  obtain ⟨D,z⟩:=h.rel.st.setLoop q .busy none (by rw [g];exact E)
  rw [g] at D z
  have k:G.pending=none:=by
   obtain ⟨_,aa,k1',_,H,_⟩:=h.rel.st.loop.record _ _ q
   rw [g,E] at k1'
   cases k1'
   exact H
  have er:({ G with state:=LoopState.busy,pending:=none }:Loop)={ G with state:=LoopState.busy }:=by rw [←k]
  rw [er] at D z
  have eL:{ s' with loops:=s'.loops.set s1.loops.length { la with st := .busy,pend:=none } }={ s' with loops:=((s1.push { la with st := .busy,pend:=none }).ext X).loops }:=by
   rw [C]
   simp only [St.ext,St.push]
   rw [List.set_append_left _ _ (by simp),List.set_append_right _ _ (by simp)]
   simp
  simp only at D
  rw [eL] at D
  have O:At w0 la.n M w e1 { s' with loops:=((s1.push { la with st := .busy,pend:=none }).ext X).loops } a1 (w1.putObj (M.lb s1.loops.length) (.loop { G with state := .busy })) M1 :=
   ⟨⟨D,h.rel.size,fun s x hs=>(h.rel.env s x hs).mono z⟩,h.ext.trans z,h.marks.later z h.rel.st⟩
  refine wpIn_mono (hb m M1 a1 _ O) ?_
  rintro ex a2 w2 ⟨M2,e2,s2,h3,h4⟩
  have j:=hI ex
  have fin:∀ jump,Ua ex=some jump→∃ v w',(Instr.endRound (M.lb s1.loops.length) jump).run P w2 = .ok v w'∧Comes' w0 M w Post (.returned v) w':=fun jump hj =>
   Za1 hX (jump:=jump) c h3.ext h3.rel.st h4 (fun t t1 t2 t3=>hpost ex jump t hj t1 t2 t3)
  obtain ⟨t,b,q1,q2,q3,q4,q5⟩:=h4
  have:=j t q4
  cases ex with
  | normal=>exact fin _ rfl
  | ret=>exact fin _ rfl
  | exit id=>exact fin _ rfl
  | _=>simp [Ua] at this
 | _=>exact V.elim
theorem RH {M0:Mem} {W0:World} {Q:AQ} {g:Operand} {ps:Array Tmp} {asg body:Code} {gf:FuncId} {caps:List AV} (items:List (List AV)) (Fr:St→Prop) (I:Nat→St→Prop) (Ix:Exit→St→Prop)
  (hg:AM e true g) (hgv:Ar e g = .clo gf caps) (hit:ZfS P w0 gf caps items Fr) (hlen:∀ x∈items,x.length=ps.size) (hps:∀ p∈ps.toList,p<n)
  (hFr:∀ i s la,I i s→s.like st→s.loops=st.loops→Fr (s.push la)) (h0:I 0 st) (hIx:∀ ex s,Ix ex s→ex = .ret∨∃ id,ex = .exit id)
  (hbody:∀ (i:Nat) (s1 X:St) (x:List AV) (M0:Mem) (W0:World) (l:Nat) (la la':LoopA),X.rows=[]→I i s1→s1.like st→s1.loops=st.loops→items[i]? = some x→RoundAt M0 ((s1.push la').ext X) →
   ∀ K:Env→St→Prop,(∀ e' s',s'.loops=((s1.push la).ext X).loops→(∀ KQ:AQ,(∀ ex e s,ZO (fun ex s=>match ex with | .normal=>I (i+1) s | _=>Ix ex s) s1 X la' ex e s→KQ ex e s)→GE P w0 n M0 W0 (some l) body KQ e' { s' with loops:=((s1.push la').ext X).loops })→K e' s') →
   GE P w0 n M0 W0 (some l) asg (Wb K (fun _ _ _=>False)) (Wh e ps.toList x) ((s1.push la).ext X))
  (hdone:∀ s la X,X.rows=[]→I items.length s→s.like st→s.loops=st.loops→Q .normal e ((s.push la).ext X))
  (hleft:∀ ex s la X,X.rows=[]→Ix ex s→s.like st→s.loops=st.loops→Q ex e ((s.push la).ext X)):GE P w0 n M0 W0 none (.rangeFunc g ps asg body) Q e st:=by
 intro m M a w f
 refine wpIn_rangeFunc fun fn _=>?_
 obtain ⟨n1,n2⟩:=f.rel.newLoop fn ps asg body
 obtain ⟨cs,ae,C⟩:=WS (hgv▸Bc f.rel hg)
 generalize hW1:((w.alloc (.deferred (some []))).alloc (.loop { state := .ready,pending:=none,fn,tmps:=a.tmps,params:=ps,assign:=asg,body,defers:=w.heap.size }))=W1 at n1 n2
 generalize hM1:M.newLoop (w.heap.size+1)=M1 at n1 n2
 have ah:M.NL=st.loops.length:=f.rel.st.loop.NL
 have E:M1.lb st.loops.length=w.heap.size+1:=by rw [←hM1,←ah];simp [Mem.newLoop]
 have Z:∀ k,k<st.loops.length→M1.lb k<w.heap.size:=fun k Y=>by
  obtain ⟨_,r,q,_⟩:=f.rel.st.loop.record k _ (List.getElem?_eq_getElem Y)
  rw [n2.lb k (by omega)]
  exact (Array.getElem?_eq_some_iff.1 q).1
 have am:M1.NL=st.loops.length+1:=by rw [n1.loop.NL];simp [St.push]
 have z:W1.heap[w.heap.size]? = some (.deferred (some [])):=by
  rw [←hW1];exact (BD _ _ (by simp)).trans (World.alloc_heap_new w _)
 let la0:LoopA:=⟨e,n,ps,asg,body,.ready,none⟩
 let J:Nat→St→Prop:=fun i s=>∃ s1,I i s1∧s1.like st∧s1.loops=st.loops∧s=s1.push la0
 let Jx:St→Prop:=fun s=>∃ ex c s1,Ua ex=some (some c)∧Ix ex s1∧s1.like st∧s1.loops=st.loops∧s=s1.push { la0 with st := .done,pend:=some c }
 have o:=hit st.loops.length J Jx (fun i s ⟨s1,F,u,j3,j4⟩=>⟨by rw [j4];exact hFr i s1 la0 F u j3,by rw [j4];simp [St.push,j3]⟩)
  (fun i s x X hX ⟨s1,F,u,j3,j4⟩ N=>by
   subst j4
   have:=Zbi hX (P:=P) (w0:=w0) (la:=la0) (s1:=s1) (X:=X) (I:=fun ex s=>match ex with | .normal=>I (i+1) s | _=>Ix ex s) (x:=x)
    (Post:=fun r s'=>∃ t,s'=t.ext X∧t.like (s1.push la0)∧((r = .val (.bool true)∧J (i+1) t)∨(r = .val (.bool false)∧Jx t)))
    (hlen x (List.mem_of_getElem? N)) hps (fun M0 W0 l _ ad=>hbody i s1 X x M0 W0 l _ _ hX F u j3 N ad _ (fun e' s' h1 O=>⟨h1,O _ (fun _ _ _ h=>h)⟩))
    (fun ex s h=>by
     cases ex with
     | normal=>rfl
     | ret=>rfl
     | exit id=>rfl
     | _=>rcases hIx _ s h with h | ⟨id,h⟩<;>cases h)
    (fun ex ao t hj V t2 t3=>by
     refine ⟨_,rfl,⟨V.1,V.2.1,by simp [St.push,t2]⟩,?_⟩
     have like':t.like st:=⟨V.1.trans u.1,Nat.le_trans u.2.1 V.2.1,V.2.2.trans u.2.2⟩
     cases ex with
     | normal=>cases hj;exact .inl ⟨rfl,t,t3,like',t2.trans j3,rfl⟩
     | ret=>cases hj;exact .inr ⟨rfl,.ret,.ret,t,rfl,t3,like',t2.trans j3,rfl⟩
     | exit id=>cases hj;exact .inr ⟨rfl,.exit id,.exit id,t,rfl,t3,like',t2.trans j3,rfl⟩
     | _=>cases hj)
   rw [j3] at this
   exact this)
  (st.push la0) ⟨st,h0,⟨rfl,Nat.le_refl _,rfl⟩,rfl,rfl⟩
 have G:RowR w0 M1 W1 (#[.func (.yield (w.heap.size+1)) #[] #[]]++cs) (.yld st.loops.length::caps):=by
  have e1:RowR w0 M1 W1 #[.func (.yield (w.heap.size+1)) #[] #[]] [.yld st.loops.length]:=by
   refine ⟨rfl,fun i h1 O=>?_⟩
   have:i=0:=by simp at O;exact O
   subst this
   have:=R.yld (w0:=w0) (M:=M1) (w:=W1) (k:=st.loops.length) (by omega)
   rw [E] at this
   exact this
  have e2:RowR w0 M1 W1 cs caps:=⟨C.1,fun i h1 O=>(C.2 i h1 O).mono n2⟩
  exact e1.append e2
 refine ⟨w.heap.size+1,[{ target := .collected w.heap.size,args := #[] }],W1,{ target := .fn (.func gf) cs,args := #[.func (.yield (w.heap.size+1)) #[] #[]] },W1,gf,
  #[.func (.yield (w.heap.size+1)) #[] #[]]++cs,W1,?_,?_,?_,?_,fun q=>UG none q m,?_⟩
 ·rw [←hW1];exact run_enterLoop_outer _ _ _ _ _
 ·simp only [resolve,ae]
  simp [go_sem]
 ·intro f' _;exact Wi none f'
 ·simp [invoke,go_sem,o.1 _ W1]
 ·refine Up ((o.2 M1 W1 _ n1 G).mono ?_)
  rintro en w3 ⟨v,M3,r,s3,rfl,hp,x3,r3,_⟩
  have af:M3.lb st.loops.length=w.heap.size+1:=(x3.lb _ (by omega)).trans E
  have d:∀ (s1 X:St) (p:Option Code) (b:LoopState),b ≠ .busy→s3=(s1.push { la0 with st:=b,pend:=p }).ext X→s1.loops=st.loops →
    ∃ U,(Instr.endLoop (w.heap.size+1)).run P w3 = .ok p U∧At w0 n M0 W0 e ((s1.push { la0 with st := .exhausted,pend:=p }).ext X) { a with defers:=[{ target := .collected w.heap.size,args := #[] }]++a.defers } U M3:=by
   intro s1 X p b ab hs3 aa
   subst hs3
   have Y:((s1.push { la0 with st:=b,pend:=p }).ext X).loops[st.loops.length]? = some { la0 with st:=b,pend:=p }:=by
    simp [St.push,St.ext,aa]
   obtain ⟨_,H,g1,g2,g3,_⟩:=r3.loop.record _ _ Y
   simp only at g2 g3
   obtain ⟨z1,z2⟩:=r3.setLoop Y .exhausted p g1
   rw [af] at g1 z1 z2
   have j:=run_endLoop (P:=P) g1 (by rw [g2];exact ab)
   have er:({ H with state:=LoopState.exhausted,pending:=p }:Loop)={ H with state:=LoopState.exhausted }:=by rw [←g3]
   rw [er] at z1 z2
   have j:=j.trans (congrArg (fun q=>Result.ok q _) g3)
   have eL:{ ((s1.push { la0 with st:=b,pend:=p }).ext X) with loops:=((s1.push { la0 with st:=b,pend:=p }).ext X).loops.set st.loops.length { la0 with st := .exhausted,pend:=p } }=(s1.push { la0 with st := .exhausted,pend:=p }).ext X:=by
    simp only [St.push,St.ext,aa,List.append_assoc]
    rw [List.set_append_right _ _ (by simp)]
    simp
   simp only at z1
   have N:Ext w0 M w M3 (w3.putObj (w.heap.size+1) (.loop { H with state := .exhausted })):=n2.trans (x3.trans z2)
   refine ⟨_,j,⟨⟨?_,f.rel.size,fun s x hs=>(f.rel.env s x hs).mono N⟩,f.ext.trans N,?_⟩⟩
   ·rw [←eL];exact z1
   ·obtain ⟨Ds,d1,d2,d3⟩:=f.marks.later N f.rel.st
    obtain ⟨Ds',ap,aj,ak⟩:=f.marks
    have ai:Ds'=Ds:=by
     rw [aj] at d2
     have ag:Function.Injective (fun D=>({ target := .collected D,args := #[] }:Deferred)):=fun x y h=>by simpa using h
     exact List.map_inj_right (fun x y h=>ag h) |>.1 d2
    refine ⟨w.heap.size::Ds,List.nodup_cons.2 ⟨fun hm=>?_,d1⟩,by simp [d2],fun D hD=>?_⟩
    ·have:=(ak _ (ai▸hm)).2
     have:=(Array.getElem?_eq_some_iff.1 this).1
     omega
    ·rcases List.mem_cons.1 hD with rfl | hD
     ·refine ⟨f.ext.size,?_⟩
      rw [World.putObj_heap_other (by omega)]
      refine x3.objs _ _ z rfl fun k Y=>?_
      by_cases c:k=st.loops.length
      ·subst c;omega
      ·have:=Z k (by omega)
       omega
     ·exact d3 D hD
  obtain ⟨t,X,hX,rfl,hp⟩:=hp
  rcases hp with ⟨s1,F,u,j3,rfl⟩ | ⟨ex,c,s1,j0,F,u,j3,rfl⟩
  ·obtain ⟨U,q1,q2⟩:=d s1 X none .ready (by simp) rfl j3
   exact ⟨none,U,q1,M3,e,_,q2,hdone s1 _ X hX F u j3⟩
  ·obtain ⟨U,q1,q2⟩:=d s1 X (some c) .done (by simp) rfl j3
   refine ⟨some c,U,q1,?_⟩
   have hq:=hleft ex s1 { la0 with st := .exhausted,pend:=some c } X hX F u j3
   cases ex with
   | ret=>cases j0;exact wpIn_ret ⟨M3,e,_,q2,hq⟩
   | exit id=>cases j0;exact wpIn_exit ⟨M3,e,_,q2,hq⟩
   | _=>cases j0
end
attribute [go_sem] NY eqCell.eq_1 eqCell.eq_2 eqCell.eq_3 LV Tj I3 argP Dy R2 Zb4 Op.operands Call.operands Array.toList_append Option.toArray evS Lj KP Dz Ba AM Ar DG KN Do Wb Tt Zb8 UM Zbg YW Iy MV OI PQ It RU Dq Ny inK Own.under Au Lq St.ext St.push St.cut Wh Ph XD evBin.eq_1 evBin.eq_2 evBin.eq_3 evBin.eq_4 evBin.eq_5 evBin.eq_6 evBin.eq_7 evBin.eq_8 evBin.eq_9 evBin.eq_10 evBin.eq_11 evBin.eq_12 evBin.eq_13 evBin.eq_14 evBin.eq_15 evBin.eq_16 evBin.eq_17 evBin.eq_18 evBin.eq_19 evBB.eq_1 evBB.eq_2 evUn.eq_1 evUn.eq_2
@[go_sem] theorem Zda (v:Value):GB (.val v:AV)=true:=rfl
@[go_sem] theorem ZbQ (xs:List AV) (o:Own):GB (.list xs o:AV)=false:=rfl
@[go_sem] theorem ZbS (x:AV) (k:Nat):GB (.elem x k:AV)=false:=rfl
@[go_sem] theorem ZcY (l k:Nat):GB (.box l k:AV)=false:=rfl
@[go_sem] theorem ZcZ (f:FuncId) (cs:List AV):GB (.clo f cs:AV)=false:=rfl
@[go_sem] theorem Zdb (cs:List AV):GB (.agg cs:AV)=false:=rfl
@[go_sem] theorem Zcy (vs:List AV):GB (.tup vs:AV)=false:=rfl
@[go_sem] theorem ZcI (k:Nat):GB (.yld k:AV)=false:=rfl
@[go_sem] theorem ZcK (id ver o n:Nat):GB (.vec id ver o n:AV)=false:=rfl
@[go_sem] theorem ZcJ (id ver o:Nat):GB (.vel id ver o:AV)=false:=rfl
@[go_sem] theorem ZcT (v:Value):Ip (.val v:AV)=v:=rfl
@[go_sem] theorem Zge (xs:List AV) (o:Own):Vr (.list xs o:AV)=false:=rfl
@[go_sem] theorem Zf8 (x:AV) (k:Nat):Vr (.elem x k:AV)=false:=rfl
@[go_sem] theorem ZgZ (l k:Nat):Vr (.box l k:AV)=false:=rfl
@[go_sem] theorem ZhE (f:FuncId) (cs:List AV):Vr (.clo f cs:AV)=false:=rfl
@[go_sem] theorem ZhB (cs:List AV):Vr (.agg cs:AV)=false:=rfl
@[go_sem] theorem Zhl (vs:List AV):Vr (.tup vs:AV)=false:=rfl
@[go_sem] theorem Zhp (k:Nat):Vr (.yld k:AV)=false:=rfl
@[go_sem] theorem ZgG (id ver o n:Nat):Vr (.vec id ver o n:AV)=false:=rfl
@[go_sem] theorem ZhC (id ver o:Nat):Vr (.vel id ver o:AV)=false:=rfl
@[go_sem] theorem ZdV (xs:List AV) (o:Own):EC (.list xs o:AV)=false:=rfl
@[go_sem] theorem ZdO (x:AV) (k:Nat):EC (.elem x k:AV)=false:=rfl
@[go_sem] theorem Ze0 (l k:Nat):EC (.box l k:AV)=false:=rfl
@[go_sem] theorem ZeJ (f:FuncId) (cs:List AV):EC (.clo f cs:AV)=false:=rfl
@[go_sem] theorem ZeO (cs:List AV):EC (.agg cs:AV)=false:=rfl
@[go_sem] theorem Ze2 (vs:List AV):EC (.tup vs:AV)=false:=rfl
@[go_sem] theorem ZeG (k:Nat):EC (.yld k:AV)=false:=rfl
@[go_sem] theorem Ze6 (id ver o n:Nat):EC (.vec id ver o n:AV)=false:=rfl
@[go_sem] theorem ZfG (id ver o:Nat):EC (.vel id ver o:AV)=false:=rfl
@[go_sem] theorem Zen (xs:List AV) (o:Own):Nz (.list xs o:AV)=false:=rfl
@[go_sem] theorem Zex (x:AV) (k:Nat):Nz (.elem x k:AV)=false:=rfl
@[go_sem] theorem Ze9 (l k:Nat):Nz (.box l k:AV)=false:=rfl
@[go_sem] theorem Zfx (f:FuncId) (cs:List AV):Nz (.clo f cs:AV)=false:=rfl
@[go_sem] theorem ZeY (cs:List AV):Nz (.agg cs:AV)=false:=rfl
@[go_sem] theorem ZfQ (vs:List AV):Nz (.tup vs:AV)=false:=rfl
@[go_sem] theorem Zez (k:Nat):Nz (.yld k:AV)=false:=rfl
@[go_sem] theorem Zfi (id ver o n:Nat):Nz (.vec id ver o n:AV)=false:=rfl
@[go_sem] theorem Zfm (id ver o:Nat):Nz (.vel id ver o:AV)=false:=rfl
@[go_sem] theorem ZfX (b:Bool):Vr (.val (.bool b))=true:=rfl
@[go_sem] theorem ZgR (k:IntKind) (n:Int):Vr (.val (.int k n))=false:=rfl
@[go_sem] theorem Zha (s:ByteArray):Vr (.val (.string s))=false:=rfl
@[go_sem] theorem Zft:Vr (.val undef)=false:=rfl
@[go_sem] theorem ZiT (b:Bool):JC (.val (.bool b))=b:=rfl
@[go_sem] theorem ZjK (k:IntKind) (n:Int):EC (.val (.int k n))=true:=rfl
@[go_sem] theorem Zib (k:IntKind) (n:Int):AK (.val (.int k n))=n:=rfl
@[go_sem] theorem Zhf (k:IntKind) (n:Int):JY (.val (.int k n))=k:=rfl
@[go_sem] theorem Zjw (s:ByteArray):Nz (.val (.string s))=true:=rfl
@[go_sem] theorem ZjI (s:ByteArray):ZcX (.val (.string s))=s:=rfl
@[go_sem] theorem Zh8 (n:Int):Ux (.val (.int .u8 n))=(0≤n∧n≤255):=rfl
@[go_sem] theorem ZdB (xs:List AV) (o:Own):AX (.list xs o:AV)=xs:=rfl
@[go_sem] theorem Zef (v:Value):Cc (.val v:AV)=false:=rfl
@[go_sem] theorem Zcj (xs:List AV) (o:Own):Cc (.list xs o:AV)=true:=rfl
@[go_sem] theorem Zb7 (x:AV) (k:Nat):Cc (.elem x k:AV)=false:=rfl
@[go_sem] theorem ZdJ (l k:Nat):Cc (.box l k:AV)=false:=rfl
@[go_sem] theorem Zd6 (f:FuncId) (cs:List AV):Cc (.clo f cs:AV)=false:=rfl
@[go_sem] theorem Zev (cs:List AV):Cc (.agg cs:AV)=false:=rfl
@[go_sem] theorem ZdD (vs:List AV):Cc (.tup vs:AV)=false:=rfl
@[go_sem] theorem ZdK (k:Nat):Cc (.yld k:AV)=false:=rfl
@[go_sem] theorem ZdY (id ver o n:Nat):Cc (.vec id ver o n:AV)=false:=rfl
@[go_sem] theorem Zd7 (id ver o:Nat):Cc (.vel id ver o:AV)=false:=rfl
@[go_sem] theorem ZeC (v:Value):EN (.val v:AV)=0:=rfl
@[go_sem] theorem ZdW (xs:List AV) (o:Own):EN (.list xs o:AV)=0:=rfl
@[go_sem] theorem ZdC (x:AV) (k:Nat):EN (.elem x k:AV)=k:=rfl
@[go_sem] theorem ZeB (l k:Nat):EN (.box l k:AV)=k:=rfl
@[go_sem] theorem Zfe (f:FuncId) (cs:List AV):EN (.clo f cs:AV)=0:=rfl
@[go_sem] theorem Ze4 (cs:List AV):EN (.agg cs:AV)=0:=rfl
@[go_sem] theorem Zfp (vs:List AV):EN (.tup vs:AV)=0:=rfl
@[go_sem] theorem Zfk (k:Nat):EN (.yld k:AV)=0:=rfl
@[go_sem] theorem ZfF (id ver o n:Nat):EN (.vec id ver o n:AV)=0:=rfl
@[go_sem] theorem ZeP (id ver o:Nat):EN (.vel id ver o:AV)=o:=rfl
@[go_sem] theorem ZeW (v:Value):Oc (.val v:AV)=false:=rfl
@[go_sem] theorem Zep (xs:List AV) (o:Own):Oc (.list xs o:AV)=false:=rfl
@[go_sem] theorem ZdF (x:AV) (k:Nat):Oc (.elem x k:AV)=false:=rfl
@[go_sem] theorem ZfH (l k:Nat):Oc (.box l k:AV)=true:=rfl
@[go_sem] theorem ZeH (f:FuncId) (cs:List AV):Oc (.clo f cs:AV)=false:=rfl
@[go_sem] theorem Ze8 (cs:List AV):Oc (.agg cs:AV)=false:=rfl
@[go_sem] theorem ZeI (vs:List AV):Oc (.tup vs:AV)=false:=rfl
@[go_sem] theorem Zfc (k:Nat):Oc (.yld k:AV)=false:=rfl
@[go_sem] theorem ZfP (id ver o n:Nat):Oc (.vec id ver o n:AV)=false:=rfl
@[go_sem] theorem ZeK (id ver o:Nat):Oc (.vel id ver o:AV)=true:=rfl
@[go_sem] theorem Zeh (v:Value):A4 (.val v:AV)=true:=rfl
@[go_sem] theorem Zds (xs:List AV) (o:Own):A4 (.list xs o:AV)=true:=rfl
@[go_sem] theorem Zcz (x:AV) (k:Nat):A4 (.elem x k:AV)=true:=rfl
@[go_sem] theorem Zew (l k:Nat):A4 (.box l k:AV)=true:=rfl
@[go_sem] theorem Zel (f:FuncId) (cs:List AV):A4 (.clo f cs:AV)=true:=rfl
@[go_sem] theorem ZdE (cs:List AV):A4 (.agg cs:AV)=true:=rfl
@[go_sem] theorem ZdU (vs:List AV):A4 (.tup vs:AV)=false:=rfl
@[go_sem] theorem Zd3 (k:Nat):A4 (.yld k:AV)=true:=rfl
@[go_sem] theorem Zd1 (id ver o n:Nat):A4 (.vec id ver o n:AV)=true:=rfl
@[go_sem] theorem ZdX (id ver o:Nat):A4 (.vel id ver o:AV)=true:=rfl
@[go_sem] theorem ZdG (v:Value):Gx (.val v:AV)=false:=rfl
@[go_sem] theorem Zcb (xs:List AV) (o:Own):Gx (.list xs o:AV)=false:=rfl
@[go_sem] theorem Zc3 (x:AV) (k:Nat):Gx (.elem x k:AV)=false:=rfl
@[go_sem] theorem Zd4 (l k:Nat):Gx (.box l k:AV)=false:=rfl
@[go_sem] theorem Zer (f:FuncId) (cs:List AV):Gx (.clo f cs:AV)=false:=rfl
@[go_sem] theorem Zea (cs:List AV):Gx (.agg cs:AV)=true:=rfl
@[go_sem] theorem ZdS (vs:List AV):Gx (.tup vs:AV)=false:=rfl
@[go_sem] theorem ZdT (k:Nat):Gx (.yld k:AV)=false:=rfl
@[go_sem] theorem Zei (id ver o n:Nat):Gx (.vec id ver o n:AV)=false:=rfl
@[go_sem] theorem Zd8 (id ver o:Nat):Gx (.vel id ver o:AV)=false:=rfl
@[go_sem] theorem ZbX (v:Value):AV.cells (.val v:AV)=[.val v]:=rfl
@[go_sem] theorem ZbJ (xs:List AV) (o:Own):AV.cells (.list xs o:AV)=[.list xs o]:=rfl
@[go_sem] theorem Zbx (x:AV) (k:Nat):AV.cells (.elem x k:AV)=[.elem x k]:=rfl
@[go_sem] theorem ZbU (l k:Nat):AV.cells (.box l k:AV)=[.box l k]:=rfl
@[go_sem] theorem ZbT (f:FuncId) (cs:List AV):AV.cells (.clo f cs:AV)=[.clo f cs]:=rfl
@[go_sem] theorem JD (cs:List AV):AV.cells (.agg cs:AV)=cs:=rfl
@[go_sem] theorem ZbW (vs:List AV):AV.cells (.tup vs:AV)=[.tup vs]:=rfl
@[go_sem] theorem ZbY (k:Nat):AV.cells (.yld k:AV)=[.yld k]:=rfl
@[go_sem] theorem ZbV (id ver o n:Nat):AV.cells (.vec id ver o n:AV)=[.vec id ver o n]:=rfl
@[go_sem] theorem ZbR (id ver o:Nat):AV.cells (.vel id ver o:AV)=[.vel id ver o]:=rfl
@[go_sem] theorem Zek (v:Value):AV.pub (.val v:AV) = .val v:=rfl
@[go_sem] theorem ZcP (xs:List AV) (o:Own):AV.pub (.list xs o:AV) = .list xs .none:=rfl
@[go_sem] theorem ZcH (x:AV) (k:Nat):AV.pub (.elem x k:AV) = .elem x k:=rfl
@[go_sem] theorem Zej (l k:Nat):AV.pub (.box l k:AV) = .box l k:=rfl
@[go_sem] theorem ZdN (f:FuncId) (cs:List AV):AV.pub (.clo f cs:AV) = .clo f cs:=rfl
@[go_sem] theorem ZdR (cs:List AV):AV.pub (.agg cs:AV) = .agg (cs.map AV.pubCell):=rfl
@[go_sem] theorem Zed (vs:List AV):AV.pub (.tup vs:AV) = .tup vs:=rfl
@[go_sem] theorem Zd5 (k:Nat):AV.pub (.yld k:AV) = .yld k:=rfl
@[go_sem] theorem ZdM (id ver o n:Nat):AV.pub (.vec id ver o n:AV) = .vec id ver o n:=rfl
@[go_sem] theorem Zd2 (id ver o:Nat):AV.pub (.vel id ver o:AV) = .vel id ver o:=rfl
@[go_sem] theorem ZaL (v:Value):AV.pubCell (.val v:AV) = .val v:=rfl
@[go_sem] theorem ZA (xs:List AV) (o:Own):AV.pubCell (.list xs o:AV) = .list xs .none:=rfl
@[go_sem] theorem Y9 (x:AV) (k:Nat):AV.pubCell (.elem x k:AV) = .elem x k:=rfl
@[go_sem] theorem ZaM (l k:Nat):AV.pubCell (.box l k:AV) = .box l k:=rfl
@[go_sem] theorem ZaN (f:FuncId) (cs:List AV):AV.pubCell (.clo f cs:AV) = .clo f cs:=rfl
@[go_sem] theorem ZaI (cs:List AV):AV.pubCell (.agg cs:AV) = .agg cs:=rfl
@[go_sem] theorem ZaK (vs:List AV):AV.pubCell (.tup vs:AV) = .tup vs:=rfl
@[go_sem] theorem ZaF (k:Nat):AV.pubCell (.yld k:AV) = .yld k:=rfl
@[go_sem] theorem Zaa (id ver o n:Nat):AV.pubCell (.vec id ver o n:AV) = .vec id ver o n:=rfl
@[go_sem] theorem Zag (id ver o:Nat):AV.pubCell (.vel id ver o:AV) = .vel id ver o:=rfl
@[go_sem] theorem Zeo (v:Value):AV.one (.val v:AV)=true:=rfl
@[go_sem] theorem ZcS (xs:List AV) (o:Own):AV.one (.list xs o:AV)=true:=rfl
@[go_sem] theorem Zdm (x:AV) (k:Nat):AV.one (.elem x k:AV)=true:=rfl
@[go_sem] theorem Zec (l k:Nat):AV.one (.box l k:AV)=true:=rfl
@[go_sem] theorem Zd9 (f:FuncId) (cs:List AV):AV.one (.clo f cs:AV)=true:=rfl
@[go_sem] theorem Zem (cs:List AV):AV.one (.agg cs:AV)=false:=rfl
@[go_sem] theorem Zee (vs:List AV):AV.one (.tup vs:AV)=false:=rfl
@[go_sem] theorem Zeb (k:Nat):AV.one (.yld k:AV)=true:=rfl
@[go_sem] theorem ZdI (id ver o n:Nat):AV.one (.vec id ver o n:AV)=true:=rfl
@[go_sem] theorem Zeg (id ver o:Nat):AV.one (.vel id ver o:AV)=true:=rfl
@[go_sem] theorem Zet (l o n:Nat):RI (.box l o) n = .box l (o+n):=rfl
@[go_sem] theorem ZdP (id ver o n:Nat):RI (.vel id ver o) n = .vel id ver (o+n):=rfl
@[go_sem] theorem Zcn (x:AV) (o n:Nat):RI (.elem x o) n = .elem x (o+n):=rfl
@[go_sem] theorem ZhX (st:St) (l o:Nat) (xs:List AV):U2 st (.box l o) xs={ st with boxes:=st.boxes.set l (Dw (st.boxes.getD l []) o xs) }:=rfl
@[go_sem] theorem Zgp (a b:AV):AV.sel true a b=a:=by unfold AV.sel;split<;>rfl
@[go_sem] theorem Zfg (a b:AV):AV.sel false a b=b:=by unfold AV.sel;split<;>rfl
@[go_sem] theorem Zgr (t a b:Bool):AV.sel t (.val (.bool a)) (.val (.bool b)) = .val (.bool (cond t a b)):=by cases t<;>rfl
attribute [go_sem] V6 T0 UP Wp Rf OV VG VX Vx V1
@[go_sem] theorem Zg6:JA []=[]:=rfl
@[go_sem] theorem Zhj (t:Nat) (r:List Operand):JA (.tmp t::r)=t::JA r:=rfl
@[go_sem] theorem ZeM (v:Value) (r:List Operand):JA (.const v::r)=JA r:=rfl
@[go_sem] theorem Zgf (f:FuncId) (r:List Operand):JA (.func f::r)=JA r:=rfl
@[go_sem] theorem Zes (g:Nat) (r:List Operand):JA (.global g::r)=JA r:=rfl
@[go_sem] theorem Zjx (p:Prop):(False→p)=True:=eq_true False.elim
@[go_sem] theorem Zk4 (p:Prop):(True→p)=p:=propext ⟨fun h=>h trivial,fun h _=>h⟩
@[go_sem] theorem ZlE (p:Sort _):(p→True)=True:=eq_true fun _=>trivial
@[go_sem] theorem ite_f (b c:Bool):(if b=true then c else false)=(b&&c):=by cases b<;>rfl
@[go_sem] theorem ite_t (b c:Bool):(if b=true then true else c)=(b||c):=by cases b<;>rfl
@[go_sem] theorem bif_f (b c:Bool):cond b c false=(b&&c):=by cases b<;>rfl
@[go_sem] theorem bif_t (b c:Bool):cond b true c=(b||c):=by cases b<;>rfl
@[go_sem] theorem ZlV (b c:Bool):cond true b c=b:=rfl
@[go_sem] theorem Zmi (b c:Bool):cond false b c=c:=rfl
@[go_sem] theorem Ziy (b:Bool):(b == true)=b:=by cases b<;>rfl
@[go_sem] theorem Zhq (b:Bool):(b == false) = !b:=by cases b<;>rfl
attribute [go_sem] List.filterMap_nil List.append_nil List.nil_append List.cons_append Option.toList List.map_cons List.map_nil and_imp not_false_eq_true true_and and_true forall_const imp_self reduceIte List.getElem?_cons_zero List.getElem?_cons_succ Ab Bool.true_and Bool.and_true Bool.false_and Bool.and_false Bool.or_true Bool.true_or Bool.or_false Bool.false_or List.toList_toArray List.mem_cons List.not_mem_nil or_false false_or forall_eq forall_eq_or_imp decide_eq_true_eq decide_eq_false_iff_not Bool.not_true Bool.not_false Bool.not_not
@[go_sem] theorem Zmt (b:Bool):((!b)=true)=(b=false):=by cases b<;>simp
@[go_sem] theorem Zmq (b:Bool):((!b)=false)=(b=true):=by cases b<;>simp
@[go_sem] theorem ZlW (b c:Bool):((b&&c)=true)=(b=true∧c=true):=Bool.and_eq_true b c
@[go_sem] theorem Zig (n:Nat):(no_index (@OfNat.ofNat Int n instOfNat)).toNat = @OfNat.ofNat Nat n (instOfNatNat n):=rfl
@[go_sem] theorem ZjC (i:Decidable True) : @decide True i=true:=by cases i with | isTrue h=>rfl | isFalse h=>exact absurd trivial h
@[go_sem] theorem Zic (i:Decidable False) : @decide False i=false:=by cases i with | isTrue h=>exact h.elim | isFalse h=>rfl
@[go_sem] theorem Zl2 (b:Bool):(b == b)=true:=by cases b<;>rfl
@[go_sem] theorem Ziz (s:St):(s=s)=True:=eq_true rfl
@[go_sem] theorem tt_tt:(true=true)=True:=eq_true rfl
@[go_sem] theorem ff_tt:(false=true)=False:=eq_false (by decide)
@[go_sem] theorem tt_ff:(true=false)=False:=eq_false (by decide)
@[go_sem] theorem ff_ff:(false=false)=True:=eq_true rfl
@[go_sem] theorem ZiL (B l:List (List AV)):(B++l).length=B.length+l.length:=List.length_append
@[go_sem] theorem ZjO (B l:List RowA):(B++l).length=B.length+l.length:=List.length_append
@[go_sem] theorem Zbd (B l:List (List AV)) (R:List RowA) (L:List LoopA) (k o:Nat):Dx ⟨B++l,R,L⟩ (.box (B.length+k) o)=decide (k<l.length):=by simp [Dx]
@[go_sem] theorem Ze (B l:List (List AV)) (R:List RowA) (L:List LoopA) (o:Nat):Dx ⟨B++l,R,L⟩ (.box B.length o)=decide (0<l.length):=by simp [Dx]
@[go_sem] theorem Zg2 (s:St) (x:AV) (o:Nat):Dx s (.elem x o)=A4 x:=by cases x<;>rfl
@[go_sem] theorem YE (B l:List (List AV)) (k:Nat):(B++l).getD (B.length+k) []=l.getD k []:=by
 rw [List.getD_eq_getElem?_getD,List.getElem?_append_right (by omega),Nat.add_sub_cancel_left,List.getD_eq_getElem?_getD]
@[go_sem] theorem Wn (B l:List (List AV)):(B++l).getD B.length []=l.getD 0 []:=by
 rw [List.getD_eq_getElem?_getD,List.getElem?_append_right (by omega),Nat.sub_self,List.getD_eq_getElem?_getD]
@[go_sem] theorem Zgi (B l:List (List AV)) (R:List RowA) (L:List LoopA) (k o:Nat):Bj ⟨B++l,R,L⟩ (.box (B.length+k) o)=l.getD k []:=YE B l k
@[go_sem] theorem ZeU (B l:List (List AV)) (R:List RowA) (L:List LoopA) (o:Nat):Bj ⟨B++l,R,L⟩ (.box B.length o)=l.getD 0 []:=Wn B l
@[go_sem] theorem ZfI (s:St) (x:AV) (o:Nat):Bj s (.elem x o)=x.cells:=rfl
@[go_sem] theorem Ze3 (B l:List (List AV)) (k:Nat) (x:List AV):(B++l).set (B.length+k) x=B++l.set k x:=by rw [List.set_append_right _ _ (by omega),Nat.add_sub_cancel_left]
@[go_sem] theorem Zb1 (B l:List (List AV)) (x:List AV):(B++l).set B.length x=B++l.set 0 x:=by rw [List.set_append_right _ _ (by omega),Nat.sub_self]
@[go_sem] theorem Zfa (B l:List RowA) (k:Nat):(B++l)[B.length+k]? = l[k]? := by rw [List.getElem?_append_right (by omega),Nat.add_sub_cancel_left]
@[go_sem] theorem Zdf (B l:List RowA):(B++l)[B.length]? = l[0]? := by rw [List.getElem?_append_right (by omega),Nat.sub_self]
@[go_sem] theorem Zi7 (B l:List RowA) (k:Nat) (x:RowA):(B++l).set (B.length+k) x=B++l.set k x:=by rw [List.set_append_right _ _ (by omega),Nat.add_sub_cancel_left]
@[go_sem] theorem ZhT (B l:List RowA) (x:RowA):(B++l).set B.length x=B++l.set 0 x:=by rw [List.set_append_right _ _ (by omega),Nat.sub_self]
attribute [go_sem] List.take_succ_cons List.take_zero List.take_nil List.drop_succ_cons List.drop_zero List.drop_nil Int.toNat_natCast List.append_assoc List.length_cons List.length_nil Nat.zero_add Nat.add_zero List.set_cons_zero List.set_cons_succ List.getD_cons_zero List.getD_cons_succ
@[go_sem] theorem ZgO (x v:AV):Dw [x] 0 [v]=[v]:=rfl
@[go_sem] theorem ZdH (l:List AV) (n:Nat) (h:l.length=n):(l.drop 0).take n=l:=by simp [←h]
theorem A9 {P:Program} {f:FuncId} {fn:Func} (hf:P.funcs[f]? = some fn) (hb:fn.body.isSome=true) (hn:fn.name ≠ "runtime.NumGoroutine"):KA P f:=by
 obtain ⟨c,a⟩:=Option.isSome_iff_exists.1 hb
 exact Ev.ZaV hf a hn
theorem Ni {P:Program} {w0:World} {f:FuncId} {args:List AV} {st:St} {r:Value} (hen:KA P f) (hr:It r=true)
  (h:∀ (M:Mem) (w:World) (vals:Array Value),Below w0.heap.size w0 w→RowR w0 M w vals args→Calls P f vals w fun en w'=>en = .returned r∧Below w.heap.size w w'):ACalls P w0 f args st fun v s=>v = .val r∧s=st :=
 ⟨hen,fun M w vals a b=>(h M w vals a.below b).mono fun en w' ⟨g,e⟩=>by
  obtain ⟨d,c⟩:=a.later e w.heap.size 0 (Nat.le_refl _) (.inr rfl)
  exact ⟨r,_,_,st,g,⟨rfl,rfl⟩,c,d,.flat hr⟩⟩
theorem Uk {w0:World} {M:Mem} {w:World} {vals:Array Value} {us:List Value} (h:RowR w0 M w vals (us.map .val)):vals=us.toArray:=by
 apply Array.ext
 ·simpa using h.1
 ·intro i c b
  have a:i<us.length:=by simpa using b
  have:=h.2 i c (by simpa using a)
  simp only [List.getElem_map] at this
  simp only [List.getElem_toArray]
  exact this.val_inv.1
@[go_sem] theorem Vd (P:Program) (st:St) (t:TypeId) (xs:List AV) (x:AV):Bq P st t (.list xs .full) x=match JX P t with
  | some (el,sz,_,by8)=>if (AX x).length=0 then (Cc x=true∧0<sz,.list xs .full,st)
   else (Cc x=true∧Cm P el sz by8 xs.length (AX x)∧(∀ y∈xs,y.cells.length=sz),.list (xs++(AX x).map AV.pub) (.row st.rows.length),{ st with rows:=st.rows++[.grow (xs.length+(AX x).length) sz] })
  | none=>(False,.junk,st):=rfl
@[go_sem] theorem Wv (P:Program) (st:St) (t:TypeId) (xs:List AV) (id:Nat) (x:AV):Bq P st t (.list xs (.row id)) x=match JX P t with
  | some (el,sz,_,by8)=>(Cc x=true∧Cm P el sz by8 xs.length (AX x)∧(∀ y∈xs,y.cells.length=sz)∧st.rows[id]? = some (.grow xs.length sz),.list (xs++(AX x).map AV.pub) (.row id),{ st with rows:=st.rows.set id (.grow (xs.length+(AX x).length) sz) })
  | none=>(False,.junk,st):=rfl
@[go_sem] theorem Zd0 (P:Program) (st:St) (t:TypeId) (ys:List AV) (x:AV):Bq P st t (.list ys .seed) x=match JX P t with
  | some (el,sz,_,by8)=>(Cc x=true∧Cm P el sz by8 0 (AX x)∧ys.length=0∧0<(AX x).length,.vec st.rows.length 0 0 (AX x).length,{ st with rows:=st.rows++[.vec 0 sz ((AX x).flatMap fun y=>y.pub.cells)] })
  | none=>(False,.junk,st):=rfl
@[go_sem] theorem Zfy (P:Program) (st:St) (t:TypeId) (id ver o n:Nat) (x:AV):Bq P st t (.vec id ver o n) x=match JX P t with
  | some (el,sz,_,by8)=>match EQ st.rows id ver with
   | some (sz',cs)=>(Cc x=true∧Cm P el sz by8 n (AX x)∧sz'=sz∧o=0∧n*sz≤cs.length,.vec id (ver+1) 0 (n+(AX x).length),{ st with rows:=st.rows.set id (.vec (ver+1) sz (cs.take (n*sz)++(AX x).flatMap fun y=>y.pub.cells)) })
   | none=>(False,.junk,st)
  | none=>(False,.junk,st):=rfl
attribute [go_sem] Cm
@[go_sem] theorem Zjh (B l:List RowA) (k ver:Nat):EQ (B++l) (B.length+k) ver=EQ l k ver:=by simp [EQ,Zfa]
@[go_sem] theorem Zh9 (B l:List RowA) (ver:Nat):EQ (B++l) B.length ver=EQ l 0 ver:=by simp [EQ,Zdf]
@[go_sem] theorem ZiX (ver sz:Nat) (cs:List AV) (l:List RowA):EQ (.vec ver sz cs::l) 0 ver=some (sz,cs):=by simp [EQ]
@[go_sem] theorem Ziu (r:RowA) (l:List RowA) (k ver:Nat):EQ (r::l) (k+1) ver=EQ l k ver:=by simp [EQ]
@[go_sem] theorem Zii (s:St) (id ver o:Nat):Dx s (.vel id ver o)=(EQ s.rows id ver).isSome:=rfl
@[go_sem] theorem Zgc (s:St) (id ver o:Nat):Bj s (.vel id ver o)=match EQ s.rows id ver with | some (_,cs)=>cs | none=>[]:=rfl
@[go_sem] theorem Zeq (st:St) (id ver o:Nat) (xs:List AV):U2 st (.vel id ver o) xs=match EQ st.rows id ver with
  | some (sz,cs)=>{ st with rows:=st.rows.set id (.vec ver sz (Dw cs o xs)) }
  | none=>st:=rfl
def Grow (Rw:List RowA) (sz:Nat) (xs:List AV) (o:Own) (r:List RowA):Prop:=(xs=[]∧o = .full∧r=[])∨(o = .row Rw.length∧r=[.grow xs.length sz])
theorem Grow.nil (Rw:List RowA) (sz:Nat):Grow Rw sz [] .full [] := .inl ⟨rfl,rfl,rfl⟩
theorem Grow.more (Rw:List RowA) (sz:Nat) (xs:List AV) (n:Nat) (h:xs.length=n):Grow Rw sz xs (.row Rw.length) [.grow n sz] := .inr ⟨rfl,by rw [h]⟩
theorem Grow.len {Rw r:List RowA} {sz:Nat} {xs:List AV} {o:Own} (h:Grow Rw sz xs o r):r.length≤1:=by
 rcases h with ⟨_,_,rfl⟩ | ⟨_,rfl⟩<;>simp
theorem Vq {P:Program} {t el:TypeId} {sz by8:Nat} {ag:Bool} {Rw r:List RowA} {xs:List AV} {o:Own} (he:JX P t=some (el,sz,ag,by8)) (hz:(CW P el).isSome=true) (hs:0<sz) (h:Grow Rw sz xs o r) (B:List (List AV)) (L:List LoopA) (y:AV) (o2:Own) :
  Bq P ⟨B,Rw++r,L⟩ t (.list xs o) (.list [y] o2)=(((xs.length+1)*by8≤140737488355328∧xs.length+1≤4611686018427387904∧(∀ y∈xs,y.cells.length=sz)∧y.cells.length=sz∧A4 y=true),.list (xs++[y.pub]) (.row Rw.length),⟨B,Rw++[.grow (xs.length+1) sz],L⟩):=by
 rcases h with ⟨rfl,rfl,rfl⟩ | ⟨rfl,rfl⟩
 ·rw [Vd,he];simp [AX,Cc,Cm,hz,hs]
 ·rw [Wv,he];simp [AX,Cc,Cm,hz,hs]
  exact ⟨fun ⟨⟨a,b,c,d⟩,e⟩=>⟨a,b,e,c,d⟩,fun ⟨a,b,e,c,d⟩=>⟨⟨a,b,c,d⟩,e⟩⟩
def ZaG (c:Option IntKind × Bool) (x y:AV):Prop :=
 match x,y with
 | .val (.int k _),.val (.int k' _)=>c.1.isSome=true∧k=k'
 | .val (.string _),.val (.string _)=>c=(none,true)
 | .val (.bool _),.val (.bool _)=>c=(none,false)
 | _,_=>False
def Zc8 (P:Program) (t:TypeId):Option (Option IntKind × Bool) :=
 match Nq P t with
 | some k=>some (some k,false)
 | none=>if EA P t=true then some (none,true) else if L0 P t=true then some (none,false) else none
def SY (P:Program):List Field→Nat→Option (List (Option IntKind × Bool))
 | [],_=>some []
 | f::fs,i=>if f.name ≠ "_" ∧ f.offset=i∧IB P f.type=some (1,false) then
   match Zc8 P f.type,SY P fs (i+1) with
   | some k,some ks=>some (k::ks)
   | _,_=>none
  else none
def Xp (P:Program) (t:TypeId):Option (List (Option IntKind × Bool)) :=
 match eqT P t with
 | some fs=>SY P fs 0
 | none=>none
def obK:List (Option IntKind × Bool)→List AV→List AV→Prop
 | [],[],[]=>True
 | k::ks,x::xs,y::ys=>ZaG k x y∧obK ks xs ys
 | _,_,_=>False
theorem ZbB {P:Program} {t:TypeId} {k:Option IntKind × Bool} (h:Zc8 P t=some k) (x y:AV):Kz P t x y=ZaG k x y:=by
 have e:∀ j,Nq P t=some j→EA P t=false∧L0 P t=false:=fun j hj=>by
  unfold Nq at hj
  unfold EA L0
  split at hj
  ·rename_i q;rw [q];exact ⟨rfl,rfl⟩
  ·cases hj
 have c:EA P t=true→L0 P t=false:=fun hj=>by
  unfold EA at hj
  unfold L0
  split at hj
  ·rename_i q;rw [q]
  ·cases hj
 unfold Zc8 at h
 unfold Kz ZaG
 cases hi:Nq P t with
 | some j =>
  obtain ⟨d,b⟩:=e j hi
  rw [hi] at h
  cases h
  rw [d,b]
  split<;>simp
 | none =>
  rw [hi] at h
  simp only at h
  by_cases hs:EA P t=true
  ·rw [Ae hs] at h
   cases h
   rw [hs,c hs]
   split<;>simp
  ·rw [Af hs] at h
   have a:EA P t=false:=by simpa using hs
   by_cases hb:L0 P t=true
   ·rw [Ae hb] at h
    cases h
    rw [a,hb]
    split<;>simp
   ·rw [Af hb] at h;cases h
theorem W2 {P:Program}:∀ (fs:List Field) (i:Nat) (ks:List (Option IntKind × Bool)),SY P fs i=some ks→∀ xs ys,WI P fs i xs ys=obK ks xs ys
 | [],i,ks,h,xs,ys=>by
  cases h
  cases xs<;>cases ys<;>simp [WI,obK]
 | f::fs,i,ks,h,xs,ys=>by
  unfold SY at h
  split at h
  ·rename_i q
   split at h
   ·rename_i k ks' h1 h2
    cases h
    cases xs with
    | nil=>cases ys<;>simp [WI,obK]
    | cons x xs=>cases ys with
     | nil=>simp [WI,obK]
     | cons y ys =>
      simp only [WI,obK,W2 fs (i+1) ks' h2 xs ys,ZbB h1,q,true_and]
      simp [q.1]
   ·cases h
  ·cases h
theorem ZaS {P:Program} {t:TypeId} {ks:List (Option IntKind × Bool)} (h:Xp P t=some ks) (xs ys:List AV):NW P .eql t xs ys=(obK ks xs ys,NY xs ys):=by
 unfold Xp at h
 split at h
 ·rename_i fs q
  simp only [NW,q,W2 fs 0 ks h]
 ·cases h
theorem Zbs {P:Program} {t:TypeId} {ks:List (Option IntKind × Bool)} (h:Xp P t=some ks) (xs ys:List AV):NW P .neq t xs ys=(obK ks xs ys,!NY xs ys):=by
 unfold Xp at h
 split at h
 ·rename_i fs q
  simp only [NW,q,W2 fs 0 ks h]
 ·cases h
attribute [go_sem] ZaG obK
section
variable {P:Program} {w0:World} {n:Nat} {M:Mem} {e:Env} {st:St} {a:Act} {w:World}
theorem R.seed {v:Value} (h:R w0 M w v (.list [] .full)):R w0 M w v (.list [] .seed):=by
 cases h with
 | nil ho=>exact .nil (fun id=>by simp)
 | emp ho=>exact .emp (fun id=>by simp)
 | list sz us hc hm hcell hu ho=>exact .list (xs:=[]) sz us hc hm hcell hu ho
theorem N9 {M0:Mem} {W0:World} {ro:Option Nat} {Q:AQ} {c:Code} (e':Env) (st':St)
  (hc:∀ M a w,Rel w0 n M e st a w→∃ M',Ext w0 M w M' w∧Rel w0 n M' e' st' a w) (h:GE P w0 n M0 W0 ro c Q e' st'):GE P w0 n M0 W0 ro c Q e st:=by
 intro m M a w b
 obtain ⟨M',d,f⟩:=hc M a w b.rel
 exact h m M' a w ⟨f,b.ext.trans d,b.marks.later d b.rel.st⟩
theorem RelSt.setBox (h:RelSt w0 M st w) {l i:Nat} {cs:List AV} (hl:st.boxes[l]? = some cs) {x y:AV} (hi:cs[i]? = some x) (hone:y.one=true) (hR:∀ v,R w0 M w v x→R w0 M w v y) :
  RelSt w0 M { st with boxes:=st.boxes.set l (cs.set i y) } w:=by
 have b:l<st.boxes.length:=(Ag.1 hl).1
 have k:i<cs.length:=(Ag.1 hi).1
 refine ⟨h.below,by simp [h.N],h.NR,h.top,h.inj,fun d a hl'=>?_,h.row,h.rowinj,h.loop⟩
 by_cases q:d=l
 ·subst q
  rw [List.getElem?_set_self b] at hl'
  cases hl'
  obtain ⟨a1,a2,c,o,a3,a4,a5,a6⟩:=h.box d cs hl
  refine ⟨a1,a2,c,o,a3,by simp [a4],fun z f=>?_,fun j g m=>?_⟩
  ·rcases List.mem_or_eq_of_mem_set f with f | rfl
   ·exact a5 z f
   ·exact hone
  ·by_cases e:j=i
   ·subst e
    rw [List.getElem_set_self]
    obtain ⟨p,n⟩:=Ag.1 hi
    exact hR _ (n▸a6 j g p)
   ·rw [List.getElem_set_ne (Ne.symm e)]
    exact a6 j g (by simpa using m)
 ·rw [List.getElem?_set_ne (Ne.symm q)] at hl'
  exact h.box d a hl'
theorem Qz {M0:Mem} {W0:World} {ro:Option Nat} {Q:AQ} {c:Code} (l i:Nat) {cs:List AV} (hl:st.boxes[l]? = some cs) (hi:cs[i]? = some (.list [] .full)) (h:GE P w0 n M0 W0 ro c Q e { st with boxes:=st.boxes.set l (cs.set i (.list [] .seed)) }):GE P w0 n M0 W0 ro c Q e st :=
 N9 _ _ (fun M a w b=>⟨M,.refl _ _ _,b.st.setBox hl hi rfl (fun v hv=>hv.seed),b.size,b.env⟩) h
def O2 (sz:Nat) (ag:Bool) (cs:List AV) (o m:Nat):List AV:=(List.range m).map fun i=>Ph ag cs ((o+i)*sz) sz
theorem XM (sz:Nat) (ag:Bool) (cs:List AV) (o m:Nat):(O2 sz ag cs o m).length=m:=by simp [O2]
def Mem.freeze (M:Mem) (id k:Nat):Mem:={ M with fr:=fun i=>if i=id then M.fr i+1 else M.fr i,top:=fun b=>if b=M.blk id then k else M.top b }
theorem RelSt.freeze (h:RelSt w0 M st w) {id ver sz:Nat} {cs:List AV} (hid:st.rows[id]? = some (.vec ver sz cs)) :
  Ext w0 M w (M.freeze id cs.length) w∧RelSt w0 (M.freeze id cs.length) { st with rows:=st.rows.set id (.dead (ver+1)) } w:=by
 have a:id<st.rows.length:=(Ag.1 hid).1
 have d:id<M.NR:=by rw [h.NR];exact a
 obtain ⟨D,O,E,f4,u,U,K,c,p,t,Q,C,F,z⟩:=h.row id _ hid
 have f:Ext w0 M w (M.freeze id cs.length) w :=
  ⟨Nat.le_refl _,fun _ _=>rfl,Nat.le_refl _,fun i hi=>by
   simp only [Mem.freeze]
   by_cases q:i=id
   ·rw [Ae q];exact ⟨Nat.le_succ _,fun e=>absurd e (by omega)⟩
   ·rw [Af q];exact ⟨Nat.le_refl _,fun _=>⟨trivial,trivial,trivial⟩⟩,fun b J v hi y=>⟨y,hi.imp (fun q=>q) fun q=>by
    simp only [Mem.freeze]
    split
    ·rename_i e;rw [e,f4] at q;omega
    ·exact q⟩,Nat.le_refl _,Nat.le_refl _,fun _ _=>rfl,fun _ o m=>absurd m (Nat.not_lt.2 o),fun _ _ h _ _=>h⟩
 refine ⟨f,h.below,h.N,by simp [Mem.freeze,h.NR],fun b H=>?_,h.inj,fun l j s=>?_,fun i x hi=>?_,h.rowinj,h.loop.mono f rfl (KeepsObj.refl _)⟩
 ·have G:=(Array.getElem?_eq_some_iff.1 t).1
  simp only [Mem.freeze]
  rw [Af (by omega)]
  exact h.top b H
 ·obtain ⟨a1,a2,c,p,a3,a4,a5,a6⟩:=h.box l j s
  have n:l<M.N:=by rw [h.N];exact (Ag.1 s).1
  refine ⟨a1,?_,c,p,a3,a4,a5,fun i o m=>(a6 i o m).mono f⟩
  show (M.freeze id cs.length).top (M.bx l)=0
  simp only [Mem.freeze]
  rw [Af (u l n)]
  exact a2
 ·by_cases q:i=id
  ·subst q
   rw [List.getElem?_set_self a] at hi
   cases hi
   exact ⟨by simp [Mem.freeze,D],E,u,(Array.getElem?_eq_some_iff.1 t).1⟩
  ·rw [List.getElem?_set_ne (Ne.symm q)] at hi
   have g:i<M.NR:=by rw [h.NR];exact (Ag.1 hi).1
   have r:=h.row i x hi
   have k:M.blk i≠M.blk id:=fun e=>q (h.rowinj i id g d e)
   exact r.keep f (by simp [Mem.freeze,q]) rfl rfl rfl (by simp [Mem.freeze,k]) r.ne rfl
theorem R.freeze (h:RelSt w0 M st w) {id ver sz:Nat} {cs:List AV} (hid:st.rows[id]? = some (.vec ver sz cs)) {ag:Bool} (hag:ag=true∨sz=1) {o m:Nat} (hb:(o+m)*sz≤cs.length) {v:Value} (hv:R w0 M w v (.vec id ver o m)) :
  R w0 (M.freeze id cs.length) w v (.list (O2 sz ag cs o m) .none):=by
 obtain ⟨E,_⟩:=h.freeze hid
 obtain ⟨H,C,Y,N,Q,V,O,c,D,F,U,G,r,n⟩:=h.row id _ hid
 cases hv with
 | @vec _ _ _ _ p cap d hver hh =>
 obtain ⟨rfl,z,J⟩:=hh H.symm
 have s:(O2 sz ag cs o m).length=m:=XM _ _ _ _ _
 have g:∀ i,i<m→(o+i)*sz+sz≤cs.length:=fun i d=>by
  have:(o+i+1)*sz≤(o+m)*sz:=Nat.mul_le_mul_right _ (by omega)
  rw [Nat.succ_mul] at this
  omega
 let us:Nat→Value:=fun i=>if ag then .agg ((List.range sz).map fun j=>c.getD ((o+i)*sz+j) undef).toArray else c.getD ((o+i)*sz) undef
 have t:∀ i,i<m→R w0 M w (us i) (Ph ag cs ((o+i)*sz) sz):=fun i d=>by
  refine Qr (f:=fun j=>c.getD ((o+i)*sz+j) undef) r (g i d) hag (fun j l=>?_)
  have a:(o+i)*sz+j<c.size:=by omega
  rw [Array.getD_eq_getD_getElem?,Array.getElem?_eq_getElem a]
  exact n _ a l
 have k:∀ i,i<m→(us i).cells.size=sz∧∀ j,j<sz→(us i).cells[j]? = c[(o+i)*sz+j]? := fun i d=>by
  by_cases q:ag=true
  ·have e:us i = .agg ((List.range sz).map fun j=>c.getD ((o+i)*sz+j) undef).toArray:=by simp [us,q]
   rw [e]
   refine ⟨by simp [Value.cells],fun j l=>?_⟩
   have a:(o+i)*sz+j<c.size:=by have:=g i d;omega
   simp [Value.cells,l,Array.getElem?_eq_getElem a]
  ·have u:sz=1:=hag.resolve_left q
   have e:us i=c.getD ((o+i)*sz) undef:=by simp [us,q]
   have a:(o+i)*sz<c.size:=by have:=g i d;omega
   have x:(o+i)*sz<cs.length:=by have:=g i d;omega
   have y:=(n _ a x).cells_one (r _ (List.getElem_mem _))
   rw [e,Array.getD_eq_getD_getElem?,Array.getElem?_eq_getElem a,Option.getD_some,y.1]
   refine ⟨by simp [u],fun j l=>?_⟩
   obtain rfl:j=0:=by omega
   simp [Array.getElem?_eq_getElem a]
 have:=R.list (w0:=w0) (M:=M.freeze id cs.length) (w:=w) (b:=M.blk id) (off:=o*sz) (cap:=cap) (xs:=O2 sz ag cs o m) (o := .none) sz us (by rw [s];exact J) (by omega)
  (fun i d=>by
   rw [s] at d
   refine ⟨(k i d).1,fun j l=>⟨.inr ?_,?_⟩⟩
   ·have K:=g i d
    rw [Nat.add_mul] at K
    simp only [Mem.freeze,if_true]
    omega
   ·rw [(k i d).2 j l,Nat.add_mul,cell_of_row w _ _ c D _ F]) (fun i d=>by
   rw [s] at d
   simp only [O2,List.getElem_map,List.getElem_range]
   exact (t i d).mono E) trivial
 rw [s] at this
 rw [C]
 exact this
theorem Ox {M0:Mem} {W0:World} {ro:Option Nat} {Q:AQ} {c:Code} (l i:Nat) {id ver sz o m:Nat} {bs cs:List AV} (ag:Bool) (hl:st.boxes[l]? = some bs) (hi:bs[i]? = some (.vec id ver o m)) (hid:EQ st.rows id ver=some (sz,cs)) (hag:ag=true∨sz=1) (hb:(o+m)*sz≤cs.length)
  (h:GE P w0 n M0 W0 ro c Q e { st with boxes:=st.boxes.set l (bs.set i (.list (O2 sz ag cs o m) .none)),rows:=st.rows.set id (.dead (ver+1)) }):GE P w0 n M0 W0 ro c Q e st :=
 N9 _ _ (fun M a w d=>by
  obtain ⟨v,b⟩:=d.st.freeze (G8 hid)
  have f:=d.st.box l bs hl
  obtain ⟨a1,a2,c,V,a3,a4,a5,a6⟩:=f
  obtain ⟨U,F⟩:=Ag.1 hi
  have E:R w0 (M.freeze id cs.length) w (c[i]'(by omega)) (.list (O2 sz ag cs o m) .none):=R.freeze d.st (G8 hid) hag hb (F▸a6 i (by omega) U)
  have t:l<st.boxes.length:=(Ag.1 hl).1
  refine ⟨_,v,⟨b.below,by simpa using b.N,b.NR,b.top,b.inj,fun k g hl'=>?_,b.row,b.rowinj,b.loop⟩,d.size,fun s x hs=>(d.env s x hs).mono v⟩
  by_cases q:k=l
  ·subst q
   simp only [List.getElem?_set_self t,Option.some.injEq] at hl'
   subst hl'
   obtain ⟨C,G,y,r,u,K,J,H⟩:=b.box k bs hl
   have ec:y=c:=by
    have:=u.symm.trans a3
    simp only [Option.some.injEq,Obj.cells.injEq] at this
    exact this.1
   subst ec
   refine ⟨C,G,y,r,u,by simp [K],fun z p=>?_,fun j O D=>?_⟩
   ·rcases List.mem_or_eq_of_mem_set p with p | rfl
    ·exact J z p
    ·rfl
   ·by_cases e:j=i
    ·subst e
     rw [List.getElem_set_self]
     exact E
    ·rw [List.getElem_set_ne (Ne.symm e)]
     exact H j O (by simpa using D)
  ·simp only [List.getElem?_set_ne (Ne.symm q)] at hl'
   exact b.box k g hl') h
end
def AV.pubA:AV→AV
 | .tup vs => .tup (vs.map AV.pub)
 | .agg cs => .agg (cs.map AV.pubCell)
 | .list xs _ => .list xs .none
 | x=>x
section
variable (vs cs xs:List AV) (o:Own) (v:Value) (x:AV) (i j k m:Nat)
@[go_sem] theorem Zj9:AV.pubA (.tup vs) = .tup (vs.map AV.pub):=rfl
@[go_sem] theorem Zki:AV.pubA (.agg cs) = .agg (cs.map AV.pubCell):=rfl
@[go_sem] theorem Zie:AV.pubA (.list xs o) = .list xs .none:=rfl
@[go_sem] theorem Ks:AV.pubA (.val v) = .val v:=rfl
@[go_sem] theorem Zh3:AV.pubA (.elem x i) = .elem x i:=rfl
@[go_sem] theorem Zi4:AV.pubA (.box i j) = .box i j:=rfl
@[go_sem] theorem Zkk:AV.pubA (.clo i xs) = .clo i xs:=rfl
@[go_sem] theorem Zj4:AV.pubA (.yld i) = .yld i:=rfl
@[go_sem] theorem Zjg:AV.pubA (.vec i j k m) = .vec i j k m:=rfl
@[go_sem] theorem ZjJ:AV.pubA (.vel i j k) = .vel i j k:=rfl
@[go_sem] theorem Zly:AV.pub (.agg cs) = .agg (cs.map AV.pubCell):=rfl
@[go_sem] theorem ZjU:AV.pub (.list xs o) = .list xs .none:=rfl
@[go_sem] theorem Zk9:AV.pub (.val v) = .val v:=rfl
@[go_sem] theorem Zjp:AV.pub (.elem x i) = .elem x i:=rfl
@[go_sem] theorem Zlh:AV.pub (.box i j) = .box i j:=rfl
@[go_sem] theorem ZkS:AV.pub (.clo i xs) = .clo i xs:=rfl
@[go_sem] theorem Zlr:AV.pub (.yld i) = .yld i:=rfl
@[go_sem] theorem ZkK:AV.pub (.vec i j k m) = .vec i j k m:=rfl
@[go_sem] theorem ZlI:AV.pub (.vel i j k) = .vel i j k:=rfl
@[go_sem] theorem Zfd:AV.pubCell (.list xs o) = .list xs .none:=rfl
@[go_sem] theorem Zgy:AV.pubCell (.val v) = .val v:=rfl
@[go_sem] theorem ZeE:AV.pubCell (.elem x i) = .elem x i:=rfl
@[go_sem] theorem Zgq:AV.pubCell (.box i j) = .box i j:=rfl
@[go_sem] theorem Zgg:AV.pubCell (.clo i xs) = .clo i xs:=rfl
@[go_sem] theorem Zgs:AV.pubCell (.yld i) = .yld i:=rfl
@[go_sem] theorem Zf6:AV.pubCell (.vec i j k m) = .vec i j k m:=rfl
@[go_sem] theorem Zgm:AV.pubCell (.vel i j k) = .vel i j k:=rfl
end
theorem R.pubA {w0:World} {M:Mem} {w:World} {v:Value} {x:AV} (h:R w0 M w v x):R w0 M w v x.pubA:=by
 cases h with
 | tup hl h=>exact .tup (by simpa using hl) (fun i a b=>by simp only [List.getElem_map];exact (h i a (by simpa using b)).pub)
 | flat hf=>exact (R.flat hf).pub
 | agg hl h1 h=>exact (R.agg hl h1 h).pub
 | nil ho=>exact (R.nil ho).pub
 | emp ho=>exact (R.emp ho).pub
 | list sz us hc hm hcell hu ho=>exact (R.list sz us hc hm hcell hu ho).pub
 | elem u k hcell hu=>exact (R.elem u k hcell hu).pub
 | box hl=>exact (R.box hl).pub
 | clo hl h=>exact (R.clo hl h).pub
 | yld hk=>exact (R.yld hk).pub
 | vec hi hv h=>exact (R.vec hi hv h).pub
 | vel hi hv h=>exact (R.vel hi hv h).pub
section
variable {P:Program} {w0:World} {st:St} {f:FuncId}
theorem ACalls.pub {args args':List AV} {Post:AV→St→Prop} (h:ACalls P w0 f args' st Post) (he:args.map AV.pubA=args'):ACalls P w0 f args st Post:=by
 subst he
 refine ⟨h.1,fun M w c e d=>h.2 M w c e ?_⟩
 obtain ⟨g,j⟩:=d
 refine ⟨by simpa using g,fun i a b=>?_⟩
 simp only [List.getElem_map]
 exact (j i a (by simpa using b)).pubA
theorem Ai {c d:Bool} {cs args args':List AV} {k:AV→St→Prop} (v:AV)
  (h:ACalls P w0 f args' st fun r s=>r=v∧s=st) (he:(args++cs).map AV.pubA=args') (hk:k v st):MF P w0 c d (.clo f cs) args st k := .inl ⟨v,fun _=>h.pub he,hk⟩
theorem HB {c d:Bool} {cs args args':List AV} {k:AV→St→Prop} (v:AV)
  (h:c=true→ACalls P w0 f args' st fun r s=>r=v∧s=st) (he:(args++cs).map AV.pubA=args') (hk:k v st):MF P w0 c d (.clo f cs) args st k := .inl ⟨v,fun q=>(h q).pub he,hk⟩
theorem Bt {cs args args':List AV} {k:AV→St→Prop} (Post:AV→St→Prop)
  (h:ACalls P w0 f args' st Post) (he:(args++cs).map AV.pubA=args') (hk:∀ v s,Post v s→k v s):MF P w0 true false (.clo f cs) args st k := .inr ⟨rfl,Post,fun _=>h.pub he,fun v s a _=>hk v s (a rfl)⟩
def finP (st:St) (Post:AV→St→Prop) (r:AV) (s:St):Prop :=
 st.boxes.length≤s.boxes.length∧st.rows.length≤s.rows.length∧st.loops.length≤s.loops.length∧Calm st.boxes.length st.rows.length st.loops.length (s.cut st.boxes.length st.rows.length st.loops.length) ∧
  Under st.boxes.length st.rows.length st.loops.length r.pubA∧Post r.pubA (s.cut st.boxes.length st.rows.length st.loops.length)
theorem ACalls.finP {args:List AV} {Post:AV→St→Prop} (h:ACalls P w0 f args st (finP st Post)):ACalls P w0 f args st Post:=by
 refine ⟨h.1,fun M w c a b=>(h.2 M w c a b).mono ?_⟩
 rintro en n ⟨v,M',r,g,j,⟨k,l,d,i,e,m⟩,h3,h4,h5⟩
 exact ⟨v,M'.cut st.boxes.length st.rows.length st.loops.length,r.pubA,_,j,m,h3.cut (by have:=a.N;omega) (by have:=a.NR;omega) (by have:=a.loop.NL;omega) (by rw [h4.loop.NL];exact d),h4.cut k l d i,h5.pubA.cut e⟩
theorem LR {B:List (List AV)} {Rw:List RowA} {L:List LoopA} {s:St} {Post:AV→St→Prop} {v:AV} (hc:Ev.Calm B.length Rw.length L.length ⟨B,Rw,L⟩) (h1:B <+: s.boxes) (h2:Rw <+: s.rows) (h3:L <+: s.loops) (hu:Under B.length Rw.length L.length v.pubA) (hp:Post v.pubA ⟨B,Rw,L⟩) :
  Go.Ev.finP ⟨B,Rw,L⟩ Post v s:=by
 obtain ⟨b,e1⟩:=h1
 obtain ⟨r,e2⟩:=h2
 obtain ⟨l,e3⟩:=h3
 obtain ⟨c,d,a⟩:=s
 simp only at e1 e2 e3
 subst e1 e2 e3
 have e:St.cut ⟨B++b,Rw++r,L++l⟩ B.length Rw.length L.length=⟨B,Rw,L⟩:=by simp [St.cut]
 exact ⟨by simp,by simp,by simp,by simp only [e];exact hc,hu,by simp only [e];exact hp⟩
end
@[go_sem] theorem Zf2 (xs c:List AV) (h:xs.length=c.length):Dw xs 0 c=c:=by simp [Dw,h]
end Go.Ev
namespace Go.Proofs
open Go.Shelf
def Tryz.lays106_ren:Go.Shelf.Ren:=⟨fun | 106=>141 | 213=>197 | 265=>228 | n=>n,fun | 9=>9 | 3=>3 | n=>n,fun | n=>n⟩
theorem Tryz.lays106:Go.Proofs.Lays.n106 Tryz.prog Tryz.lays106_ren:={
 mixed:=by kernel_rfl
 f106:=Tryz.func141.trans (congrArg some (by kernel_rfl))
 f213:=Tryz.func197.trans (congrArg some (by kernel_rfl))
 f265:=Tryz.func228.trans (congrArg some (by kernel_rfl))
 t3:=Tryz.underlying3
 a3:=Tryz.isAgg3
 z3:=Tryz.sizeOf3
 v3:=Tryz.zeroValue3
 t9:=Tryz.underlying9
 a9:=Tryz.isAgg9
 z9:=Tryz.sizeOf9
 v9:=Tryz.zeroValue9 }
open Go.RowKit in
theorem Tryz.strings_Compare (a b:ByteArray) (w:World) :
  Calls Tryz.prog 141 #[.string a,.string b] w fun e w'=>e = .returned (.int .i64 (Lib.compareBytes a.data.toList b.data.toList))∧w'=w:=Any.strings_Compare Tryz.lays106 a b w
def Tryz.laysM171_ren:Go.Shelf.Ren:=⟨fun | 171=>157 | 243=>201 | 246=>230 | 283=>243 | 284=>244 | 285=>245 | 286=>246 | 129=>258 | 317=>259 | 318=>260 | 319=>261 | 320=>262 | 337=>268 | 338=>269 | n=>n,fun | 3=>3 | 9=>9 | 2=>2 | 4=>4 | 171=>229 | 0=>0 | 53=>216 | 37=>138 | 5=>5 | 173=>232 | 212=>247 | 51=>220 | 20=>20 | 213=>248 | 46=>180 | 232=>256 | 233=>257 | n=>n,fun | 17=>3 | 18=>4 | 19=>5 | n=>n⟩
theorem Tryz.laysM171:Go.Proofs.LaysM.n171 Tryz.prog Tryz.laysM171_ren:={
 mixed:=by kernel_rfl
 f129:=Tryz.func258.trans (congrArg some (by kernel_rfl))
 f171:=Tryz.func157.trans (congrArg some (by kernel_rfl))
 f243:=Tryz.func201.trans (congrArg some (by kernel_rfl))
 f246:=Tryz.func230.trans (congrArg some (by kernel_rfl))
 f283:=Tryz.func243.trans (congrArg some (by kernel_rfl))
 f284:=Tryz.func244.trans (congrArg some (by kernel_rfl))
 f285:=Tryz.func245.trans (congrArg some (by kernel_rfl))
 f286:=Tryz.func246.trans (congrArg some (by kernel_rfl))
 f317:=Tryz.func259.trans (congrArg some (by kernel_rfl))
 f318:=Tryz.func260.trans (congrArg some (by kernel_rfl))
 f319:=Tryz.func261.trans (congrArg some (by kernel_rfl))
 f320:=Tryz.func262.trans (congrArg some (by kernel_rfl))
 f337:=Tryz.func268.trans (congrArg some (by kernel_rfl))
 f338:=Tryz.func269.trans (congrArg some (by kernel_rfl))
 t0:=Tryz.underlying0
 a0:=Tryz.isAgg0
 z0:=Tryz.sizeOf0
 v0:=Tryz.zeroValue0
 t2:=Tryz.underlying2
 a2:=Tryz.isAgg2
 z2:=Tryz.sizeOf2
 v2:=Tryz.zeroValue2
 t3:=Tryz.underlying3
 a3:=Tryz.isAgg3
 z3:=Tryz.sizeOf3
 v3:=Tryz.zeroValue3
 t4:=Tryz.underlying4
 a4:=Tryz.isAgg4
 z4:=Tryz.sizeOf4
 v4:=Tryz.zeroValue4
 t5:=Tryz.underlying5
 a5:=Tryz.isAgg5
 z5:=Tryz.sizeOf5
 v5:=Tryz.zeroValue5
 t9:=Tryz.underlying9
 a9:=Tryz.isAgg9
 z9:=Tryz.sizeOf9
 v9:=Tryz.zeroValue9
 t20:=Tryz.underlying20
 a20:=Tryz.isAgg20
 z20:=Tryz.sizeOf20
 v20:=Tryz.zeroValue20
 t37:=Tryz.underlying138
 a37:=Tryz.isAgg138
 z37:=Tryz.sizeOf138
 v37:=Tryz.zeroValue138
 t46:=Tryz.underlying180
 a46:=Tryz.isAgg180
 z46:=Tryz.sizeOf180
 v46:=Tryz.zeroValue180
 t51:=Tryz.underlying220
 a51:=Tryz.isAgg220
 z51:=Tryz.sizeOf220
 v51:=Tryz.zeroValue220
 t53:=Tryz.underlying216
 a53:=Tryz.isAgg216
 z53:=Tryz.sizeOf216
 v53:=Tryz.zeroValue216
 t171:=Tryz.underlying229
 a171:=Tryz.isAgg229
 z171:=Tryz.sizeOf229
 v171:=Tryz.zeroValue229
 t173:=Tryz.underlying232
 a173:=Tryz.isAgg232
 z173:=Tryz.sizeOf232
 v173:=Tryz.zeroValue232
 t212:=Tryz.underlying247
 a212:=Tryz.isAgg247
 z212:=Tryz.sizeOf247
 v212:=Tryz.zeroValue247
 t213:=Tryz.underlying248
 a213:=Tryz.isAgg248
 z213:=Tryz.sizeOf248
 t232:=Tryz.underlying256
 a232:=Tryz.isAgg256
 z232:=Tryz.sizeOf256
 v232:=Tryz.zeroValue256
 t233:=Tryz.underlying257
 a233:=Tryz.isAgg257
 z233:=Tryz.sizeOf257
 v233:=Tryz.zeroValue257
 g17:=by kernel_rfl
 g18:=by kernel_rfl
 g19:=by kernel_rfl
 i0:=by kernel_rfl
 i2:=by kernel_rfl
 i3:=by kernel_rfl
 i4:=by kernel_rfl
 i5:=by kernel_rfl
 i9:=by kernel_rfl
 i20:=by kernel_rfl
 i37:=by kernel_rfl
 i46:=by kernel_rfl
 i51:=by kernel_rfl
 i53:=by kernel_rfl
 i171:=by kernel_rfl
 i173:=by kernel_rfl
 i212:=by kernel_rfl
 i232:=by kernel_rfl
 i233:=by kernel_rfl
 m17:=by kernel_rfl
 m18:=by kernel_rfl
 m19:=by kernel_rfl }
def Tryz.laysValid_ren:Go.Shelf.Ren:=⟨fun | 196=>115 | 259=>186 | n=>n,fun | 9=>9 | 4=>4 | 3=>3 | 5=>5 | 12=>12 | 119=>176 | 0=>0 | 46=>180 | 139=>179 | 138=>178 | 53=>216 | n=>n,fun | 3=>0 | 4=>1 | n=>n⟩
theorem Tryz.laysValid:Go.Proofs.Lays.n196 Tryz.prog Tryz.laysValid_ren:={
 mixed:=by kernel_rfl
 f196:=Tryz.func115.trans (congrArg some (by kernel_rfl))
 f259:=Tryz.func186.trans (congrArg some (by kernel_rfl))
 t0:=Tryz.underlying0
 a0:=Tryz.isAgg0
 z0:=Tryz.sizeOf0
 v0:=Tryz.zeroValue0
 t3:=Tryz.underlying3
 a3:=Tryz.isAgg3
 z3:=Tryz.sizeOf3
 v3:=Tryz.zeroValue3
 t4:=Tryz.underlying4
 a4:=Tryz.isAgg4
 z4:=Tryz.sizeOf4
 v4:=Tryz.zeroValue4
 t5:=Tryz.underlying5
 a5:=Tryz.isAgg5
 z5:=Tryz.sizeOf5
 v5:=Tryz.zeroValue5
 t9:=Tryz.underlying9
 a9:=Tryz.isAgg9
 z9:=Tryz.sizeOf9
 v9:=Tryz.zeroValue9
 t12:=Tryz.underlying12
 a12:=Tryz.isAgg12
 z12:=Tryz.sizeOf12
 v12:=Tryz.zeroValue12
 t46:=Tryz.underlying180
 a46:=Tryz.isAgg180
 z46:=Tryz.sizeOf180
 v46:=Tryz.zeroValue180
 t53:=Tryz.underlying216
 a53:=Tryz.isAgg216
 z53:=Tryz.sizeOf216
 v53:=Tryz.zeroValue216
 t119:=Tryz.underlying176
 a119:=Tryz.isAgg176
 z119:=Tryz.sizeOf176
 t138:=Tryz.underlying178
 a138:=Tryz.isAgg178
 z138:=Tryz.sizeOf178
 v138:=Tryz.zeroValue178
 t139:=Tryz.underlying179
 a139:=Tryz.isAgg179
 z139:=Tryz.sizeOf179
 v139:=Tryz.zeroValue179
 g3:=by kernel_rfl
 g4:=by kernel_rfl }
end Go.Proofs
namespace Go.Proofs.YtgpmlelfkjfbiaaGreatDoor
open Go Go.RowKit Go.Ev
@[go_sem] theorem Zkf:F4 Tryz.prog 106=none:=by kernel_rfl
@[go_sem] theorem Zj3:F4 Tryz.prog 117=some (8,1,false):=by kernel_rfl
@[go_sem] theorem ZjX:F4 Tryz.prog 122=none:=by kernel_rfl
@[go_sem] theorem Zi3:F4 Tryz.prog 130=some (5,1,false):=by kernel_rfl
@[go_sem] theorem Zju:F4 Tryz.prog 138=none:=by kernel_rfl
@[go_sem] theorem Zi6:F4 Tryz.prog 163=none:=by kernel_rfl
@[go_sem] theorem Zke:F4 Tryz.prog 174=none:=by kernel_rfl
@[go_sem] theorem Zjq:F4 Tryz.prog 184=none:=by kernel_rfl
@[go_sem] theorem Zjf:F4 Tryz.prog 185=some (11,8,true):=by kernel_rfl
@[go_sem] theorem ZjN:F4 Tryz.prog 212=none:=by kernel_rfl
@[go_sem] theorem Zi9:F4 Tryz.prog 213=none:=by kernel_rfl
@[go_sem] theorem Zlp:F4 Tryz.prog 22=none:=by kernel_rfl
@[go_sem] theorem Zky:F4 Tryz.prog 23=none:=by kernel_rfl
@[go_sem] theorem ZkP:F4 Tryz.prog 24=none:=by kernel_rfl
@[go_sem] theorem ZlD:F4 Tryz.prog 26=none:=by kernel_rfl
@[go_sem] theorem ZkI:F4 Tryz.prog 29=none:=by kernel_rfl
@[go_sem] theorem ZkG:F4 Tryz.prog 31=none:=by kernel_rfl
@[go_sem] theorem ZkD:F4 Tryz.prog 35=none:=by kernel_rfl
@[go_sem] theorem ZkN:F4 Tryz.prog 37=none:=by kernel_rfl
@[go_sem] theorem Zku:F4 Tryz.prog 39=none:=by kernel_rfl
@[go_sem] theorem ZkU:F4 Tryz.prog 43=none:=by kernel_rfl
@[go_sem] theorem Zkp:F4 Tryz.prog 44=none:=by kernel_rfl
@[go_sem] theorem Zls:F4 Tryz.prog 46=none:=by kernel_rfl
@[go_sem] theorem Zkv:F4 Tryz.prog 54=none:=by kernel_rfl
@[go_sem] theorem ZkF:F4 Tryz.prog 75=none:=by kernel_rfl
@[go_sem] theorem Zlf:F4 Tryz.prog 82=none:=by kernel_rfl
@[go_sem] theorem ZmA:F4 Tryz.prog 9=none:=by kernel_rfl
@[go_sem] theorem Zlq:F4 Tryz.prog 92=some (11,1,false):=by kernel_rfl
@[go_sem] theorem ZlF:L0 Tryz.prog 4=true:=by kernel_rfl
@[go_sem] theorem ZhN:IH Tryz.prog 138=true:=by kernel_rfl
@[go_sem] theorem Zhg:IH Tryz.prog 180=false:=by kernel_rfl
@[go_sem] theorem Zid:IH Tryz.prog 21=false:=by kernel_rfl
@[go_sem] theorem Zkc:IH Tryz.prog 3=false:=by kernel_rfl
@[go_sem] theorem Zi5:IH Tryz.prog 5=false:=by kernel_rfl
@[go_sem] theorem Zka:IH Tryz.prog 9=false:=by kernel_rfl
@[go_sem] theorem ZkC:JX Tryz.prog 117=none:=by kernel_rfl
@[go_sem] theorem Zlt:JX Tryz.prog 130=none:=by kernel_rfl
@[go_sem] theorem Zk2:JX Tryz.prog 138=some (5,1,false,1):=by kernel_rfl
@[go_sem] theorem ZkZ:JX Tryz.prog 163=some (3,1,false,8):=by kernel_rfl
@[go_sem] theorem Zlj:JX Tryz.prog 174=some (32,1,false,8):=by kernel_rfl
@[go_sem] theorem Zlo:JX Tryz.prog 185=none:=by kernel_rfl
@[go_sem] theorem Zk6:JX Tryz.prog 213=some (212,7,true,96):=by kernel_rfl
@[go_sem] theorem Zmh:JX Tryz.prog 22=some (9,1,false,16):=by kernel_rfl
@[go_sem] theorem Zcl:JX Tryz.prog 23=some (26,7,true,104):=by kernel_rfl
@[go_sem] theorem Zg1:JX Tryz.prog 24=some (54,11,true,160):=by kernel_rfl
@[go_sem] theorem Zmb:JX Tryz.prog 29=some (37,1,false,24):=by kernel_rfl
@[go_sem] theorem ZlQ:JX Tryz.prog 31=some (35,1,false,24):=by kernel_rfl
@[go_sem] theorem Zmk:JX Tryz.prog 35=some (39,3,true,32):=by kernel_rfl
@[go_sem] theorem Zmp:JX Tryz.prog 37=some (82,3,true,32):=by kernel_rfl
@[go_sem] theorem U1:JX Tryz.prog 43=some (46,6,true,88):=by kernel_rfl
@[go_sem] theorem Pl:JX Tryz.prog 44=some (75,7,true,104):=by kernel_rfl
@[go_sem] theorem ZgU:JX Tryz.prog 69=some (106,2,true,24):=by kernel_rfl
@[go_sem] theorem elT_9:JX Tryz.prog 9=none:=by kernel_rfl
@[go_sem] theorem ZlP:JX Tryz.prog 92=none:=by kernel_rfl
@[go_sem] theorem ZfM (xs ys:List AV):NW Tryz.prog .neq 39 xs ys=(obK [(some .i64,false),(some .i64,false),(none,true)] xs ys,!NY xs ys):=Zbs (by kernel_rfl) xs ys
@[go_sem] theorem Zg8:Fb Tryz.prog 184 1=some (1,1,false):=by kernel_rfl
@[go_sem] theorem Zht:Fb Tryz.prog 184 2=some (2,1,false):=by kernel_rfl
@[go_sem] theorem Zg9:Fb Tryz.prog 184 3=some (3,1,false):=by kernel_rfl
@[go_sem] theorem ZgW:Fb Tryz.prog 184 4=some (4,1,false):=by kernel_rfl
@[go_sem] theorem ZgV:Fb Tryz.prog 184 5=some (5,1,false):=by kernel_rfl
@[go_sem] theorem Zg3:Fb Tryz.prog 184 6=some (6,1,false):=by kernel_rfl
@[go_sem] theorem ZgD:Fb Tryz.prog 184 7=some (7,1,false):=by kernel_rfl
@[go_sem] theorem Zhy:Fb Tryz.prog 212 0=some (0,6,true):=by kernel_rfl
@[go_sem] theorem Zhe:Fb Tryz.prog 212 1=some (6,1,false):=by kernel_rfl
@[go_sem] theorem Zh5:Fb Tryz.prog 26 0=some (0,1,false):=by kernel_rfl
@[go_sem] theorem Zh1:Fb Tryz.prog 26 1=some (1,1,false):=by kernel_rfl
@[go_sem] theorem ZiQ:Fb Tryz.prog 26 2=some (2,1,false):=by kernel_rfl
@[go_sem] theorem Zil:Fb Tryz.prog 26 3=some (3,1,false):=by kernel_rfl
@[go_sem] theorem ZiY:Fb Tryz.prog 26 4=some (4,1,false):=by kernel_rfl
@[go_sem] theorem ZiM:Fb Tryz.prog 26 5=some (5,1,false):=by kernel_rfl
@[go_sem] theorem Zio:Fb Tryz.prog 26 6=some (6,1,false):=by kernel_rfl
@[go_sem] theorem ZhR:Fb Tryz.prog 46 0=some (0,1,false):=by kernel_rfl
@[go_sem] theorem ZiH:Fb Tryz.prog 46 1=some (1,1,false):=by kernel_rfl
@[go_sem] theorem Ziw:Fb Tryz.prog 46 2=some (2,1,false):=by kernel_rfl
@[go_sem] theorem ZiV:Fb Tryz.prog 46 3=some (3,1,false):=by kernel_rfl
@[go_sem] theorem Ziv:Fb Tryz.prog 46 4=some (4,1,false):=by kernel_rfl
@[go_sem] theorem ZiI:Fb Tryz.prog 46 5=some (5,1,false):=by kernel_rfl
@[go_sem] theorem ZiN:Fb Tryz.prog 54 0=some (0,1,false):=by kernel_rfl
@[go_sem] theorem ZiU:Fb Tryz.prog 54 1=some (1,1,false):=by kernel_rfl
@[go_sem] theorem Zh4:Fb Tryz.prog 54 2=some (2,1,false):=by kernel_rfl
@[go_sem] theorem Ziq:Fb Tryz.prog 54 3=some (3,7,true):=by kernel_rfl
@[go_sem] theorem ZhS:Fb Tryz.prog 54 4=some (10,1,false):=by kernel_rfl
@[go_sem] theorem Zif:Fb Tryz.prog 58 0=some (0,7,true):=by kernel_rfl
@[go_sem] theorem ZhW:Fb Tryz.prog 58 1=some (7,7,true):=by kernel_rfl
@[go_sem] theorem ZiE:Fb Tryz.prog 75 0=some (0,1,false):=by kernel_rfl
@[go_sem] theorem ZiC:Fb Tryz.prog 75 1=some (1,6,true):=by kernel_rfl
@[go_sem] theorem ZiR:Fb Tryz.prog 82 0=some (0,1,false):=by kernel_rfl
@[go_sem] theorem ZhY:Fb Tryz.prog 82 1=some (1,1,false):=by kernel_rfl
@[go_sem] theorem Zia:Fb Tryz.prog 82 2=some (2,1,false):=by kernel_rfl
@[go_sem] theorem Zj2:Nq Tryz.prog 138=none:=by kernel_rfl
@[go_sem] theorem Zjk:Nq Tryz.prog 180=some .u64:=by kernel_rfl
@[go_sem] theorem Zll:Nq Tryz.prog 21=some .i32:=by kernel_rfl
@[go_sem] theorem Zl8:Nq Tryz.prog 3=some .i64:=by kernel_rfl
@[go_sem] theorem Zmg:Nq Tryz.prog 5=some .u8:=by kernel_rfl
@[go_sem] theorem ZlX:Nq Tryz.prog 9=none:=by kernel_rfl
@[go_sem] theorem ZfT:Ea Tryz.prog 106=some [(0,1),(1,1)]:=by kernel_rfl
@[go_sem] theorem Zgu:Ea Tryz.prog 117=none:=by kernel_rfl
@[go_sem] theorem Zgt:Ea Tryz.prog 122=some [(0,1),(1,1)]:=by kernel_rfl
@[go_sem] theorem Zga:Ea Tryz.prog 130=none:=by kernel_rfl
@[go_sem] theorem Zf5:Ea Tryz.prog 184=some [(0,1),(1,1),(2,1),(3,1),(4,1),(5,1),(6,1),(7,1)]:=by kernel_rfl
@[go_sem] theorem Zgl:Ea Tryz.prog 185=none:=by kernel_rfl
@[go_sem] theorem Zgd:Ea Tryz.prog 212=some [(0,6),(6,1)]:=by kernel_rfl
@[go_sem] theorem ZhA:Ea Tryz.prog 26=some [(0,1),(1,1),(2,1),(3,1),(4,1),(5,1),(6,1)]:=by kernel_rfl
@[go_sem] theorem ZgI:Ea Tryz.prog 39=some [(0,1),(1,1),(2,1)]:=by kernel_rfl
@[go_sem] theorem Zhz:Ea Tryz.prog 46=some [(0,1),(1,1),(2,1),(3,1),(4,1),(5,1)]:=by kernel_rfl
@[go_sem] theorem ZgL:Ea Tryz.prog 54=some [(0,1),(1,1),(2,1),(3,7),(10,1)]:=by kernel_rfl
@[go_sem] theorem Zhw:Ea Tryz.prog 75=some [(0,1),(1,6)]:=by kernel_rfl
@[go_sem] theorem ZhP:Ea Tryz.prog 82=some [(0,1),(1,1),(2,1)]:=by kernel_rfl
@[go_sem] theorem Zhu:Ea Tryz.prog 92=none:=by kernel_rfl
@[go_sem] theorem ZjZ:EA Tryz.prog 117=false:=by kernel_rfl
@[go_sem] theorem ZjW:EA Tryz.prog 130=false:=by kernel_rfl
@[go_sem] theorem Zkh:EA Tryz.prog 138=false:=by kernel_rfl
@[go_sem] theorem Zkd:EA Tryz.prog 163=false:=by kernel_rfl
@[go_sem] theorem ZjA:EA Tryz.prog 174=false:=by kernel_rfl
@[go_sem] theorem Zjl:EA Tryz.prog 180=false:=by kernel_rfl
@[go_sem] theorem Zj6:EA Tryz.prog 185=false:=by kernel_rfl
@[go_sem] theorem ZkY:EA Tryz.prog 21=false:=by kernel_rfl
@[go_sem] theorem Zja:EA Tryz.prog 213=false:=by kernel_rfl
@[go_sem] theorem ZlG:EA Tryz.prog 22=false:=by kernel_rfl
@[go_sem] theorem ZkH:EA Tryz.prog 23=false:=by kernel_rfl
@[go_sem] theorem Zlk:EA Tryz.prog 24=false:=by kernel_rfl
@[go_sem] theorem Zkt:EA Tryz.prog 29=false:=by kernel_rfl
@[go_sem] theorem Zl4:EA Tryz.prog 3=false:=by kernel_rfl
@[go_sem] theorem Zla:EA Tryz.prog 31=false:=by kernel_rfl
@[go_sem] theorem Zk5:EA Tryz.prog 35=false:=by kernel_rfl
@[go_sem] theorem Zkr:EA Tryz.prog 37=false:=by kernel_rfl
@[go_sem] theorem Zlb:EA Tryz.prog 43=false:=by kernel_rfl
@[go_sem] theorem Zkn:EA Tryz.prog 44=false:=by kernel_rfl
@[go_sem] theorem Zmf:EA Tryz.prog 5=false:=by kernel_rfl
@[go_sem] theorem Zlu:EA Tryz.prog 69=false:=by kernel_rfl
@[go_sem] theorem ZlY:EA Tryz.prog 9=true:=by kernel_rfl
@[go_sem] theorem Zlm:EA Tryz.prog 92=false:=by kernel_rfl
@[go_sem] theorem ZkQ:IB Tryz.prog 117=some (8,true):=by kernel_rfl
@[go_sem] theorem ZkW:IB Tryz.prog 122=some (2,true):=by kernel_rfl
@[go_sem] theorem ZkV:IB Tryz.prog 125=some (1,false):=by kernel_rfl
@[go_sem] theorem Zk0:IB Tryz.prog 184=some (8,true):=by kernel_rfl
@[go_sem] theorem ZkE:IB Tryz.prog 185=some (88,true):=by kernel_rfl
@[go_sem] theorem Zk8:IB Tryz.prog 212=some (7,true):=by kernel_rfl
@[go_sem] theorem Zms:IB Tryz.prog 22=some (1,false):=by kernel_rfl
@[go_sem] theorem ZlZ:IB Tryz.prog 23=some (1,false):=by kernel_rfl
@[go_sem] theorem Zmu:IB Tryz.prog 24=some (1,false):=by kernel_rfl
@[go_sem] theorem ZlO:IB Tryz.prog 26=some (7,true):=by kernel_rfl
@[go_sem] theorem ZlK:IB Tryz.prog 29=some (1,false):=by kernel_rfl
@[go_sem] theorem tyT_3:IB Tryz.prog 3=some (1,false):=by kernel_rfl
@[go_sem] theorem Zl1:IB Tryz.prog 32=some (1,false):=by kernel_rfl
@[go_sem] theorem ZlR:IB Tryz.prog 35=some (1,false):=by kernel_rfl
@[go_sem] theorem Zmx:IB Tryz.prog 37=some (1,false):=by kernel_rfl
@[go_sem] theorem ZlU:IB Tryz.prog 39=some (3,true):=by kernel_rfl
@[go_sem] theorem tyT_4:IB Tryz.prog 4=some (1,false):=by kernel_rfl
@[go_sem] theorem Zml:IB Tryz.prog 43=some (1,false):=by kernel_rfl
@[go_sem] theorem Zme:IB Tryz.prog 44=some (1,false):=by kernel_rfl
@[go_sem] theorem Zl6:IB Tryz.prog 46=some (6,true):=by kernel_rfl
@[go_sem] theorem ZlM:IB Tryz.prog 49=some (1,false):=by kernel_rfl
@[go_sem] theorem tyT_5:IB Tryz.prog 5=some (1,false):=by kernel_rfl
@[go_sem] theorem ZlL:IB Tryz.prog 54=some (11,true):=by kernel_rfl
@[go_sem] theorem Zma:IB Tryz.prog 58=some (14,true):=by kernel_rfl
@[go_sem] theorem Zmj:IB Tryz.prog 69=some (1,false):=by kernel_rfl
@[go_sem] theorem Zmn:IB Tryz.prog 75=some (7,true):=by kernel_rfl
@[go_sem] theorem Zmv:IB Tryz.prog 82=some (3,true):=by kernel_rfl
@[go_sem] theorem Zmc:IB Tryz.prog 85=some (1,false):=by kernel_rfl
@[go_sem] theorem tyT_9:IB Tryz.prog 9=some (1,false):=by kernel_rfl
@[go_sem] theorem ZlT:IB Tryz.prog 92=some (11,true):=by kernel_rfl
@[go_sem] theorem ZbP:CW Tryz.prog 106=some [.val (.string ⟨#[]⟩),.val (.int .i64 0)]:=by kernel_rfl
@[go_sem] theorem Zij:CW Tryz.prog 117=some [.val (.string ⟨#[]⟩),.val (.string ⟨#[]⟩),.val (.string ⟨#[]⟩),.val (.string ⟨#[]⟩),.val (.string ⟨#[]⟩),.val (.string ⟨#[]⟩),.val (.string ⟨#[]⟩),.val (.string ⟨#[]⟩)]:=by kernel_rfl
@[go_sem] theorem Zh2:CW Tryz.prog 122=some [.val .nilFunc,.val (.bool false)]:=by kernel_rfl
@[go_sem] theorem ZiB:CW Tryz.prog 130=some [.val (.int .i64 0),.val (.int .i64 0),.val (.int .i64 0),.val (.int .i64 0),.val (.int .i64 0)]:=by kernel_rfl
@[go_sem] theorem ZiS:CW Tryz.prog 184=some [.val (.string ⟨#[]⟩),.val (.int .i64 0),.val (.int .i64 0),.val (.bool false),.val (.bool false),.val (.bool false),.val (.bool false),.val (.bool false)]:=by kernel_rfl
@[go_sem] theorem Zin:CW Tryz.prog 185=some [.val (.string ⟨#[]⟩),.val (.int .i64 0),.val (.int .i64 0),.val (.bool false),.val (.bool false),.val (.bool false),.val (.bool false),.val (.bool false),.val (.string ⟨#[]⟩),.val (.int .i64 0),.val (.int .i64 0),.val (.bool false),.val (.bool false),.val (.bool false),.val (.bool false),.val (.bool false),.val (.string ⟨#[]⟩),.val (.int .i64 0),.val (.int .i64 0),.val (.bool false),.val (.bool false),.val (.bool false),.val (.bool false),.val (.bool false),.val (.string ⟨#[]⟩),.val (.int .i64 0),.val (.int .i64 0),.val (.bool false),.val (.bool false),.val (.bool false),.val (.bool false),.val (.bool false),.val (.string ⟨#[]⟩),.val (.int .i64 0),.val (.int .i64 0),.val (.bool false),.val (.bool false),.val (.bool false),.val (.bool false),.val (.bool false),.val (.string ⟨#[]⟩),.val (.int .i64 0),.val (.int .i64 0),.val (.bool false),.val (.bool false),.val (.bool false),.val (.bool false),.val (.bool false),.val (.string ⟨#[]⟩),.val (.int .i64 0),.val (.int .i64 0),.val (.bool false),.val (.bool false),.val (.bool false),.val (.bool false),.val (.bool false),.val (.string ⟨#[]⟩),.val (.int .i64 0),.val (.int .i64 0),.val (.bool false),.val (.bool false),.val (.bool false),.val (.bool false),.val (.bool false),.val (.string ⟨#[]⟩),.val (.int .i64 0),.val (.int .i64 0),.val (.bool false),.val (.bool false),.val (.bool false),.val (.bool false),.val (.bool false),.val (.string ⟨#[]⟩),.val (.int .i64 0),.val (.int .i64 0),.val (.bool false),.val (.bool false),.val (.bool false),.val (.bool false),.val (.bool false),.val (.string ⟨#[]⟩),.val (.int .i64 0),.val (.int .i64 0),.val (.bool false),.val (.bool false),.val (.bool false),.val (.bool false),.val (.bool false)]:=by kernel_rfl
@[go_sem] theorem ZiW:CW Tryz.prog 212=some [.val (.int .i64 0),.val (.int .i64 0),.val (.int .i64 0),.val (.string ⟨#[]⟩),.list [] .full,.list [] .full,.val (.int .i64 0)]:=by kernel_rfl
@[go_sem] theorem Yd:CW Tryz.prog 26=some [.val (.int .i64 0),.val (.int .i64 0),.val (.int .i64 0),.val (.int .i64 0),.list [] .full,.list [] .full,.list [] .full]:=by kernel_rfl
@[go_sem] theorem Zjc:CW Tryz.prog 29=some [.list [] .full]:=by kernel_rfl
@[go_sem] theorem Zlx:CW Tryz.prog 3=some [.val (.int .i64 0)]:=by kernel_rfl
@[go_sem] theorem Zjr:CW Tryz.prog 32=some [.val (.int .i64 0)]:=by kernel_rfl
@[go_sem] theorem Zi1:CW Tryz.prog 35=some [.list [] .full]:=by kernel_rfl
@[go_sem] theorem Zjs:CW Tryz.prog 37=some [.list [] .full]:=by kernel_rfl
@[go_sem] theorem ZjY:CW Tryz.prog 39=some [.val (.int .i64 0),.val (.int .i64 0),.val (.string ⟨#[]⟩)]:=by kernel_rfl
@[go_sem] theorem ZkA:CW Tryz.prog 4=some [.val (.bool false)]:=by kernel_rfl
@[go_sem] theorem Ou:CW Tryz.prog 46=some [.val (.int .i64 0),.val (.int .i64 0),.val (.int .i64 0),.val (.string ⟨#[]⟩),.list [] .full,.list [] .full]:=by kernel_rfl
@[go_sem] theorem Zck:CW Tryz.prog 54=some [.val (.int .i64 0),.val (.string ⟨#[]⟩),.val (.int .i64 0),.val (.int .i64 0),.val (.int .i64 0),.val (.int .i64 0),.val (.int .i64 0),.list [] .full,.list [] .full,.list [] .full,.list [] .full]:=by kernel_rfl
@[go_sem] theorem ZjB:CW Tryz.prog 69=some [.list [] .full]:=by kernel_rfl
@[go_sem] theorem Kv:CW Tryz.prog 75=some [.val (.string ⟨#[]⟩),.val (.int .i64 0),.val (.int .i64 0),.val (.int .i64 0),.val (.string ⟨#[]⟩),.list [] .full,.list [] .full]:=by kernel_rfl
@[go_sem] theorem ZjT:CW Tryz.prog 82=some [.val (.int .i64 0),.val (.int .i64 0),.val (.string ⟨#[]⟩)]:=by kernel_rfl
@[go_sem] theorem Zkj:CW Tryz.prog 85=some [.val .nilFunc]:=by kernel_rfl
@[go_sem] theorem ZlH:CW Tryz.prog 9=some [.val (.string ⟨#[]⟩)]:=by kernel_rfl
@[go_sem] theorem Zjd:CW Tryz.prog 92=some [.val .nilFunc,.val .nilFunc,.val .nilFunc,.val .nilFunc,.val .nilFunc,.val .nilFunc,.val .nilFunc,.val .nilFunc,.val .nilFunc,.val .nilFunc,.val .nilFunc]:=by kernel_rfl
theorem Iw:Tryz.prog.follows .mixedOrders=true:=by kernel_rfl
inductive Vl where
 | mk (kind int scale:Int) (text:ByteArray) (list:List Vl) (fields:List (ByteArray × Vl))
inductive Ty where
 | mk (kind min max scale:Int) (words:List ByteArray) (elem:List Ty) (fields:List (Int × ByteArray × Int × Ty × List Vl))
namespace Vl
def kind:Vl→Int | mk k _ _ _ _ _=>k
def int:Vl→Int | mk _ i _ _ _ _=>i
def scale:Vl→Int | mk _ _ s _ _ _=>s
def text:Vl→ByteArray | mk _ _ _ t _ _=>t
def list:Vl→List Vl | mk _ _ _ _ l _=>l
def fields:Vl→List (ByteArray × Vl) | mk _ _ _ _ _ f=>f
end Vl
mutual
def Vl.size:Vl→Nat
 | .mk _ _ _ _ l f=>1+GF l+F9 f
def GF:List Vl→Nat
 | []=>0
 | v::r=>v.size+GF r
def F9:List (ByteArray × Vl)→Nat
 | []=>0
 | (_,v)::r=>v.size+F9 r
end
mutual
def Vl.cs:Vl→List AV
 | .mk k i s t l f=>[.val (.int .i64 k),.val (.int .i64 i),.val (.int .i64 s),.val (.string t),.list (FC l) .none,.list (JH f) .none]
def FC:List Vl→List AV
 | []=>[]
 | v::r => .agg v.cs::FC r
def JH:List (ByteArray × Vl)→List AV
 | []=>[]
 | (n,v)::r => .agg (.val (.string n)::v.cs)::JH r
end
mutual
def Ty.size:Ty→Nat
 | .mk _ _ _ _ _ e f=>1+GP e+EK f
def GP:List Ty→Nat
 | []=>0
 | t::r=>t.size+GP r
def EK:List (Int × ByteArray × Int × Ty × List Vl)→Nat
 | []=>0
 | (_,_,_,t,_)::r=>t.size+EK r
end
mutual
def Ty.cs:Ty→List AV
 | .mk k lo hi s w e f=>[.val (.int .i64 k),.val (.int .i64 lo),.val (.int .i64 hi),.val (.int .i64 s),.list (w.map fun x => .val (.string x)) .none,.list (NA e) .none,.list (IJ f) .none]
def NA:List Ty→List AV
 | []=>[]
 | t::r => .agg t.cs::NA r
def IJ:List (Int × ByteArray × Int × Ty × List Vl)→List AV
 | []=>[]
 | (n,s,d,t,l)::r => .agg (.val (.int .i64 n) :: .val (.string s) :: .val (.int .i64 d)::(t.cs++[.list (FC l) .none]))::IJ r
end
theorem Gk:∀ l:List Vl,FC l=l.map fun v => .agg v.cs
 | []=>rfl
 | v::r=>by simp [FC,Gk r]
theorem OE:∀ l:List (ByteArray × Vl),JH l=l.map fun p => .agg (.val (.string p.1)::p.2.cs)
 | []=>rfl
 | (n,v)::r=>by simp [JH,OE r]
@[go_sem] theorem Qi (l:List Vl):(FC l).length=l.length:=by simp [Gk]
@[go_sem] theorem W8 (l:List (ByteArray × Vl)):(JH l).length=l.length:=by simp [OE]
theorem Rb:∀ l:List Ty,NA l=l.map fun v => .agg v.cs
 | []=>rfl
 | v::r=>by simp [NA,Rb r]
theorem Pm:∀ l:List (Int × ByteArray × Int × Ty × List Vl),IJ l=l.map fun p => .agg (.val (.int .i64 p.1) :: .val (.string p.2.1) :: .val (.int .i64 p.2.2.1)::(p.2.2.2.1.cs++[.list (FC p.2.2.2.2) .none]))
 | []=>rfl
 | (n,s,d,t,l)::r=>by simp [IJ,Pm r]
@[go_sem] theorem ZeN (l:List Ty):(NA l).length=l.length:=by simp [Rb]
@[go_sem] theorem ZdQ (l:List (Int × ByteArray × Int × Ty × List Vl)):(IJ l).length=l.length:=by simp [Pm]
theorem Vl.cs_eq (v:Vl):v.cs=[.val (.int .i64 v.kind),.val (.int .i64 v.int),.val (.int .i64 v.scale),.val (.string v.text),.list (FC v.list) .none,.list (JH v.fields) .none]:=by cases v;rfl
@[go_sem] theorem Vl.cs_length (v:Vl):v.cs.length=6:=by cases v;rfl
@[go_sem] theorem Vl.cs_pub (v:Vl):v.cs.map AV.pubCell=v.cs:=by cases v;rfl
mutual
theorem Vl.under (nb nr nl:Nat):∀ v:Vl,∀ x∈v.cs,Under nb nr nl x
 | .mk k i s t l f=>by
  intro x a
  simp only [Vl.cs,List.mem_cons,List.not_mem_nil,or_false] at a
  rcases a with rfl | rfl | rfl | rfl | rfl | rfl
  ·exact .val _
  ·exact .val _
  ·exact .val _
  ·exact .val _
  ·exact .list (Lo nb nr nl l) trivial
  ·exact .list (Ld nb nr nl f) trivial
theorem Lo (nb nr nl:Nat):∀ l:List Vl,∀ x∈FC l,Under nb nr nl x
 | []=>fun _ h=>by simp [FC] at h
 | v::r=>by
  intro x hx
  simp only [FC,List.mem_cons] at hx
  rcases hx with rfl | hx
  ·exact .agg (Vl.under nb nr nl v)
  ·exact Lo nb nr nl r x hx
theorem Ld (nb nr nl:Nat):∀ l:List (ByteArray × Vl),∀ x∈JH l,Under nb nr nl x
 | []=>fun _ h=>by simp [JH] at h
 | (n,v)::r=>by
  intro x hx
  simp only [JH,List.mem_cons] at hx
  rcases hx with rfl | hx
  ·refine .agg fun y hy=>?_
   rcases List.mem_cons.1 hy with rfl | hy
   ·exact .val _
   ·exact Vl.under nb nr nl v y hy
  ·exact Ld nb nr nl r x hx
end
mutual
theorem Ty.under (nb nr nl:Nat):∀ v:Ty,∀ x∈v.cs,Under nb nr nl x
 | .mk k lo hi s w e f=>by
  intro x a
  simp only [Ty.cs,List.mem_cons,List.not_mem_nil,or_false] at a
  rcases a with rfl | rfl | rfl | rfl | rfl | rfl | rfl
  ·exact .val _
  ·exact .val _
  ·exact .val _
  ·exact .val _
  ·refine .list (fun y b=>?_) trivial
   obtain ⟨z,_,rfl⟩:=List.mem_map.1 b
   exact .val _
  ·exact .list (Oj nb nr nl e) trivial
  ·exact .list (JR nb nr nl f) trivial
theorem Oj (nb nr nl:Nat):∀ l:List Ty,∀ x∈NA l,Under nb nr nl x
 | []=>fun _ h=>by simp [NA] at h
 | v::r=>by
  intro x hx
  simp only [NA,List.mem_cons] at hx
  rcases hx with rfl | hx
  ·exact .agg (Ty.under nb nr nl v)
  ·exact Oj nb nr nl r x hx
theorem JR (nb nr nl:Nat):∀ l:List (Int × ByteArray × Int × Ty × List Vl),∀ x∈IJ l,Under nb nr nl x
 | []=>fun _ h=>by simp [IJ] at h
 | (n,s,d,t,l)::r=>by
  intro x hx
  simp only [IJ,List.mem_cons] at hx
  rcases hx with rfl | hx
  ·refine .agg fun y hy=>?_
   simp only [List.mem_cons,List.mem_append,List.not_mem_nil,or_false] at hy
   rcases hy with rfl | rfl | rfl | hy | rfl
   ·exact .val _
   ·exact .val _
   ·exact .val _
   ·exact Ty.under nb nr nl t y hy
   ·exact .list (Lo nb nr nl l) trivial
  ·exact JR nb nr nl r x hx
end
@[go_sem] theorem ZjR (nb nr nl:Nat) (v:Vl):Under nb nr nl (.agg v.cs)↔True:=iff_true_intro (.agg (v.under nb nr nl))
@[go_sem] theorem ZhZ (nb nr nl:Nat) (v:Ty):Under nb nr nl (.agg v.cs)↔True:=iff_true_intro (.agg (v.under nb nr nl))
@[go_sem] theorem Zgh (nb nr nl:Nat) (l:List Vl):(∀ x∈FC l,Under nb nr nl x)↔True:=iff_true_intro (Lo nb nr nl l)
@[go_sem] theorem ZgA (nb nr nl:Nat) (l:List (ByteArray × Vl)):(∀ x∈JH l,Under nb nr nl x)↔True:=iff_true_intro (Ld nb nr nl l)
@[go_sem] theorem Zgj (nb nr nl:Nat) (l:List Ty):(∀ x∈NA l,Under nb nr nl x)↔True:=iff_true_intro (Oj nb nr nl l)
@[go_sem] theorem Zfo (nb nr nl:Nat) (l:List (Int × ByteArray × Int × Ty × List Vl)):(∀ x∈IJ l,Under nb nr nl x)↔True:=iff_true_intro (JR nb nr nl l)
theorem Ty.cs_eq (t:Ty):∃ k lo hi s w e f,t = .mk k lo hi s w e f:=by cases t;exact ⟨_,_,_,_,_,_,_,rfl⟩
@[go_sem] theorem Ty.cs_length (v:Ty):v.cs.length=7:=by cases v;rfl
@[go_sem] theorem Ty.cs_pub (v:Ty):v.cs.map AV.pubCell=v.cs:=by cases v;rfl
namespace Ty
def kind:Ty→Int | mk k _ _ _ _ _ _=>k
def min:Ty→Int | mk _ m _ _ _ _ _=>m
def max:Ty→Int | mk _ _ m _ _ _ _=>m
def scale:Ty→Int | mk _ _ _ s _ _ _=>s
def words:Ty→List ByteArray | mk _ _ _ _ w _ _=>w
def elem:Ty→List Ty | mk _ _ _ _ _ e _=>e
def fields:Ty→List (Int × ByteArray × Int × Ty × List Vl) | mk _ _ _ _ _ _ f=>f
end Ty
section
variable (v:Vl) (t:Ty) (x d:AV) (l:List AV)
@[go_sem] theorem Vl.g0:v.cs.getD 0 d = .val (.int .i64 v.kind):=by cases v;rfl
@[go_sem] theorem Vl.g1:v.cs.getD 1 d = .val (.int .i64 v.int):=by cases v;rfl
@[go_sem] theorem Vl.g2:v.cs.getD 2 d = .val (.int .i64 v.scale):=by cases v;rfl
@[go_sem] theorem Vl.g3:v.cs.getD 3 d = .val (.string v.text):=by cases v;rfl
@[go_sem] theorem Vl.g4:v.cs.getD 4 d = .list (FC v.list) .none:=by cases v;rfl
@[go_sem] theorem Vl.g5:v.cs.getD 5 d = .list (JH v.fields) .none:=by cases v;rfl
@[go_sem] theorem Vl.take6:v.cs.take 6=v.cs:=by cases v;rfl
@[go_sem] theorem Vl.take6a:(v.cs++l).take 6=v.cs:=by cases v;rfl
@[go_sem] theorem Ty.g0:t.cs.getD 0 d = .val (.int .i64 t.kind):=by cases t;rfl
@[go_sem] theorem Ty.g1:t.cs.getD 1 d = .val (.int .i64 t.min):=by cases t;rfl
@[go_sem] theorem Ty.g2:t.cs.getD 2 d = .val (.int .i64 t.max):=by cases t;rfl
@[go_sem] theorem Ty.g3:t.cs.getD 3 d = .val (.int .i64 t.scale):=by cases t;rfl
@[go_sem] theorem Ty.g4:t.cs.getD 4 d = .list (t.words.map fun x => .val (.string x)) .none:=by cases t;rfl
@[go_sem] theorem Ty.g5:t.cs.getD 5 d = .list (NA t.elem) .none:=by cases t;rfl
@[go_sem] theorem Ty.g6:t.cs.getD 6 d = .list (IJ t.fields) .none:=by cases t;rfl
@[go_sem] theorem Ty.take7:t.cs.take 7=t.cs:=by cases t;rfl
@[go_sem] theorem Ty.a0:(t.cs++l).getD 0 d = .val (.int .i64 t.kind):=by cases t;rfl
@[go_sem] theorem Ty.a1:(t.cs++l).getD 1 d = .val (.int .i64 t.min):=by cases t;rfl
@[go_sem] theorem Ty.a2:(t.cs++l).getD 2 d = .val (.int .i64 t.max):=by cases t;rfl
@[go_sem] theorem Ty.a3:(t.cs++l).getD 3 d = .val (.int .i64 t.scale):=by cases t;rfl
@[go_sem] theorem Ty.a4:(t.cs++l).getD 4 d = .list (t.words.map fun x => .val (.string x)) .none:=by cases t;rfl
@[go_sem] theorem Ty.a5:(t.cs++l).getD 5 d = .list (NA t.elem) .none:=by cases t;rfl
@[go_sem] theorem Ty.a6:(t.cs++l).getD 6 d = .list (IJ t.fields) .none:=by cases t;rfl
@[go_sem] theorem Ty.a7:(t.cs++[x]).getD 7 d=x:=by cases t;rfl
@[go_sem] theorem Ty.take7a:(t.cs++l).take 7=t.cs:=by cases t;rfl
@[go_sem] theorem Ty.take8a:(t.cs++[x]).take 8=t.cs++[x]:=by cases t;rfl
@[go_sem] theorem Ty.drop7a:(t.cs++l).drop 7=l:=by cases t;rfl
attribute [go_sem] List.length_append List.map_append
end
end Go.Proofs.YtgpmlelfkjfbiaaGreatDoor
namespace Go.Proofs.YtgpmlelfkjfbiaaGreatDoor
open Go Go.RowKit Go.Ev
theorem Zan (t:ByteArray):DK t ⟨#[]⟩=decide (t.size=0):=by
 by_cases h:t.size=0
 ·have:t=⟨#[]⟩:=by
   obtain ⟨⟨l⟩⟩:=t
   simp [ByteArray.size] at h
   subst h;rfl
  subst this
  rfl
 ·simp only [h,decide_false]
  obtain ⟨⟨l⟩⟩:=t
  simp [ByteArray.size] at h
  simp [DK,h]
theorem P8 (w0:World) (B:List (List AV)) (Rw:List RowA) (L:List LoopA) (n low high:Int) :
  ACalls Tryz.prog w0 181 [.val (.int .i64 n),.val (.int .i64 low),.val (.int .i64 high)] ⟨B,Rw,L⟩ fun r st=>r = .val (.bool (decide (low≤n)&&decide (n≤high)))∧st=⟨B,Rw,L⟩:=by
 refine ACalls.finP (Ep (rs:=[.tmp 6]) Tryz.func181 rfl rfl Tryz.ntmps181 (A9 Tryz.func181 rfl (by decide)) (Nat.le_of_ble_eq_true rfl) ?_)
 intro M0 W0 g e d a f
 simp only [Au]
 apply Ah;intro K1 b
 apply Ao 1 [0,1,2]
 rw [Am];simp +decide only [go_sem]
 (repeat' apply Aa)<;>first | refine b _ _ ?_ | (intros;omega) | (intros;simp_all;done)
 clear b
 apply Ah;intro K2 c
 apply Ao 1 [6]
 rw [Am];simp +decide only [go_sem]
 (repeat' apply Aa)<;>first | refine c _ _ ?_ | (intros;omega) | (intros;simp_all;done)
 clear c
 apply A3;simp +decide only [go_sem]
 refine LR a (by first | exact List.prefix_append _ _ | exact List.prefix_refl _ | (rw [List.append_assoc];exact List.prefix_append _ _)) (by first | exact List.prefix_append _ _ | exact List.prefix_refl _ | (rw [List.append_assoc];exact List.prefix_append _ _)) (by first | exact List.prefix_append _ _ | exact List.prefix_refl _ | (rw [List.append_assoc];exact List.prefix_append _ _)) (by simp +decide only [go_sem]) ⟨?_,rfl⟩
 rfl
theorem XN (w0:World) (B:List (List AV)) (Rw:List RowA) (L:List LoopA) (a:Int) :
  ACalls Tryz.prog w0 198 [.val (.int .i64 a)] ⟨B,Rw,L⟩ fun r st=>r = .val (.bool false)∧st=⟨B,Rw,L⟩:=by
 refine ACalls.finP (Ep (rs:=[.tmp 2]) Tryz.func198 rfl rfl Tryz.ntmps198 (A9 Tryz.func198 rfl (by decide)) (Nat.le_of_ble_eq_true rfl) ?_)
 intro M0 W0 h f e b g
 simp only [Au]
 apply Ah;intro K1 c
 apply Ao 1 [0]
 rw [Am];simp +decide only [go_sem]
 (repeat' apply Aa)<;>first | refine c _ _ ?_ | (intros;omega) | (intros;simp_all;done)
 clear c
 apply Ah;intro K2 d
 apply Ao 1 [2]
 rw [Am];simp +decide only [go_sem]
 (repeat' apply Aa)<;>first | refine d _ _ ?_ | (intros;omega) | (intros;simp_all;done)
 clear d
 apply A3;simp +decide only [go_sem]
 refine LR b (by first | exact List.prefix_append _ _ | exact List.prefix_refl _ | (rw [List.append_assoc];exact List.prefix_append _ _)) (by first | exact List.prefix_append _ _ | exact List.prefix_refl _ | (rw [List.append_assoc];exact List.prefix_append _ _)) (by first | exact List.prefix_append _ _ | exact List.prefix_refl _ | (rw [List.append_assoc];exact List.prefix_append _ _)) (by simp +decide only [go_sem]) ⟨?_,rfl⟩
 rw [Ks]
theorem P1 (w0:World) (B:List (List AV)) (Rw:List RowA) (L:List LoopA) (a b:Int) :
  ACalls Tryz.prog w0 143 [.val (.int .i64 a),.val (.int .i64 b)] ⟨B,Rw,L⟩ fun r st=>r = .val (.int .i64 (if a<b then -1 else if a=b then 0 else 1))∧st=⟨B,Rw,L⟩:=by
 refine ACalls.finP (Ep (rs:=[.tmp 4]) Tryz.func143 rfl rfl Tryz.ntmps143 (A9 Tryz.func143 rfl (by decide)) (Nat.le_of_ble_eq_true rfl) ?_)
 intro M0 W0 v t u c w
 simp only [Au]
 apply Ah;intro K1 o
 apply Ao 1 [0,1]
 rw [Am];simp +decide only [go_sem]
 (repeat' apply Aa)<;>first | refine o _ _ ?_ | (intros;omega) | (intros;simp_all;done)
 clear o
 apply Ah;intro K2 q
 apply Ao 2 [0,1,5]
 rw [Am];simp +decide only [go_sem]
 (repeat' apply Aa)<;>first | refine NV _ (XN w0 _ Rw L _) ?_ | (intros;omega) | (intros;simp_all;done)
 rw [Am];simp +decide only [go_sem]
 (repeat' apply Aa)<;>first | refine q _ _ ?_ | (intros;omega) | (intros;simp_all;done)
 clear q
 apply Ah;intro K3 s
 apply Ao 2 [0,1,5,6]
 rw [Am];simp +decide only [go_sem]
 (repeat' apply Aa)<;>first | refine NV _ (XN w0 _ Rw L _) ?_ | (intros;omega) | (intros;simp_all;done)
 rw [Am];simp +decide only [go_sem]
 (repeat' apply Aa)<;>first | refine s _ _ ?_ | (intros;omega) | (intros;simp_all;done)
 clear s
 apply Ah;intro K4 p
 apply Ah;intro K5 n
 apply Ao 1 [0,1,6,11]
 rw [Am];simp +decide only [go_sem]
 (repeat' apply Aa)<;>first | refine n _ _ ?_ | (intros;omega) | (intros;simp_all;done)
 clear n
 refine A2 _ (by simp +decide only [go_sem]) (by simp +decide only [go_sem];rfl) (fun d=>?_) (fun d=>?_)
 ·simp at d
 skip
 apply Bl;simp only [go_sem]
 (repeat' apply Aa)<;>first | refine p _ _ ?_ | (intros;omega) | (intros;simp_all;done)
 clear p
 apply Ah;intro K10 g
 apply Ah;intro K11 e
 apply Ao 1 [0,1,13]
 rw [Am];simp +decide only [go_sem]
 (repeat' apply Aa)<;>first | refine e _ _ ?_ | (intros;omega) | (intros;simp_all;done)
 clear e
 refine A2 _ (by simp +decide only [go_sem]) (by simp +decide only [go_sem];rfl) (fun d=>?_) (fun d=>?_)
 ·simp at d
 try simp at d
 apply Bl;simp only [go_sem]
 (repeat' apply Aa)<;>first | refine g _ _ ?_ | (intros;omega) | (intros;simp_all;done)
 clear g
 apply Ah;intro K13 k
 apply Ah;intro K14 j
 apply Ao 1 [0,1,16]
 rw [Am];simp +decide only [go_sem]
 (repeat' apply Aa)<;>first | refine j _ _ ?_ | (intros;omega) | (intros;simp_all;done)
 clear j
 refine A2 _ (by simp +decide only [go_sem]) (by simp +decide only [go_sem];rfl) (fun d=>?_) (fun d=>?_)
 ·try simp at d
  apply Ah;intro K15 l
  apply Ao 1 [4]
  rw [Am];simp +decide only [go_sem]
  (repeat' apply Aa)<;>first | refine l _ _ ?_ | (intros;omega) | (intros;simp_all;done)
  clear l
  apply A3;simp +decide only [go_sem]
  refine LR c (by first | exact List.prefix_append _ _ | exact List.prefix_refl _ | (rw [List.append_assoc];exact List.prefix_append _ _)) (by first | exact List.prefix_append _ _ | exact List.prefix_refl _ | (rw [List.append_assoc];exact List.prefix_append _ _)) (by first | exact List.prefix_append _ _ | exact List.prefix_refl _ | (rw [List.append_assoc];exact List.prefix_append _ _)) (by simp +decide only [go_sem]) ⟨?_,rfl⟩
  rw [Ks]
  rw [Ae (by omega)]
 try simp at d
 apply Bl;simp only [go_sem]
 (repeat' apply Aa)<;>first | refine k _ _ ?_ | (intros;omega) | (intros;simp_all;done)
 clear k
 apply Ah;intro K16 f
 apply Ah;intro K17 m
 apply Ao 1 [19]
 rw [Am];simp +decide only [go_sem]
 (repeat' apply Aa)<;>first | refine m _ _ ?_ | (intros;omega) | (intros;simp_all;done)
 clear m
 refine A2 _ (by simp +decide only [go_sem]) (by simp +decide only [go_sem];rfl) (fun d=>?_) (fun d=>?_)
 ·try simp at d
  apply Ah;intro K18 i
  apply Ao 1 [4]
  rw [Am];simp +decide only [go_sem]
  (repeat' apply Aa)<;>first | refine i _ _ ?_ | (intros;omega) | (intros;simp_all;done)
  clear i
  apply A3;simp +decide only [go_sem]
  refine LR c (by first | exact List.prefix_append _ _ | exact List.prefix_refl _ | (rw [List.append_assoc];exact List.prefix_append _ _)) (by first | exact List.prefix_append _ _ | exact List.prefix_refl _ | (rw [List.append_assoc];exact List.prefix_append _ _)) (by first | exact List.prefix_append _ _ | exact List.prefix_refl _ | (rw [List.append_assoc];exact List.prefix_append _ _)) (by simp +decide only [go_sem]) ⟨?_,rfl⟩
  rw [Ks]
  rw [Af (by omega),Af (by omega)]
 try simp at d
 apply Bl;simp only [go_sem]
 (repeat' apply Aa)<;>first | refine f _ _ ?_ | (intros;omega) | (intros;simp_all;done)
 clear f
 apply Ah;intro K19 h
 apply Ao 1 [4]
 rw [Am];simp +decide only [go_sem]
 (repeat' apply Aa)<;>first | refine h _ _ ?_ | (intros;omega) | (intros;simp_all;done)
 clear h
 apply A3;simp +decide only [go_sem]
 refine LR c (by first | exact List.prefix_append _ _ | exact List.prefix_refl _ | (rw [List.append_assoc];exact List.prefix_append _ _)) (by first | exact List.prefix_append _ _ | exact List.prefix_refl _ | (rw [List.append_assoc];exact List.prefix_append _ _)) (by first | exact List.prefix_append _ _ | exact List.prefix_refl _ | (rw [List.append_assoc];exact List.prefix_append _ _)) (by simp +decide only [go_sem]) ⟨?_,rfl⟩
 rw [Ks]
 rw [Af (by omega),Ae (by omega)]
def Ln (c:Nat):Bool:=decide (97≤c)&&decide (c≤122)
def TZ (c:Nat):Bool:=Ln c||decide (c=95)||(decide (48≤c)&&decide (c≤57))
def ZaB (l:List UInt8):Bool:=decide (1≤l.length∧l.length≤32)&&Ln (l.headD 0).toNat&&l.all fun c=>TZ c.toNat
def E8 (s:ByteArray):Bool:=ZaB s.data.toList
theorem UQ (s:ByteArray) (k:Nat) (h:k<s.size):s.get! k=s.data.toList[k]'(by simpa using h):=by
 rw [Utf8W.get!_of_lt s k h];rfl
theorem Zdy (s:ByteArray) (f:UInt8→Bool) (k:Nat) (h:k<s.size):(s.data.toList.drop k).all f=(f (s.get! k)&&(s.data.toList.drop (k+1)).all f):=by
 rw [List.drop_eq_getElem_cons (by simpa using h),UQ s k h];rfl
theorem Zcw (s:ByteArray) (h:0<s.size):s.data.toList.headD 0=s.get! 0:=by
 rw [UQ s 0 h]
 have b:0<s.data.toList.length:=by simpa using h
 have:∀ (l:List UInt8) (q:0<l.length),l.headD 0=l[0]:=fun l q=>by
  cases l with
  | nil=>simp at q
  | cons a l=>rfl
 exact this _ b
theorem Zbj (s:ByteArray) (k:Nat) (h:k<s.size):(GU s.data.toList).getD k .junk = .val (.int .u8 (s.get! k).toNat):=by
 have a:s.data.toList.length=s.size:=by simp
 rw [UQ s k h]
 simp [GU,a,h,List.getD]
theorem W9 (s:ByteArray):(GU s.data.toList).length=s.size:=by
 have a:s.data.toList.length=s.size:=by simp
 simp [GU,a]
theorem ZbF (c:Nat):TZ c=decide ((97≤(c:Int)∧(c:Int)≤122)∨(c:Int)=95∨(48≤(c:Int)∧(c:Int)≤57)):=by
 rw [Bool.eq_iff_iff]
 simp [TZ,Ln]
 omega
theorem RS (c:Nat):Ln c=decide (97≤(c:Int)∧(c:Int)≤122):=by
 rw [Bool.eq_iff_iff]
 simp [Ln]
 omega
theorem UY (s:ByteArray) (h1:1≤s.size) (h2:s.size≤32):E8 s=(Ln (s.get! 0).toNat&&s.data.toList.all fun c=>TZ c.toNat):=by
 have a:s.data.toList.length=s.size:=by simp
 rw [E8,ZaB,Ad (by omega),Zcw s h1];rfl
theorem Z4 (s:ByteArray) (h:¬ (1≤s.size∧s.size≤32)):E8 s=false:=by
 have a:s.data.toList.length=s.size:=by simp
 rw [E8,ZaB,Ac (by omega)];rfl
theorem Rh (w0:World) (B:List (List AV)) (Rw:List RowA) (L:List LoopA) (s:ByteArray) (hs:s.size≤maxLen) :
  ACalls Tryz.prog w0 65 [.val (.string s)] ⟨B,Rw,L⟩ fun r st=>r = .val (.bool (E8 s))∧st=⟨B,Rw,L⟩:=by
 refine ACalls.finP (Ep (rs:=[.tmp 2]) Tryz.func65 rfl rfl Tryz.ntmps65 (A9 Tryz.func65 rfl (by decide)) (Nat.le_of_ble_eq_true rfl) ?_)
 intro M0 W0 N F K b Q
 unfold maxLen at hs
 have J:s.data.toList.length=s.size:=by simp
 have f:=Zan s
 obtain ⟨d,hd⟩:∃ d,(s.get! 0).toNat=d:=⟨_,rfl⟩
 have a:=W9 s
 simp only [Au]
 apply Ah;intro K1 y
 apply Ao 1 [0]
 rw [Am];simp +decide only [go_sem,hd,a,f]
 (repeat' apply Aa)<;>first | refine y _ _ ?_ | (intros;omega) | (intros;simp_all;done) | (intros;simp only [Bool.or_eq_false_iff,Bool.or_eq_true,Bool.and_eq_true,Bool.and_eq_false_iff,decide_eq_true_eq,decide_eq_false_iff_not,bne_iff_ne] at *; omega)
 clear y
 apply Ah;intro K2 C
 apply Ah;intro K3 D
 apply Ao 1 [0,21]
 rw [Am];simp +decide only [go_sem,hd,a,f]
 (repeat' apply Aa)<;>first | refine D _ _ ?_ | (intros;omega) | (intros;simp_all;done) | (intros;simp only [Bool.or_eq_false_iff,Bool.or_eq_true,Bool.and_eq_true,Bool.and_eq_false_iff,decide_eq_true_eq,decide_eq_false_iff_not,bne_iff_ne] at *; omega)
 clear D
 refine A2 _ (by simp +decide only [go_sem]) (by simp +decide only [go_sem];rfl) (fun g=>?_) (fun g=>?_)
 ·simp only [Bool.or_eq_true,Bool.or_eq_false_iff,Bool.and_eq_true,Bool.and_eq_false_iff,decide_eq_true_eq,decide_eq_false_iff_not,Bool.not_eq_true',Bool.not_eq_false',Bool.not_eq_eq_eq_not,Bool.not_true,Bool.not_false] at g
  apply Ah;intro K4 z
  apply Ao 1 [2]
  rw [Am];simp +decide only [go_sem,hd,a,f]
  (repeat' apply Aa)<;>first | refine z _ _ ?_ | (intros;omega) | (intros;simp_all;done) | (intros;simp only [Bool.or_eq_false_iff,Bool.or_eq_true,Bool.and_eq_true,Bool.and_eq_false_iff,decide_eq_true_eq,decide_eq_false_iff_not,bne_iff_ne] at *; omega)
  clear z
  apply A3;simp +decide only [go_sem]
  refine LR b (by first | exact List.prefix_append _ _ | exact List.prefix_refl _ | (rw [List.append_assoc];exact List.prefix_append _ _)) (by first | exact List.prefix_append _ _ | exact List.prefix_refl _ | (rw [List.append_assoc];exact List.prefix_append _ _)) (by first | exact List.prefix_append _ _ | exact List.prefix_refl _ | (rw [List.append_assoc];exact List.prefix_append _ _)) (by simp +decide only [go_sem]) ⟨?_,rfl⟩
  rw [Ks]
  congr 2
  symm
  by_cases hz:1≤s.size∧s.size≤32
  ·rw [UY s hz.1 hz.2,hd,RS,Ac (by omega)];rfl
  ·exact Z4 s hz
 simp only [Bool.or_eq_true,Bool.or_eq_false_iff,Bool.and_eq_true,Bool.and_eq_false_iff,decide_eq_true_eq,decide_eq_false_iff_not,Bool.not_eq_true',Bool.not_eq_false',Bool.not_eq_eq_eq_not,Bool.not_true,Bool.not_false] at g
 have H:1≤s.size∧s.size≤32∧97≤d∧d≤122:=by omega
 clear g
 have h:Ln d=true:=by rw [RS];exact Ad (by omega)
 apply Bl;simp only [go_sem]
 (repeat' apply Aa)<;>first | refine C _ _ ?_ | (intros;omega) | (intros;simp_all;done) | (intros;simp only [Bool.or_eq_false_iff,Bool.or_eq_true,Bool.and_eq_true,Bool.and_eq_false_iff,decide_eq_true_eq,decide_eq_false_iff_not,bne_iff_ne] at *; omega)
 clear C
 apply Ah;intro K5 u
 apply Ah;intro K6 w
 apply Ao 1 [23,24,25]
 rw [Am];simp +decide only [go_sem,hd,a,f]
 (repeat' apply Aa)<;>first | refine w _ _ ?_ | (intros;omega) | (intros;simp_all;done) | (intros;simp only [Bool.or_eq_false_iff,Bool.or_eq_true,Bool.and_eq_true,Bool.and_eq_false_iff,decide_eq_true_eq,decide_eq_false_iff_not,bne_iff_ne] at *; omega)
 clear w
 apply Ak
 refine AC (fun m e st=>∃ k:Nat,k≤s.size∧m=s.size-k∧Ln d=true∧(s.data.toList.all fun c=>TZ c.toNat)=((s.data.toList.drop k).all fun c=>TZ c.toNat)∧e=[(23,true,.list (GU s.data.toList) .none),(24,true,.val (.int .i64 s.size)),(25,true,.val (.int .i64 k))]∧st=⟨B,Rw,L⟩) s.size ⟨0,by omega,rfl,by assumption,rfl,rfl,rfl⟩ ?_
 rintro m e st ⟨k,O,rfl,G,p,rfl,rfl⟩ KR E
 obtain ⟨c,hc⟩:∃ c,(s.get! k).toNat=c:=⟨_,rfl⟩
 obtain ⟨x,hn1⟩:∃ x,(GU s.data.toList).getD k .junk=x:=⟨_,rfl⟩
 apply Ah;intro K7 t
 apply Ao 1 [23,24,25,26]
 rw [Am];simp +decide only [go_sem,hn1,a]
 (repeat' apply Aa)<;>first | refine t _ _ ?_ | (intros;omega) | (intros;simp_all;done) | (intros;simp only [Bool.or_eq_false_iff,Bool.or_eq_true,Bool.and_eq_true,Bool.and_eq_false_iff,decide_eq_true_eq,decide_eq_false_iff_not,bne_iff_ne] at *; omega)
 clear t
 apply Ah;intro K8 v
 refine A2 _ (by simp +decide only [go_sem]) (by simp +decide only [go_sem];rfl) (fun g=>?_) (fun g=>?_)
 rotate_left
 ·simp only [Bool.or_eq_true,Bool.or_eq_false_iff,Bool.and_eq_true,Bool.and_eq_false_iff,decide_eq_true_eq,decide_eq_false_iff_not,Bool.not_eq_true',Bool.not_eq_false',Bool.not_eq_eq_eq_not,Bool.not_true,Bool.not_false] at g
  apply KE;simp +decide only [go_sem,hn1,a]
  (repeat' apply Aa)<;>first | refine u _ _ ?_ | (intros;omega) | (intros;simp_all;done) | (intros;simp only [Bool.or_eq_false_iff,Bool.or_eq_true,Bool.and_eq_true,Bool.and_eq_false_iff,decide_eq_true_eq,decide_eq_false_iff_not,bne_iff_ne] at *; omega)
  clear u
  apply Ah;intro K9 q
  apply Ao 1 [2]
  rw [Am];simp +decide only [go_sem,hn1,a]
  (repeat' apply Aa)<;>first | refine q _ _ ?_ | (intros;omega) | (intros;simp_all;done) | (intros;simp only [Bool.or_eq_false_iff,Bool.or_eq_true,Bool.and_eq_true,Bool.and_eq_false_iff,decide_eq_true_eq,decide_eq_false_iff_not,bne_iff_ne] at *; omega)
  clear q
  apply A3;simp +decide only [go_sem]
  refine LR b (by first | exact List.prefix_append _ _ | exact List.prefix_refl _ | (rw [List.append_assoc];exact List.prefix_append _ _)) (by first | exact List.prefix_append _ _ | exact List.prefix_refl _ | (rw [List.append_assoc];exact List.prefix_append _ _)) (by first | exact List.prefix_append _ _ | exact List.prefix_refl _ | (rw [List.append_assoc];exact List.prefix_append _ _)) (by simp +decide only [go_sem]) ⟨?_,rfl⟩
  rw [Ks]
  have:k=s.size:=by omega
  subst this
  rw [UY s (by omega) (by omega),hd,h,p,List.drop_eq_nil_of_le (by omega)];rfl
 simp only [Bool.or_eq_true,Bool.or_eq_false_iff,Bool.and_eq_true,Bool.and_eq_false_iff,decide_eq_true_eq,decide_eq_false_iff_not,Bool.not_eq_true',Bool.not_eq_false',Bool.not_eq_eq_eq_not,Bool.not_true,Bool.not_false] at g
 have i:=Zdy s (fun c=>TZ c.toNat) k (by omega)
 simp only [hc] at i
 rw [ZbF c] at i
 have hn2:=Zbj s k (by omega)
 rw [hn1,hc] at hn2
 subst hn2
 apply Bl;simp only [go_sem]
 (repeat' apply Aa)<;>first | refine v _ _ ?_ | (intros;omega) | (intros;simp_all;done) | (intros;simp only [Bool.or_eq_false_iff,Bool.or_eq_true,Bool.and_eq_true,Bool.and_eq_false_iff,decide_eq_true_eq,decide_eq_false_iff_not,bne_iff_ne] at *; omega)
 clear v
 apply Ah;intro K10 l
 apply Ak
 apply Ah;intro K11 j
 apply Ao 1 [4,23,24,25]
 rw [Am];simp +decide only [go_sem,hn1,a]
 (repeat' apply Aa)<;>first | refine j _ _ ?_ | (intros;omega) | (intros;simp_all;done) | (intros;simp only [Bool.or_eq_false_iff,Bool.or_eq_true,Bool.and_eq_true,Bool.and_eq_false_iff,decide_eq_true_eq,decide_eq_false_iff_not,bne_iff_ne] at *; omega)
 clear j
 apply Ah;intro K12 n
 apply Ao 1 [23,24,25,46]
 rw [Am];simp +decide only [go_sem,hn1,a]
 (repeat' apply Aa)<;>first | refine n _ _ ?_ | (intros;omega) | (intros;simp_all;done) | (intros;simp only [Bool.or_eq_false_iff,Bool.or_eq_true,Bool.and_eq_true,Bool.and_eq_false_iff,decide_eq_true_eq,decide_eq_false_iff_not,bne_iff_ne] at *; omega)
 clear n
 refine A2 _ (by simp +decide only [go_sem]) (by simp +decide only [go_sem];rfl) (fun g=>?_) (fun g=>?_)
 ·simp only [Bool.or_eq_true,Bool.or_eq_false_iff,Bool.and_eq_true,Bool.and_eq_false_iff,decide_eq_true_eq,decide_eq_false_iff_not,Bool.not_eq_true',Bool.not_eq_false',Bool.not_eq_eq_eq_not,Bool.not_true,Bool.not_false] at g
  apply Ah;intro K13 o
  apply Ao 1 [2]
  rw [Am];simp +decide only [go_sem,hn1,a]
  (repeat' apply Aa)<;>first | refine o _ _ ?_ | (intros;omega) | (intros;simp_all;done) | (intros;simp only [Bool.or_eq_false_iff,Bool.or_eq_true,Bool.and_eq_true,Bool.and_eq_false_iff,decide_eq_true_eq,decide_eq_false_iff_not,bne_iff_ne] at *; omega)
  clear o
  apply A3;simp +decide only [go_sem]
  refine LR b (by first | exact List.prefix_append _ _ | exact List.prefix_refl _ | (rw [List.append_assoc];exact List.prefix_append _ _)) (by first | exact List.prefix_append _ _ | exact List.prefix_refl _ | (rw [List.append_assoc];exact List.prefix_append _ _)) (by first | exact List.prefix_append _ _ | exact List.prefix_refl _ | (rw [List.append_assoc];exact List.prefix_append _ _)) (by simp +decide only [go_sem]) ⟨?_,rfl⟩
  rw [Ks]
  rw [UY s (by omega) (by omega),hd,h,p,i,Ac (by omega)];rfl
 simp only [Bool.or_eq_true,Bool.or_eq_false_iff,Bool.and_eq_true,Bool.and_eq_false_iff,decide_eq_true_eq,decide_eq_false_iff_not,Bool.not_eq_true',Bool.not_eq_false',Bool.not_eq_eq_eq_not,Bool.not_true,Bool.not_false] at g
 apply Bl;simp only [go_sem]
 (repeat' apply Aa)<;>first | refine l _ _ ?_ | (intros;omega) | (intros;simp_all;done) | (intros;simp only [Bool.or_eq_false_iff,Bool.or_eq_true,Bool.and_eq_true,Bool.and_eq_false_iff,decide_eq_true_eq,decide_eq_false_iff_not,bne_iff_ne] at *; omega)
 clear l
 apply Ao 1 [23,24,25]
 rw [Am];simp +decide only [go_sem,hn1,a]
 (repeat' apply Aa)<;>first | refine E (s.size-(k+1)) _ _ ?_ ⟨k+1,?_,rfl,?_,?_,?_,rfl⟩ | (intros;omega) | (intros;simp_all;done)
 ·omega
 ·omega
 ·exact h
 ·rw [p,i,Ad (by omega)];rfl
 ·simp
def EM (a b:ByteArray):Int:=Lib.compareBytes a.data.toList b.data.toList
theorem Ym (w0:World) (st:St) (a b:ByteArray):ACalls Tryz.prog w0 141 [.val (.string a),.val (.string b)] st fun v s'=>v = .val (.int .i64 (EM a b))∧s'=st :=
 Ni (A9 Tryz.func141 rfl (by decide)) rfl fun M w d i c=>by
  have:=Uk (us:=[.string a,.string b]) c
  subst this
  exact (Tryz.strings_Compare a b w).mono fun e h ⟨g,f⟩=>⟨g,f▸Below.refl _ _⟩
theorem ZaQ (w0:World) (st:St) (hT:Lib.Utf8Tabs 0 1 w0) (s:ByteArray) (hs:s.size≤maxLen):ACalls Tryz.prog w0 115 [.val (.string s)] st fun v s'=>v = .val (.bool (Lib.validD s.data.toList))∧s'=st :=
 Ni (A9 Tryz.func115 rfl (by decide)) rfl fun M w b c a=>by
  have:=Uk (us:=[.string s]) a
  subst this
  exact Any.utf8_ValidString Tryz.laysValid s w hs (Utf8Tabs_below hT c)
def BL (v:Vl):List Vl:=if v.kind=8∨v.kind=10 then v.list else if v.kind=9 then v.fields.map (·.2) else []
@[go_sem] theorem Zf4 (l:List Vl):(∀ y∈FC l,y.cells.length=6)↔True:=iff_true_intro (by
 rw [Gk];intro y a
 obtain ⟨v,_,rfl⟩:=List.mem_map.1 a
 exact v.cs_length)
@[go_sem] theorem Zkb (l:List Vl):(∀ y∈FC l,y.cells.length=6∧A4 y=true)↔True:=iff_true_intro (by
 rw [Gk];intro y a
 obtain ⟨v,_,rfl⟩:=List.mem_map.1 a
 exact ⟨v.cs_length,rfl⟩)
@[go_sem] theorem Zit (l:List Vl):(FC l).map AV.pub=FC l:=by
 rw [Gk,List.map_map]
 refine List.map_congr_left fun v _=>?_
 simp only [Function.comp,AV.pub,Vl.cs_pub]
theorem ZbC (l:List Vl) (k:Nat) (h:k<l.length):(FC l).getD k .junk = .agg (l[k]).cs:=by
 simp [Gk,List.getD,h]
theorem ZbA (l:List (ByteArray × Vl)) (k:Nat) (h:k<l.length):(JH l).getD k .junk = .agg (.val (.string (l[k]).1)::(l[k]).2.cs):=by
 simp [OE,List.getD,h]
theorem ZG (l:List (ByteArray × Vl)) (k:Nat) (h:k<l.length):FC ((l.take (k+1)).map (·.2))=FC ((l.take k).map (·.2))++[.agg (l[k]).2.cs]:=by
 rw [Gk,Gk,List.take_succ_eq_append_getElem h,List.map_append,List.map_append];rfl
theorem Yv (l:List (ByteArray × Vl)) (k:Nat) (h:k≤l.length):(FC ((l.take k).map (·.2))).length=k:=by
 rw [Qi,List.length_map,List.length_take];omega
theorem Zdx (w0:World) (B:List (List AV)) (Rw:List RowA) (L:List LoopA) (v:Vl) (hl:v.list.length≤1000000000000) (hf:v.fields.length≤1000000000000) :
  ACalls Tryz.prog w0 187 [.agg v.cs] ⟨B,Rw,L⟩ fun r st=>r = .list (FC (BL v)) .none∧st=⟨B,Rw,L⟩:=by
 refine ACalls.finP (Ep (rs:=[.tmp 2]) Tryz.func187 rfl rfl Tryz.ntmps187 (A9 Tryz.func187 rfl (by decide)) (Nat.le_of_ble_eq_true rfl) ?_)
 intro M0 W0 U K O a V
 have Q:=W8 v.fields
 simp only [Au]
 apply Ah;intro K1 C
 apply Ao 1 [1]
 rw [Am];simp +decide only [go_sem]
 (repeat' apply Aa)<;>first | refine C _ _ ?_ | (intros;omega) | (intros;simp_all;done) | (intros;simp only [Bool.or_eq_false_iff,Bool.or_eq_true,Bool.and_eq_true,Bool.and_eq_false_iff,decide_eq_true_eq,decide_eq_false_iff_not,bne_iff_ne] at *; omega)
 clear C
 apply Ah;intro K2 D
 apply Ah;intro K3 F
 apply Ao 1 [1,7]
 rw [Am];simp +decide only [go_sem]
 (repeat' apply Aa)<;>first | refine F _ _ ?_ | (intros;omega) | (intros;simp_all;done) | (intros;simp only [Bool.or_eq_false_iff,Bool.or_eq_true,Bool.and_eq_true,Bool.and_eq_false_iff,decide_eq_true_eq,decide_eq_false_iff_not,bne_iff_ne] at *; omega)
 clear F
 apply Ak
 apply Ah;intro K4 f
 apply Ah;intro K5 w
 apply Ao 1 [1,7,8]
 rw [Am];simp +decide only [go_sem]
 (repeat' apply Aa)<;>first | refine w _ _ ?_ | (intros;omega) | (intros;simp_all;done) | (intros;simp only [Bool.or_eq_false_iff,Bool.or_eq_true,Bool.and_eq_true,Bool.and_eq_false_iff,decide_eq_true_eq,decide_eq_false_iff_not,bne_iff_ne] at *; omega)
 clear w
 refine A2 _ (by simp +decide only [go_sem]) (by simp +decide only [go_sem];rfl) (fun b=>?_) (fun b=>?_)
 -- JOIN
 ·simp only [Bool.or_eq_true,Bool.or_eq_false_iff,Bool.and_eq_true,Bool.and_eq_false_iff,decide_eq_true_eq,decide_eq_false_iff_not,Bool.not_eq_true',Bool.not_eq_false',Bool.not_eq_eq_eq_not,Bool.not_true,Bool.not_false] at b
  apply Bl;simp only [go_sem]
  (repeat' apply Aa)<;>first | refine f _ _ ?_ | (intros;omega) | (intros;simp_all;done) | (intros;simp only [Bool.or_eq_false_iff,Bool.or_eq_true,Bool.and_eq_true,Bool.and_eq_false_iff,decide_eq_true_eq,decide_eq_false_iff_not,bne_iff_ne] at *; omega)
  clear f
  refine A2 _ (by simp +decide only [go_sem]) (by simp +decide only [go_sem];rfl) (fun b=>?_) (fun b=>?_)
  ·simp only [Bool.or_eq_true,Bool.or_eq_false_iff,Bool.and_eq_true,Bool.and_eq_false_iff,decide_eq_true_eq,decide_eq_false_iff_not,Bool.not_eq_true',Bool.not_eq_false',Bool.not_eq_eq_eq_not,Bool.not_true,Bool.not_false] at b
   apply Ah;intro K6 z
   apply Ao 1 [2]
   rw [Am];simp +decide only [go_sem]
   (repeat' apply Aa)<;>first | refine z _ _ ?_ | (intros;omega) | (intros;simp_all;done) | (intros;simp only [Bool.or_eq_false_iff,Bool.or_eq_true,Bool.and_eq_true,Bool.and_eq_false_iff,decide_eq_true_eq,decide_eq_false_iff_not,bne_iff_ne] at *; omega)
   clear z
   apply A3;simp +decide only [go_sem]
   refine LR a (by first | exact List.prefix_append _ _ | exact List.prefix_refl _ | (rw [List.append_assoc];exact List.prefix_append _ _)) (by first | exact List.prefix_append _ _ | exact List.prefix_refl _ | (rw [List.append_assoc];exact List.prefix_append _ _)) (by first | exact List.prefix_append _ _ | exact List.prefix_refl _ | (rw [List.append_assoc];exact List.prefix_append _ _)) ?_ ⟨?_,rfl⟩
   ·simp +decide only [go_sem]
   ·simp only [go_sem]
    rw [BL,Ae (by omega)]
  simp only [Bool.or_eq_true,Bool.or_eq_false_iff,Bool.and_eq_true,Bool.and_eq_false_iff,decide_eq_true_eq,decide_eq_false_iff_not,Bool.not_eq_true',Bool.not_eq_false',Bool.not_eq_eq_eq_not,Bool.not_true,Bool.not_false] at b
  omega
 simp only [Bool.or_eq_true,Bool.or_eq_false_iff,Bool.and_eq_true,Bool.and_eq_false_iff,decide_eq_true_eq,decide_eq_false_iff_not,Bool.not_eq_true',Bool.not_eq_false',Bool.not_eq_eq_eq_not,Bool.not_true,Bool.not_false] at b
 apply Ao 1 [1,7,8]
 rw [Am];simp +decide only [go_sem]
 (repeat' apply Aa)<;>first | refine f _ _ ?_ | (intros;omega) | (intros;simp_all;done) | (intros;simp only [Bool.or_eq_false_iff,Bool.or_eq_true,Bool.and_eq_true,Bool.and_eq_false_iff,decide_eq_true_eq,decide_eq_false_iff_not,bne_iff_ne] at *; omega)
 clear f
 refine A2 _ (by simp +decide only [go_sem]) (by simp +decide only [go_sem];rfl) (fun b=>?_) (fun b=>?_)
 ·simp only [Bool.or_eq_true,Bool.or_eq_false_iff,Bool.and_eq_true,Bool.and_eq_false_iff,decide_eq_true_eq,decide_eq_false_iff_not,Bool.not_eq_true',Bool.not_eq_false',Bool.not_eq_eq_eq_not,Bool.not_true,Bool.not_false] at b
  apply Ah;intro K17 q
  apply Ao 1 [2]
  rw [Am];simp +decide only [go_sem]
  (repeat' apply Aa)<;>first | refine q _ _ ?_ | (intros;omega) | (intros;simp_all;done) | (intros;simp only [Bool.or_eq_false_iff,Bool.or_eq_true,Bool.and_eq_true,Bool.and_eq_false_iff,decide_eq_true_eq,decide_eq_false_iff_not,bne_iff_ne] at *; omega)
  clear q
  apply A3;simp +decide only [go_sem]
  refine LR a (by first | exact List.prefix_append _ _ | exact List.prefix_refl _ | (rw [List.append_assoc];exact List.prefix_append _ _)) (by first | exact List.prefix_append _ _ | exact List.prefix_refl _ | (rw [List.append_assoc];exact List.prefix_append _ _)) (by first | exact List.prefix_append _ _ | exact List.prefix_refl _ | (rw [List.append_assoc];exact List.prefix_append _ _)) ?_ ⟨?_,rfl⟩
  ·simp +decide only [go_sem]
  ·simp only [go_sem]
   rw [BL,Ae (by omega)]
 simp only [Bool.or_eq_true,Bool.or_eq_false_iff,Bool.and_eq_true,Bool.and_eq_false_iff,decide_eq_true_eq,decide_eq_false_iff_not,Bool.not_eq_true',Bool.not_eq_false',Bool.not_eq_eq_eq_not,Bool.not_true,Bool.not_false] at b
 apply Ah;intro K18 i
 apply Ao 1 [1,13]
 rw [Am];simp +decide only [go_sem]
 (repeat' apply Aa)<;>first | refine i _ _ ?_ | (intros;omega) | (intros;simp_all;done) | (intros;simp only [Bool.or_eq_false_iff,Bool.or_eq_true,Bool.and_eq_true,Bool.and_eq_false_iff,decide_eq_true_eq,decide_eq_false_iff_not,bne_iff_ne] at *; omega)
 clear i
 refine A2 _ (by simp +decide only [go_sem]) (by simp +decide only [go_sem];rfl) (fun b=>?_) (fun b=>?_)
 ·simp only [Bool.or_eq_true,Bool.or_eq_false_iff,Bool.and_eq_true,Bool.and_eq_false_iff,decide_eq_true_eq,decide_eq_false_iff_not,Bool.not_eq_true',Bool.not_eq_false',Bool.not_eq_eq_eq_not,Bool.not_true,Bool.not_false] at b
  apply Ah;intro K19 h
  apply Ao 1 [1,3]
  rw [Am];simp +decide only [go_sem]
  (repeat' apply Aa)<;>first | refine h _ _ ?_ | (intros;omega) | (intros;simp_all;done) | (intros;simp only [Bool.or_eq_false_iff,Bool.or_eq_true,Bool.and_eq_true,Bool.and_eq_false_iff,decide_eq_true_eq,decide_eq_false_iff_not,bne_iff_ne] at *; omega)
  clear h
  apply Ah;intro K20 g
  apply Ah;intro K21 j
  apply Ao 1 [3,16,17,18]
  rw [Am];simp +decide only [go_sem]
  (repeat' apply Aa)<;>first | refine j _ _ ?_ | (intros;omega) | (intros;simp_all;done) | (intros;simp only [Bool.or_eq_false_iff,Bool.or_eq_true,Bool.and_eq_true,Bool.and_eq_false_iff,decide_eq_true_eq,decide_eq_false_iff_not,bne_iff_ne] at *; omega)
  clear j
  apply Ak
  refine AC (fun m e st=>∃ (k:Nat) (o:Ev.Own) (r:List RowA) (X:List (List AV)),k≤v.fields.length∧m=v.fields.length-k∧Grow Rw 6 (FC ((v.fields.take k).map (·.2))) o r ∧
   e=[(3,true,.list (FC ((v.fields.take k).map (·.2))) o),(16,true,.list (JH v.fields) .none),(17,true,.val (.int .i64 v.fields.length)),(18,true,.val (.int .i64 k))]∧st=⟨B++X,Rw++r,L⟩) v.fields.length ⟨0,.full,[],[v.cs],by omega,rfl,.nil _ _,rfl,by simp⟩ ?_
  rintro m e st ⟨k,o,r,X,N,rfl,G,rfl,rfl⟩ KR H
  obtain ⟨x,hx⟩:∃ x,(JH v.fields).getD k .junk=x:=⟨_,rfl⟩
  have d:=Vq (P:=Tryz.prog) U1 (by rw [Ou];rfl) (by decide) G
  have c:=Yv v.fields k N
  apply Ah;intro K22 s
  apply Ao 1 [3,16,17,18,19]
  rw [Am];simp +decide only [go_sem,hx,d,c]
  (repeat' apply Aa)<;>first | refine s _ _ ?_ | (intros;omega) | (intros;simp_all;done) | (intros;simp only [Bool.or_eq_false_iff,Bool.or_eq_true,Bool.and_eq_true,Bool.and_eq_false_iff,decide_eq_true_eq,decide_eq_false_iff_not,bne_iff_ne] at *; omega)
  clear s
  apply Ah;intro K23 t
  refine A2 _ (by simp +decide only [go_sem]) (by simp +decide only [go_sem];rfl) (fun b=>?_) (fun b=>?_)
  rotate_left
  ·simp only [Bool.or_eq_true,Bool.or_eq_false_iff,Bool.and_eq_true,Bool.and_eq_false_iff,decide_eq_true_eq,decide_eq_false_iff_not,Bool.not_eq_true',Bool.not_eq_false',Bool.not_eq_eq_eq_not,Bool.not_true,Bool.not_false] at b
   apply KE;simp +decide only [go_sem,hx,d,c]
   (repeat' apply Aa)<;>first | refine g _ _ ?_ | (intros;omega) | (intros;simp_all;done) | (intros;simp only [Bool.or_eq_false_iff,Bool.or_eq_true,Bool.and_eq_true,Bool.and_eq_false_iff,decide_eq_true_eq,decide_eq_false_iff_not,bne_iff_ne] at *; omega)
   clear g
   apply Ah;intro K24 n
   apply Ao 1 [2]
   rw [Am];simp +decide only [go_sem,hx,d,c]
   (repeat' apply Aa)<;>first | refine n _ _ ?_ | (intros;omega) | (intros;simp_all;done) | (intros;simp only [Bool.or_eq_false_iff,Bool.or_eq_true,Bool.and_eq_true,Bool.and_eq_false_iff,decide_eq_true_eq,decide_eq_false_iff_not,bne_iff_ne] at *; omega)
   clear n
   apply A3;simp +decide only [go_sem]
   refine LR a (by first | exact List.prefix_append _ _ | exact List.prefix_refl _ | (rw [List.append_assoc];exact List.prefix_append _ _)) (by first | exact List.prefix_append _ _ | exact List.prefix_refl _ | (rw [List.append_assoc];exact List.prefix_append _ _)) (by first | exact List.prefix_append _ _ | exact List.prefix_refl _ | (rw [List.append_assoc];exact List.prefix_append _ _)) ?_ ⟨?_,rfl⟩
   ·simp +decide only [go_sem]
   ·simp only [go_sem]
    rw [BL,Af (by omega),Ae (by omega),List.take_of_length_le (by omega)]
  simp only [Bool.or_eq_true,Bool.or_eq_false_iff,Bool.and_eq_true,Bool.and_eq_false_iff,decide_eq_true_eq,decide_eq_false_iff_not,Bool.not_eq_true',Bool.not_eq_false',Bool.not_eq_eq_eq_not,Bool.not_true,Bool.not_false] at b
  have y:k<v.fields.length:=by omega
  have hx2:=ZbA v.fields k y
  rw [hx] at hx2
  subst hx2
  have J:=ZG v.fields k y
  have E:=Yv v.fields (k+1) (by omega)
  apply Bl;simp only [go_sem]
  (repeat' apply Aa)<;>first | refine t _ _ ?_ | (intros;omega) | (intros;simp_all;done) | (intros;simp only [Bool.or_eq_false_iff,Bool.or_eq_true,Bool.and_eq_true,Bool.and_eq_false_iff,decide_eq_true_eq,decide_eq_false_iff_not,bne_iff_ne] at *; omega)
  clear t
  apply Ah;intro K25 u
  apply Ak
  apply Ah;intro K26 l
  apply Ao 1 [3,5,16,17,18]
  rw [Am];simp +decide only [go_sem,hx,d,c]
  (repeat' apply Aa)<;>first | refine l _ _ ?_ | (intros;omega) | (intros;simp_all;done) | (intros;simp only [Bool.or_eq_false_iff,Bool.or_eq_true,Bool.and_eq_true,Bool.and_eq_false_iff,decide_eq_true_eq,decide_eq_false_iff_not,bne_iff_ne] at *; omega)
  clear l
  apply Ao 1 [3,16,17,18]
  rw [Am];simp +decide only [go_sem,hx,d,c]
  (repeat' apply Aa)<;>first | refine u _ _ ?_ | (intros;omega) | (intros;simp_all;done) | (intros;simp only [Bool.or_eq_false_iff,Bool.or_eq_true,Bool.and_eq_true,Bool.and_eq_false_iff,decide_eq_true_eq,decide_eq_false_iff_not,bne_iff_ne] at *; omega)
  clear u
  apply Ao 1 [3,16,17,18]
  rw [Am];simp +decide only [go_sem,hx,d,c]
  (repeat' apply Aa)<;>first | refine H (v.fields.length-(k+1)) _ _ ?_ ⟨k+1,.row Rw.length,[.grow (k+1) 6],_,?_,rfl,.more _ _ _ _ E,?_,rfl⟩ | (intros;omega) | (intros;simp_all;done)
  ·omega
  ·omega
  ·rw [J];simp
 simp only [Bool.or_eq_true,Bool.or_eq_false_iff,Bool.and_eq_true,Bool.and_eq_false_iff,decide_eq_true_eq,decide_eq_false_iff_not,Bool.not_eq_true',Bool.not_eq_false',Bool.not_eq_eq_eq_not,Bool.not_true,Bool.not_false] at b
 apply Bl;simp only [go_sem]
 (repeat' apply Aa)<;>first | refine D _ _ ?_ | (intros;omega) | (intros;simp_all;done) | (intros;simp only [Bool.or_eq_false_iff,Bool.or_eq_true,Bool.and_eq_true,Bool.and_eq_false_iff,decide_eq_true_eq,decide_eq_false_iff_not,bne_iff_ne] at *; omega)
 clear D
 apply Ah;intro K27 p
 apply Ao 1 [2]
 rw [Am];simp +decide only [go_sem]
 (repeat' apply Aa)<;>first | refine p _ _ ?_ | (intros;omega) | (intros;simp_all;done) | (intros;simp only [Bool.or_eq_false_iff,Bool.or_eq_true,Bool.and_eq_true,Bool.and_eq_false_iff,decide_eq_true_eq,decide_eq_false_iff_not,bne_iff_ne] at *; omega)
 clear p
 apply A3;simp +decide only [go_sem]
 refine LR a (by first | exact List.prefix_append _ _ | exact List.prefix_refl _ | (rw [List.append_assoc];exact List.prefix_append _ _)) (by first | exact List.prefix_append _ _ | exact List.prefix_refl _ | (rw [List.append_assoc];exact List.prefix_append _ _)) (by first | exact List.prefix_append _ _ | exact List.prefix_refl _ | (rw [List.append_assoc];exact List.prefix_append _ _)) ?_ ⟨?_,rfl⟩
 ·simp +decide only [go_sem]
 ·simp only [go_sem]
  rw [BL,Af (by omega),Af (by omega)];rfl
mutual
def Fa (lv:Nat):Vl→List (Nat × Vl)
 | .mk k i s t l f=>(lv,.mk k i s t l f)::(if k=8∨k=10 then ZaD (lv+1) l else if k=9 then Zau (lv+1) f else [])
def ZaD (lv:Nat):List Vl→List (Nat × Vl)
 | []=>[]
 | v::r=>Fa lv v++ZaD lv r
def Zau (lv:Nat):List (ByteArray × Vl)→List (Nat × Vl)
 | []=>[]
 | (_,v)::r=>Fa lv v++Zau lv r
end
theorem XE (lv:Nat):∀ l,ZaD lv l=l.flatMap (Fa lv)
 | []=>rfl
 | v::r=>by simp [ZaD,XE lv r]
theorem XY (lv:Nat):∀ l,Zau lv l=(l.map (·.2)).flatMap (Fa lv)
 | []=>rfl
 | (_,v)::r=>by simp [Zau,XY lv r]
theorem ML (lv:Nat) (v:Vl):Fa lv v=(lv,v)::(BL v).flatMap (Fa (lv+1)):=by
 obtain ⟨k,i,s,t,l,f⟩:=v
 simp only [Fa,BL,Vl.kind,Vl.list,Vl.fields,XE,XY]
 by_cases h1:k=8∨k=10
 ·simp only [h1,if_true]
 ·by_cases h2:k=9
  ·subst h2;simp
  ·simp only [h1,h2,if_false,List.flatMap_nil]
theorem Xl {α β:Type} (f:α→List β) (l:List α) (q:Nat) (h:q<l.length):((l.take (q+1)).flatMap f).length=((l.take q).flatMap f).length+(f l[q]).length:=by
 rw [List.take_succ_eq_append_getElem h,List.flatMap_append,List.length_append];simp
theorem XV {α β:Type} (f:α→List β) (l:List α) (q:Nat) (h:q<l.length) (j:Nat) (x:β) (hx:(f l[q])[j]? = some x):(l.flatMap f)[((l.take q).flatMap f).length+j]? = some x:=by
 have e:l=l.take q++l[q]::l.drop (q+1):=by rw [←List.drop_eq_getElem_cons h,List.take_append_drop]
 have a:l.flatMap f=(l.take q).flatMap f++(f l[q]++(l.drop (q+1)).flatMap f):=by
  conv=>lhs;rw [e]
  rw [List.flatMap_append,List.flatMap_cons]
 rw [a,List.getElem?_append_right (by omega),Nat.add_sub_cancel_left,List.getElem?_append_left (Ag.1 hx).1,hx]
theorem MO:∀ (l:List Vl) (v:Vl),v∈l→v.size≤GF l
 | [],_,h=>by simp at h
 | a::r,v,h=>by
  rcases List.mem_cons.1 h with rfl | h
  ·simp [GF]
  ·have:=MO r v h
   simp [GF];omega
theorem MS:∀ (l:List (ByteArray × Vl)) (p:ByteArray × Vl),p∈l→p.2.size≤F9 l
 | [],_,h=>by simp at h
 | (n,a)::r,p,h=>by
  rcases List.mem_cons.1 h with rfl | h
  ·simp [F9]
  ·have:=MS r p h
   simp [F9];omega
theorem Vl.size_pos (v:Vl):0<v.size:=by cases v;simp [Vl.size];omega
theorem Np:∀ l:List Vl,l.length≤GF l
 | []=>Nat.le_refl _
 | v::r=>by have:=Np r;have:=v.size_pos;simp [GF];omega
theorem MY:∀ l:List (ByteArray × Vl),l.length≤F9 l
 | []=>Nat.le_refl _
 | (n,v)::r=>by have:=MY r;have:=v.size_pos;simp [F9];omega
theorem Vl.size_eq (v:Vl):v.size=1+GF v.list+F9 v.fields:=by cases v;simp [Vl.size,Vl.list,Vl.fields]
theorem Za4 (v x:Vl) (h:x∈BL v):x.size<v.size:=by
 have e:=v.size_eq
 unfold BL at h
 split at h
 ·have:=MO _ _ h;omega
 ·split at h
  ·obtain ⟨p,a,rfl⟩:=List.mem_map.1 h
   have:=MS _ _ a;omega
  ·simp at h
theorem HZ (v:Vl):v.list.length<v.size∧v.fields.length<v.size∧(BL v).length<v.size:=by
 have e:=v.size_eq
 have b:=Np v.list
 have a:=MY v.fields
 refine ⟨by omega,by omega,?_⟩
 unfold BL
 split
 ·omega
 ·split
  ·simp;omega
  ·simp;omega
mutual
def Vl.wide:Vl→Bool
 | .mk _ _ _ _ l f=>decide (l.length≤1000000000000)&&decide (f.length≤1000000000000)&&UT l&&U0 f
def UT:List Vl→Bool
 | []=>true
 | v::r=>v.wide&&UT r
def U0:List (ByteArray × Vl)→Bool
 | []=>true
 | (_,v)::r=>v.wide&&U0 r
end
theorem UE:∀ l,UT l=true↔∀ v∈l,v.wide=true
 | []=>by simp [UT]
 | v::r=>by simp [UT,UE r]
theorem TK:∀ l,U0 l=true↔∀ p∈l,p.2.wide=true
 | []=>by simp [U0]
 | (n,v)::r=>by simp [U0,TK r]
theorem Vl.wide_iff (v:Vl):v.wide=true↔v.list.length≤1000000000000∧v.fields.length≤1000000000000∧(∀ x∈v.list,x.wide=true)∧∀ p∈v.fields,p.2.wide=true:=by
 cases v;simp only [Vl.wide,Bool.and_eq_true,decide_eq_true_eq,UE,TK,Vl.list,Vl.fields,and_assoc]
theorem Vs {v x:Vl} (h:v.wide=true) (hx:x∈BL v):x.wide=true:=by
 obtain ⟨_,_,c,b⟩:=v.wide_iff.1 h
 unfold BL at hx
 split at hx
 ·exact c x hx
 ·split at hx
  ·obtain ⟨p,a,rfl⟩:=List.mem_map.1 hx
   exact b p a
  ·simp at hx
theorem G3:∀ (k:Nat) (v:Vl),v.size≤k→v.size≤1000000000000→v.wide=true
 | 0,v,h,_=>by have:=v.size_pos;omega
 | k+1,v,h,h2=>by
  have e:=v.size_eq
  obtain ⟨a,b,_⟩:=HZ v
  refine v.wide_iff.2 ⟨by omega,by omega,fun x d=>?_,fun p c=>?_⟩
  ·have:=MO _ _ d;exact G3 k x (by omega) (by omega)
  ·have:=MS _ _ c;exact G3 k p.2 (by omega) (by omega)
mutual
def Vl.depth:Vl→Nat
 | .mk _ _ _ _ l f=>1+max (Hz l) (He f)
def Hz:List Vl→Nat
 | []=>0
 | t::r=>max t.depth (Hz r)
def He:List (ByteArray × Vl)→Nat
 | []=>0
 | (_,t)::r=>max t.depth (He r)
end
theorem HQ:∀ (l:List Vl) (d:Nat),Hz l≤d↔∀ v∈l,v.depth≤d
 | [],d=>by simp [Hz]
 | v::r,d=>by simp [Hz,Nat.max_le,HQ r d]
theorem IW:∀ (l:List (ByteArray × Vl)) (d:Nat),He l≤d↔∀ v∈l,v.2.depth≤d
 | [],d=>by simp [He]
 | (_,t)::r,d=>by simp [He,Nat.max_le,IW r d]
theorem Vl.depth_eq (v:Vl):v.depth=1+Max.max (Hz v.list) (He v.fields):=by cases v;simp [Vl.depth,Vl.list,Vl.fields]
theorem depth_part {v x:Vl} (h:x∈BL v):x.depth<v.depth:=by
 have e:=v.depth_eq
 unfold BL at h
 split at h
 ·have:=(HQ v.list _).1 (Nat.le_refl _) x h;omega
 ·split at h
  ·obtain ⟨p,a,rfl⟩:=List.mem_map.1 h
   have:=(IW v.fields _).1 (Nat.le_refl _) p a;omega
  ·simp at h
mutual
theorem Vl.depth_size:∀ v:Vl,v.depth≤v.size
 | .mk _ _ _ _ l f=>by have:=Qj l;have:=Qo f;simp only [Vl.depth,Vl.size];omega
theorem Qj:∀ l:List Vl,Hz l≤GF l
 | []=>Nat.le_refl _
 | v::r=>by have:=v.depth_size;have:=Qj r;simp only [Hz,GF];omega
theorem Qo:∀ l:List (ByteArray × Vl),He l≤F9 l
 | []=>Nat.le_refl _
 | (_,v)::r=>by have:=v.depth_size;have:=Qo r;simp only [He,F9];omega
end
def Zax (p:Nat × Vl):List AV:=[.val (.int .i64 p.1),.agg p.2.cs]
def ZX (w0:World) (items:List (List AV)) (k:Nat) (J:Nat→St→Prop) (Jx:St→Prop):Prop :=
 ∀ i SB SR SL x XB XL,J i ⟨SB,SR,SL⟩→items[i]? = some x→UO Tryz.prog w0 k x ⟨SB++XB,SR,SL++XL⟩ fun r s'=>∃ TB TR TL b,r = .val (.bool b)∧s'=⟨TB++XB,TR,TL++XL⟩∧TB.length=SB.length∧SR.length≤TR.length∧TL.length=SL.length∧(b=true→J (i+1) ⟨TB,TR,TL⟩)∧(b=false→Jx ⟨TB,TR,TL⟩)
def ZF (w0:World) (items:List (List AV)) (k:Nat) (J:Nat→St→Prop) (Jx:St→Prop) (v:Vl):Prop :=
 ∀ (lv i:Nat) (lvi:Int) SB SR SL XB XL,lv+v.depth≤4611686018427387904→v.wide=true→J i ⟨SB,SR,SL⟩→lvi=lv→(∀ j x,(Fa lv v)[j]? = some x→items[i+j]? = some (Zax x)) →
  ACalls Tryz.prog w0 123 [.agg v.cs,.val (.int .i64 lvi),.yld k] ⟨SB++XB,SR,SL++XL⟩ fun r s'=>∃ TB TR TL XB' b,r = .val (.bool b)∧s'=⟨TB++(XB++XB'),TR,TL++XL⟩∧TB.length=SB.length∧SR.length≤TR.length∧TL.length=SL.length∧(b=true→J (i+(Fa lv v).length) ⟨TB,TR,TL⟩)∧(b=false→Jx ⟨TB,TR,TL⟩)
theorem ZP (w0:World) (items:List (List AV)) (k:Nat) (J:Nat→St→Prop) (Jx:St→Prop) (hY:ZX w0 items k J Jx) (v:Vl) (ih:∀ x,x.size<v.size→ZF w0 items k J Jx x):ZF w0 items k J Jx v:=by
 intro d i ag SB SR SL XB XL ak g h0 hle w
 subst hle
 obtain ⟨u,y,_⟩:=v.wide_iff.1 g
 have ab:(BL v).length≤1000000000000:=by
  unfold BL
  split
  ·exact u
  ·split
   ·simpa using y
   ·simp
 refine Ep (rs:=[.tmp 6]) Tryz.func123 rfl rfl Tryz.ntmps123 (A9 Tryz.func123 rfl (by decide)) (Nat.le_of_ble_eq_true rfl) ?_
 intro M0 W0 hN ah aj V hu
 obtain ⟨ai,af,O⟩:=HZ v
 have f:=ML d v
 have c:=Qi (BL v)
 obtain ⟨ps,hpe⟩:∃ ps,BL v=ps:=⟨_,rfl⟩
 have G:items[i]? = some (Zax (d,v)):=by
  have:=w 0 (d,v) (by rw [f];rfl)
  simpa using this
 simp only [Au]
 apply Ah;intro K1 E
 apply Ao 1 [1,2,3]
 rw [Am];simp +decide only [go_sem]
 (repeat' apply Aa)<;>first | refine E _ _ ?_ | (intros;omega) | (intros;simp_all;done) | (intros;simp only [Bool.or_eq_false_iff,Bool.or_eq_true,Bool.and_eq_true,Bool.and_eq_false_iff,decide_eq_true_eq,decide_eq_false_iff_not,bne_iff_ne] at *; omega)
 clear E
 apply Ah;intro K2 K
 apply Ah;intro K3 N
 apply Ao 2 [1,2,3,13]
 rw [Am];simp +decide only [go_sem]
 (repeat' apply Aa)<;>first | refine YC _ (fun _=>hY i SB SR SL _ (XB++[v.cs]) XL h0 G) (fun r s' hp _=>?_) | (intros;omega) | (intros;simp_all;done) | (intros;simp only [Bool.or_eq_false_iff,Bool.or_eq_true,Bool.and_eq_true,Bool.and_eq_false_iff,decide_eq_true_eq,decide_eq_false_iff_not,bne_iff_ne] at *; omega)
 obtain ⟨TB,TR,TL,b,rfl,rfl,U,l2,l3,aa,hp2⟩:=hp rfl
 rw [←U]
 rw [Am];simp +decide only [go_sem]
 (repeat' apply Aa)<;>first | refine N _ _ ?_ | (intros;omega) | (intros;simp_all;done) | (intros;simp only [Bool.or_eq_false_iff,Bool.or_eq_true,Bool.and_eq_true,Bool.and_eq_false_iff,decide_eq_true_eq,decide_eq_false_iff_not,bne_iff_ne] at *; omega)
 clear N
 refine A2 _ (by simp +decide only [go_sem]) (by simp +decide only [go_sem];rfl) (fun hb=>?_) (fun hb=>?_)
 ·simp only [Bool.not_eq_true'] at hb
  apply Ah;intro K4 H
  apply Ao 1 [6]
  rw [Am];simp +decide only [go_sem]
  (repeat' apply Aa)<;>first | refine H _ _ ?_ | (intros;omega) | (intros;simp_all;done) | (intros;simp only [Bool.or_eq_false_iff,Bool.or_eq_true,Bool.and_eq_true,Bool.and_eq_false_iff,decide_eq_true_eq,decide_eq_false_iff_not,bne_iff_ne] at *; omega)
  clear H
  apply A3;simp +decide only [go_sem]
  exact ⟨TB,TR,TL,[v.cs],false,rfl,rfl,U,l2,l3,fun h=>(by cases h),fun _=>hp2 hb⟩
 simp only [Bool.not_eq_false'] at hb
 apply Bl;simp only [go_sem]
 (repeat' apply Aa)<;>first | refine K _ _ ?_ | (intros;omega) | (intros;simp_all;done) | (intros;simp only [Bool.or_eq_false_iff,Bool.or_eq_true,Bool.and_eq_true,Bool.and_eq_false_iff,decide_eq_true_eq,decide_eq_false_iff_not,bne_iff_ne] at *; omega)
 clear K
 apply Ah;intro K5 z
 apply Ah;intro K6 D
 apply Ao 2 [1,2,15,16,17]
 rw [Am];simp +decide only [go_sem]
 (repeat' apply Aa)<;>first | refine NV _ (Zdx w0 _ TR _ v u y) ?_ | (intros;omega) | (intros;simp_all;done) | (intros;simp only [Bool.or_eq_false_iff,Bool.or_eq_true,Bool.and_eq_true,Bool.and_eq_false_iff,decide_eq_true_eq,decide_eq_false_iff_not,bne_iff_ne] at *; omega)
 rw [hpe] at c O ab f ⊢
 rw [Am];simp +decide only [go_sem]
 (repeat' apply Aa)<;>first | refine D _ _ ?_ | (intros;omega) | (intros;simp_all;done) | (intros;simp only [Bool.or_eq_false_iff,Bool.or_eq_true,Bool.and_eq_true,Bool.and_eq_false_iff,decide_eq_true_eq,decide_eq_false_iff_not,bne_iff_ne] at *; omega)
 clear D
 apply Ak
 refine AC (fun m e st=>∃ (q:Nat) (UB:List (List AV)) (UR:List RowA) (UL:List LoopA) (XB':List (List AV)),q≤ps.length∧m=ps.length-q∧J (i+1+((ps.take q).flatMap (Fa (d+1))).length) ⟨UB,UR,UL⟩∧UB.length=SB.length∧SR.length≤UR.length∧UL.length=SL.length∧e=[(1,true,.val (.int .i64 d)),(2,true,.yld k),(15,true,.list (FC ps) .none),(16,true,.val (.int .i64 ps.length)),(17,true,.val (.int .i64 q))]∧st=⟨UB++(XB++XB'),UR,UL++XL⟩) ps.length ⟨0,TB,TR,TL,[v.cs],by omega,rfl,by simpa using aa hb,U,l2,l3,rfl,by simp⟩ ?_
 rintro m e st ⟨q,UB,UR,UL,XB',hq,rfl,Z,m1,m2,m3,rfl,rfl⟩ KR Y
 obtain ⟨x,hx⟩:∃ x,(FC ps).getD q .junk=x:=⟨_,rfl⟩
 apply Ah;intro K7 t
 apply Ao 1 [1,2,15,16,17,18]
 rw [Am];simp +decide only [go_sem,hx,c]
 (repeat' apply Aa)<;>first | refine t _ _ ?_ | (intros;omega) | (intros;simp_all;done) | (intros;simp only [Bool.or_eq_false_iff,Bool.or_eq_true,Bool.and_eq_true,Bool.and_eq_false_iff,decide_eq_true_eq,decide_eq_false_iff_not,bne_iff_ne] at *; omega)
 clear t
 apply Ah;intro K8 C
 refine A2 _ (by simp +decide only [go_sem]) (by simp +decide only [go_sem];rfl) (fun hb=>?_) (fun hb=>?_)
 rotate_left
 ·simp only [Bool.or_eq_true,Bool.or_eq_false_iff,Bool.and_eq_true,Bool.and_eq_false_iff,decide_eq_true_eq,decide_eq_false_iff_not,Bool.not_eq_true',Bool.not_eq_false',Bool.not_eq_eq_eq_not,Bool.not_true,Bool.not_false] at hb
  apply KE;simp +decide only [go_sem,hx,c]
  (repeat' apply Aa)<;>first | refine z _ _ ?_ | (intros;omega) | (intros;simp_all;done) | (intros;simp only [Bool.or_eq_false_iff,Bool.or_eq_true,Bool.and_eq_true,Bool.and_eq_false_iff,decide_eq_true_eq,decide_eq_false_iff_not,bne_iff_ne] at *; omega)
  clear z
  apply Ah;intro K9 s
  apply Ao 1 [6]
  rw [Am];simp +decide only [go_sem,hx,c]
  (repeat' apply Aa)<;>first | refine s _ _ ?_ | (intros;omega) | (intros;simp_all;done) | (intros;simp only [Bool.or_eq_false_iff,Bool.or_eq_true,Bool.and_eq_true,Bool.and_eq_false_iff,decide_eq_true_eq,decide_eq_false_iff_not,bne_iff_ne] at *; omega)
  clear s
  apply A3;simp +decide only [go_sem]
  refine ⟨UB,UR,UL,XB',true,rfl,rfl,m1,m2,m3,fun _=>?_,fun h=>(by cases h)⟩
  rw [List.take_of_length_le (by omega)] at Z
  rw [f,List.length_cons,show i+((ps.flatMap (Fa (d+1))).length+1)=i+1+(ps.flatMap (Fa (d+1))).length by omega]
  exact Z
 simp only [Bool.or_eq_true,Bool.or_eq_false_iff,Bool.and_eq_true,Bool.and_eq_false_iff,decide_eq_true_eq,decide_eq_false_iff_not,Bool.not_eq_true',Bool.not_eq_false',Bool.not_eq_eq_eq_not,Bool.not_true,Bool.not_false] at hb
 have a:q<ps.length:=by omega
 have hx2:=ZbC ps q a
 rw [hx] at hx2
 subst hx2
 have Q:=Xl (Fa (d+1)) ps q a
 have F:∀ j x,(Fa (d+1) (ps[q]'a))[j]? = some x→items[i+1+((ps.take q).flatMap (Fa (d+1))).length+j]? = some (Zax x):=fun j x ae=>by
  have h1:=XV (Fa (d+1)) ps q a j x ae
  have h2:=w (((ps.take q).flatMap (Fa (d+1))).length+j+1) x (by rw [f,List.getElem?_cons_succ,h1])
  rw [show i+1+((ps.take q).flatMap (Fa (d+1))).length+j=i+(((ps.take q).flatMap (Fa (d+1))).length+j+1) by omega]
  exact h2
 apply Bl;simp only [go_sem]
 (repeat' apply Aa)<;>first | refine C _ _ ?_ | (intros;omega) | (intros;simp_all;done) | (intros;simp only [Bool.or_eq_false_iff,Bool.or_eq_true,Bool.and_eq_true,Bool.and_eq_false_iff,decide_eq_true_eq,decide_eq_false_iff_not,bne_iff_ne] at *; omega)
 clear C
 apply Ah;intro K10 n
 apply Ak
 apply Ah;intro K11 l
 apply Ao 1 [1,2,8,15,16,17]
 rw [Am];simp +decide only [go_sem,hx,c]
 (repeat' apply Aa)<;>first | refine l _ _ ?_ | (intros;omega) | (intros;simp_all;done) | (intros;simp only [Bool.or_eq_false_iff,Bool.or_eq_true,Bool.and_eq_true,Bool.and_eq_false_iff,decide_eq_true_eq,decide_eq_false_iff_not,bne_iff_ne] at *; omega)
 clear l
 apply Ah;intro K12 o
 apply Ao 2 [1,2,15,16,17,26]
 rw [Am];simp +decide only [go_sem,hx,c]
 (repeat' apply Aa)<;>first | refine S8 _ (ih (ps[q]'a) (Za4 v _ (by rw [hpe];exact List.getElem_mem a)) (d+1) _ _ UB UR UL (XB++(XB'++[(ps[q]'a).cs])) XL (by have:=depth_part (v:=v) (x:=ps[q]'a) (by rw [hpe];exact List.getElem_mem a);omega) (Vs g (by rw [hpe];exact List.getElem_mem a)) Z (by omega) F) ?_ | (intros;omega) | (intros;simp_all;done) | (intros;simp only [Bool.or_eq_false_iff,Bool.or_eq_true,Bool.and_eq_true,Bool.and_eq_false_iff,decide_eq_true_eq,decide_eq_false_iff_not,bne_iff_ne] at *; omega)
 rintro r s' ⟨VB,VR,VL,XB2,b2,rfl,rfl,n1,n2,n3,ad,np2⟩
 rw [Am];simp +decide only [go_sem,hx,c]
 (repeat' apply Aa)<;>first | refine o _ _ ?_ | (intros;omega) | (intros;simp_all;done) | (intros;simp only [Bool.or_eq_false_iff,Bool.or_eq_true,Bool.and_eq_true,Bool.and_eq_false_iff,decide_eq_true_eq,decide_eq_false_iff_not,bne_iff_ne] at *; omega)
 clear o
 refine A2 _ (by simp +decide only [go_sem]) (by simp +decide only [go_sem];rfl) (fun hb=>?_) (fun hb=>?_)
 ·simp only [Bool.not_eq_true'] at hb
  apply Ah;intro K13 p
  apply Ao 1 [6]
  rw [Am];simp +decide only [go_sem,hx,c]
  (repeat' apply Aa)<;>first | refine p _ _ ?_ | (intros;omega) | (intros;simp_all;done) | (intros;simp only [Bool.or_eq_false_iff,Bool.or_eq_true,Bool.and_eq_true,Bool.and_eq_false_iff,decide_eq_true_eq,decide_eq_false_iff_not,bne_iff_ne] at *; omega)
  clear p
  apply A3;simp +decide only [go_sem]
  exact ⟨VB,VR,VL,XB'++([(ps[q]'a).cs]++XB2),false,rfl,by simp,by omega,by omega,by omega,fun h=>(by cases h),fun _=>np2 hb⟩
 simp only [Bool.not_eq_false'] at hb
 apply Bl;simp only [go_sem]
 (repeat' apply Aa)<;>first | refine n _ _ ?_ | (intros;omega) | (intros;simp_all;done) | (intros;simp only [Bool.or_eq_false_iff,Bool.or_eq_true,Bool.and_eq_true,Bool.and_eq_false_iff,decide_eq_true_eq,decide_eq_false_iff_not,bne_iff_ne] at *; omega)
 clear n
 apply Ao 1 [1,2,15,16,17]
 rw [Am];simp +decide only [go_sem,hx,c]
 (repeat' apply Aa)<;>first | refine Y (ps.length-(q+1)) _ _ ?_ ⟨q+1,VB,VR,VL,XB'++([(ps[q]'a).cs]++XB2),?_,rfl,?_,?_,?_,?_,?_,?_⟩ | (intros;omega) | (intros;simp_all;done)
 ·omega
 ·omega
 ·rw [Q];have:=ad hb;rwa [Nat.add_assoc (i+1)] at this
 ·omega
 ·omega
 ·omega
 ·simp
 ·simp
theorem YO (w0:World) (items:List (List AV)) (k:Nat) (J:Nat→St→Prop) (Jx:St→Prop) (hY:ZX w0 items k J Jx):∀ (n:Nat) (v:Vl),v.size≤n→ZF w0 items k J Jx v
 | 0,v,h=>by have:=v.size_pos;omega
 | n+1,v,h=>ZP w0 items k J Jx hY v fun x a=>YO w0 items k J Jx hY n x (by omega)
def ID (v:Vl):List (List AV):=(Fa 1 v).map Zax
theorem LE (w0:World) (v:Vl) (hv:v.depth<4611686018427387904∧v.wide=true) (l:Nat):ZfS Tryz.prog w0 122 [.box l 0] (ID v) (fun st=>st.boxes[l]? = some v.cs):=by
 intro k J Jx Y F Z D
 have N:ZX w0 (ID v) k J (fun s=>Jx s):=by
  intro i SB SR SL x XB XL U g
  have:=F i ⟨SB,SR,SL⟩ x ⟨XB,[],XL⟩ rfl U g
  simp only [St.ext,List.append_nil] at this
  intro M w d V K
  obtain ⟨fn,e,t,f,m,q⟩:=this M w d V K
  refine ⟨fn,e,t,f,m,fun n=>(q n).mono ?_⟩
  intro en w' E
  refine E.mono ?_
  rintro r s ⟨⟨TB,TR,TL⟩,rfl,⟨C,p,z⟩,hp⟩
  rcases hp with ⟨rfl,hp⟩ | ⟨rfl,hp⟩
  ·exact ⟨TB,TR,TL,true,rfl,rfl,C,p,z,fun _=>hp,fun h=>(by cases h)⟩
  ·exact ⟨TB,TR,TL,false,rfl,rfl,C,p,z,fun h=>(by cases h),fun _=>hp⟩
 obtain ⟨a,O⟩:=Y _ _ D
 obtain ⟨SB,SR,SL⟩:=Z
 have H:l<SB.length:=(Ag.1 a).1
 have m:Dx ⟨SB,SR,SL⟩ (.box l 0)=true:=by simp [Dx,H]
 have q:Bj ⟨SB,SR,SL⟩ (.box l 0)=v.cs:=by
  simp only at a
  simp [Bj,List.getD,a]
 have c:=YO w0 (ID v) k J Jx N v.size v (Nat.le_refl _) 1 0 1 SB SR SL [] [] (by omega) hv.2 D rfl (fun j x g=>by simp [ID,g])
 simp only [List.append_nil,List.nil_append,Nat.zero_add] at c
 refine Ep (rs:=[]) Tryz.func122 rfl rfl Tryz.ntmps122 (A9 Tryz.func122 rfl (by decide)) (Nat.le_of_ble_eq_true rfl) ?_
 intro M0 W0 hN G Q o hu
 simp only [Au]
 apply Ao 2 []
 rw [Am];simp +decide only [go_sem,m,q]
 (repeat' apply Aa)<;>first | refine S8 _ c ?_ | (intros;omega) | (intros;simp_all;done)
 rintro r s ⟨TB,TR,TL,XB',b,rfl,rfl,C,p,z,y,u⟩
 rw [Am];simp +decide only [go_sem]
 refine ⟨⟨TB,TR,TL⟩,⟨XB',[],[]⟩,rfl,by simp [St.ext],?_⟩
 cases b with
 | true=>exact .inl (by have:=y rfl;simpa [ID] using this)
 | false=>exact .inr (u rfl)
end Go.Proofs.YtgpmlelfkjfbiaaGreatDoor
