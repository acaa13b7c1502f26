/-
  Part 2 of the proof: rules and walks that the claim's last text uses.
-/
import Derived.Attr
import Derived.Ground.Names2Prog
import Derived.Ground.NamesProg
import Derived.Ground.SlgnProg
import Derived.Ground.SlsfProg
import Derived.OrdersIn
import Derived.RangeFuncIn
import Derived.Shelf.LaysM
import Derived.Shelf.Small.Bits
import Derived.Shelf.Small.Strs
import Derived.Shelf.Small.Utf8
import Derived.Shelf.Strconv.Itoa0
import Derived.Shelf.Strconv.Itoa1
import Derived.Shelf.Strconv.Itoa2
import Derived.Shelf.Strconv.Itoa3
import Derived.Shelf.Strings.AsciiSet
import Derived.Shelf.Strings.Cut
import Derived.Shelf.Strings.IndexAny
import Derived.Shelf.Strings.IndexAnyAll
import Derived.Shelf.Strings.Repeat
import Derived.Shelf.Strings.Runes
import Derived.Shelf.Strings.Search1
import Derived.Shelf.Strings.Search2
import Derived.Shelf.Strings.Shaped
import Derived.Shelf.Unicode.ValidAny
import Derived.StillTail
import Derived.Test.YtmcnjijeocmkgaaGreatDoorProg
import Derived.Test.YtmcnjijeocmkgaaGreatDoorSy1
set_option linter.unusedSimpArgs false
set_option linter.unusedVariables false
set_option maxRecDepth 100000
set_option maxHeartbeats 4000000
namespace Go.Ev
open Go Go.RowKit
def Marked (W0:World) (ds:List Deferred) (w:World):Prop :=
 ∃ Ds:List Nat,Ds.Nodup∧ds=Ds.map (fun D=>{ target := .collected D,args := #[] })∧∀ D∈Ds,W0.heap.size≤D∧w.heap[D]? = some (.deferred (some []))
abbrev AQ:=Exit→Env→St→Prop
structure At (w0:World) (n:Nat) (M0:Mem) (W0:World) (e:Env) (st:St) (a:Act) (w:World) (M:Mem):Prop where
 rel:Rel w0 n M e st a w
 ext:Ext w0 M0 W0 M w
 marks:Marked W0 a.defers w
def Zlo (w0:World) (n:Nat) (M0:Mem) (W0:World) (Q:AQ) (x:Exit) (a':Act) (w':World):Prop :=
 ∃ M' e' st',At w0 n M0 W0 e' st' a' w' M'∧Q x e' st'
def F3 (P:Program) (w0:World) (n:Nat) (M0:Mem) (W0:World) (ro:Option Nat) (c:Code) (Q:AQ) (e:Env) (st:St):Prop :=
 ∀ m M a w,At w0 n M0 W0 e st a w M→c.wpIn (FW ro) m P (Zlo w0 n M0 W0 Q) a w
def YP (K:Env→St→Prop) (Q:AQ):AQ
 | .normal,e,st=>K e st
 | x,e,st=>Q x e st
def Wn (id:Nat) (Q:AQ):AQ
 | .exit i,e,st=>if i=id then Q .normal e st else Q (.exit i) e st
 | x,e,st=>Q x e st
section
variable {P:Program} {w0:World} {n:Nat} {M0:Mem} {W0:World} {ro:Option Nat} {Q:AQ} {e:Env} {st:St}
theorem Zgt {c:Code} {Q':AQ} (h:F3 P w0 n M0 W0 ro c Q e st) (hq:∀ x e s,Q x e s→Q' x e s):F3 P w0 n M0 W0 ro c Q' e st :=
 fun m M a w d=>wpIn_mono (h m M a w d) fun _ _ _ ⟨M',g,i,f,b⟩=>⟨M',g,i,f,hq _ _ _ b⟩
theorem At.sub {M:Mem} {a:Act} {w:World} {e':Env} (h:At w0 n M0 W0 e st a w M) (hs:Zfl e' e):At w0 n M0 W0 e' st a w M:=⟨h.rel.sub hs,h.ext,h.marks⟩
theorem Marked.later {M M':Mem} {ds:List Deferred} {w w':World} (h:Marked W0 ds w) (hx:Ext w0 M w M' w') (hl:RelSt w0 M st w):Marked W0 ds w':=by
 obtain ⟨Ds,f,d,b⟩:=h
 refine ⟨Ds,f,d,fun D a=>⟨(b D a).1,hx.objs D _ (b D a).2 rfl fun k g e=>?_⟩⟩
 have c:k<st.loops.length:=by rw [←hl.loop.NL];exact g
 obtain ⟨_,r,hr,_⟩:=hl.loop.record k _ (List.getElem?_eq_getElem c)
 rw [e,(b D a).2] at hr
 cases hr
theorem Jf {c:Code} (e':Env) (h:F3 P w0 n M0 W0 ro c Q e' st) (hs:Zfl e' e):F3 P w0 n M0 W0 ro c Q e st:=fun m M a w b=>h m M a w (b.sub hs)
theorem Ax (c:Nat) (L:List Nat) {id:Nat} {l:List Oper} (h:X9 P w0 n false l (fun e' st'=>Q .normal (EY L e') st') c l e st):F3 P w0 n M0 W0 ro (.region id l.toArray false) Q e st:=by
 intro m M a w b
 refine wpIn_region_lit (UH ro m false l _ _ c l e st a w M b.rel h fun e' st' k o i j g d f=>⟨i,_,_,⟨g.sub (Dx L _),b.ext.trans d,?_⟩,j⟩)
 rw [f]
 exact b.marks.later d b.rel.st
theorem Dj (h:Q .normal e st):F3 P w0 n M0 W0 ro .skip Q e st:=fun _ M _ _ a=>wpIn_skip ⟨M,e,st,a,h⟩
theorem LK {id:Nat} (h:Q (.exit id) e st):F3 P w0 n M0 W0 ro (.exit id) Q e st:=fun _ M _ _ a=>wpIn_exit ⟨M,e,st,a,h⟩
theorem Df (h:Q .ret e st):F3 P w0 n M0 W0 ro .ret Q e st:=fun _ M _ _ a=>wpIn_ret ⟨M,e,st,a,h⟩
theorem An {x y:Code} (h:∀ K:Env→St→Prop,(∀ e s,F3 P w0 n M0 W0 ro y Q e s→K e s)→F3 P w0 n M0 W0 ro x (YP K Q) e st):F3 P w0 n M0 W0 ro (.seq x y) Q e st:=by
 intro m M a w g
 refine wpIn_seq (wpIn_mono (h (F3 P w0 n M0 W0 ro y Q) (fun _ _ h=>h) m M a w g) ?_)
 rintro ex d f ⟨M',i,j,c,b⟩
 cases ex with
 | normal=>exact b m M' d f c
 | _=>exact ⟨M',i,j,c,b⟩
theorem AA {x y:Code} (I:Env→St→Prop) (hx:∀ K:Env→St→Prop,(∀ e s,I e s→K e s)→F3 P w0 n M0 W0 ro x (YP K Q) e st) (hy:∀ e s,I e s→F3 P w0 n M0 W0 ro y Q e s):F3 P w0 n M0 W0 ro (.seq x y) Q e st :=
 An fun K a=>Zgt (hx I fun _ _ h=>h) fun ex e s h=>by
  cases ex with
  | normal=>exact a e s (hy e s h)
  | _=>exact h
theorem Ao {id:Nat} {c:Code} (h:F3 P w0 n M0 W0 ro c (Wn id Q) e st):F3 P w0 n M0 W0 ro (.block id c) Q e st:=by
 intro m M a w j
 refine wpIn_block (wpIn_mono (h m M a w j) ?_)
 rintro ex k l ⟨M',f,g,d,b⟩
 cases ex with
 | exit i =>
  simp only [Wn] at b
  simp only [Exit.inBlock]
  split at b<;>rename_i hc
  ·rw [Ah hc];exact ⟨M',f,g,d,b⟩
  ·rw [Ai hc];exact ⟨M',f,g,d,b⟩
 | _=>exact ⟨M',f,g,d,b⟩
theorem Di {c:Operand} {x y:Code} (b:Bool) (hc:Ba e true c) (hb:AD e c = .val (.bool b)) (ht:b=true→F3 P w0 n M0 W0 ro x Q e st) (hf:b=false→F3 P w0 n M0 W0 ro y Q e st):F3 P w0 n M0 W0 ro (.cond c x y) Q e st:=by
 intro m M a w d
 have hv:=BE d.rel hc
 rw [hb] at hv
 have ev:a.eval c = .bool b:=hv.val_inv.1
 exact wpIn_cond_split ev (fun h=>ht h m M a w d) (fun h=>hf h m M a w d)
theorem PP (p:Nat→Prop) (h:∃ k,p k):∃ k,p k∧∀ m,p m→k≤m:=by
 obtain ⟨k,b⟩:=h
 induction k using Nat.strongRecOn with
 | _ k ih =>
  by_cases c:∃ m,m<k∧p m
  ·obtain ⟨m,a,e⟩:=c
   exact ih m a e
  ·exact ⟨k,b,fun m d=>by
    by_cases c':m<k
    ·exact absurd ⟨m,c',d⟩ c
    ·omega⟩
theorem AL {c:Code} (I:Nat→Env→St→Prop) (k0:Nat) (h0:I k0 e st) (round:∀ k e s,I k e s→∀ K:Env→St→Prop,(∀ k' e' s',k'<k→I k' e' s'→K e' s')→F3 P w0 n M0 W0 ro c (YP K Q) e s):F3 P w0 n M0 W0 ro (.loop c) Q e st:=by
 intro m M a w x
 let J:Nat→Act→World→Prop:=fun k b d=>∃ M' e' s',At w0 n M0 W0 e' s' b d M'∧I k e' s'
 let μ:Act→World→Nat:=fun b d=>by
  classical exact if h:∃ k,J k b d then Classical.choose (PP (fun k=>J k b d) h) else 0
 have p:∀ b d k,J k b d→J (μ b d) b d∧μ b d≤k:=by
  intro b d k i
  have f:∃ k,J k b d:=⟨k,i⟩
  have:=Classical.choose_spec (PP (fun k=>J k b d) f)
  have e:μ b d=Classical.choose (PP (fun k=>J k b d) f):=by simp only [μ,dif_pos f]
  rw [e]
  exact ⟨this.1,this.2 k i⟩
 refine wpIn_loop (fun b d=>∃ k,J k b d) μ ⟨k0,M,e,st,x,h0⟩ ?_
 rintro a1 q ⟨k,i⟩
 obtain ⟨⟨M1,u,y,v,z⟩,_⟩:=p a1 q k i
 refine wpIn_mono (round _ u y z (fun e' s'=>∃ k',k'<_∧I k' e' s') (fun k' _ _ g t=>⟨k',g,t⟩) m M1 a1 q v) ?_
 rintro ex b d ⟨M',e',s',g,o⟩
 cases ex with
 | normal =>
  obtain ⟨k',j,r⟩:=o
  have l:J k' b d:=⟨M',e',s',g,r⟩
  exact ⟨⟨k',l⟩,Nat.lt_of_le_of_lt (p b d k' l).2 j⟩
 | _=>exact ⟨M',e',s',g,o⟩
def Own.under (nr:Nat):Own→Prop
 | .row id=>id<nr
 | _=>True
inductive Under (nb nr nl:Nat):AV→Prop
 | val (v:Value):Under nb nr nl (.val v)
 | list {xs:List AV} {o:Own} (h:∀ x∈xs,Under nb nr nl x) (ho:o.under nr):Under nb nr nl (.list xs o)
 | elem {x:AV} {k:Nat} (h:Under nb nr nl x):Under nb nr nl (.elem x k)
 | box {l k:Nat} (h:l<nb):Under nb nr nl (.box l k)
 | clo {f:FuncId} {xs:List AV} (h:∀ x∈xs,Under nb nr nl x):Under nb nr nl (.clo f xs)
 | agg {xs:List AV} (h:∀ x∈xs,Under nb nr nl x):Under nb nr nl (.agg xs)
 | tup {xs:List AV} (h:∀ x∈xs,Under nb nr nl x):Under nb nr nl (.tup xs)
 | yld {k:Nat} (h:k<nl):Under nb nr nl (.yld k)
 | vec {id ver o n:Nat} (h:id<nr):Under nb nr nl (.vec id ver o n)
 | vel {id ver o:Nat} (h:id<nr):Under nb nr nl (.vel id ver o)
theorem Zeo {nb nr nl:Nat} (v:Value):Under nb nr nl (.val v)↔True:=iff_true_intro (.val v)
theorem W5 {nb nr nl:Nat} {xs:List AV} {o:Own}:Under nb nr nl (.list xs o)↔(∀ x∈xs,Under nb nr nl x)∧o.under nr:=⟨fun h=>by cases h with | list a b=>exact ⟨a,b⟩,fun h => .list h.1 h.2⟩
theorem Xw {nb nr nl:Nat} {x:AV} {k:Nat}:Under nb nr nl (.elem x k)↔Under nb nr nl x:=⟨fun h=>by cases h;assumption,.elem⟩
theorem Y9 {nb nr nl l k:Nat}:Under nb nr nl (.box l k)↔l<nb:=⟨fun h=>by cases h;assumption,.box⟩
theorem UI {nb nr nl:Nat} {f:FuncId} {xs:List AV}:Under nb nr nl (.clo f xs)↔∀ x∈xs,Under nb nr nl x:=⟨fun h=>by cases h;assumption,.clo⟩
theorem Zc {nb nr nl:Nat} {xs:List AV}:Under nb nr nl (.agg xs)↔∀ x∈xs,Under nb nr nl x:=⟨fun h=>by cases h;assumption,.agg⟩
theorem Y4 {nb nr nl:Nat} {xs:List AV}:Under nb nr nl (.tup xs)↔∀ x∈xs,Under nb nr nl x:=⟨fun h=>by cases h;assumption,.tup⟩
theorem YF {nb nr nl k:Nat}:Under nb nr nl (.yld k)↔k<nl:=⟨fun h=>by cases h;assumption,.yld⟩
theorem YZ {nb nr nl id ver o n:Nat}:Under nb nr nl (.vec id ver o n)↔id<nr:=⟨fun h=>by cases h;assumption,.vec⟩
theorem Za {nb nr nl id ver o:Nat}:Under nb nr nl (.vel id ver o)↔id<nr:=⟨fun h=>by cases h;assumption,.vel⟩
def Mem.cut (M:Mem) (nb nr nl:Nat):Mem:={ M with N:=nb,NR:=nr,NL:=nl }
theorem R.cut {M:Mem} {w:World} {v:Value} {x:AV} {nb nr nl:Nat} (h:R w0 M w v x) (hu:Under nb nr nl x):R w0 (M.cut nb nr nl) w v x:=by
 induction h with
 | flat h=>exact .flat h
 | agg hl c _ ih=>exact .agg hl c fun i a b=>ih i a b (Zc.1 hu _ (List.getElem_mem _))
 | tup hl _ ih=>exact .tup hl fun i a b=>ih i a b (Y4.1 hu _ (List.getElem_mem _))
 | nil ho=>exact .nil ho
 | emp ho=>exact .emp ho
 | @list b off cap xs o sz us hc hm hcell _ ho ih =>
  obtain ⟨c,e⟩:=W5.1 hu
  refine .list sz us hc hm hcell (fun i d=>ih i d (c _ (List.getElem_mem _))) ?_
  cases o with
  | none=>trivial
  | full=>exact ho
  | seed=>exact ho
  | row id=>exact ⟨e,ho.2⟩
 | elem u k hcell _ ih=>exact .elem u k hcell (ih (Xw.1 hu))
 | box _=>exact .box (M:=M.cut nb nr nl) (Y9.1 hu)
 | clo hl _ ih=>exact .clo hl fun i a b=>ih i a b (UI.1 hu _ (List.getElem_mem _))
 | yld _=>exact .yld (M:=M.cut nb nr nl) (YF.1 hu)
 | vec d hv h=>exact .vec (M:=M.cut nb nr nl) (YZ.1 hu) hv h
 | vel d hv h=>exact .vel (M:=M.cut nb nr nl) (Za.1 hu) hv h
theorem R.under {M:Mem} {w:World} {v:Value} {x:AV} (h:R w0 M w v x):Under M.N M.NR M.NL x:=by
 have c:∀ {cs:Array Value} {xs:List AV},cs.size=xs.length→(∀ i (_:i<cs.size) (h2:i<xs.length),Under M.N M.NR M.NL xs[i])→∀ x∈xs,Under M.N M.NR M.NL x:=by
  intro cs xs d h x e
  obtain ⟨i,a,rfl⟩:=List.mem_iff_getElem.1 e
  exact h i (d▸a) a
 induction h with
 | flat h=>exact .val _
 | agg d h1 _ ih=>exact .agg (c d ih)
 | tup d _ ih=>exact .tup (c d ih)
 | nil ho=>exact .list (fun _ h=>by cases h) (by rename_i o;cases o<;>first | trivial | exact absurd rfl (ho _))
 | emp ho=>exact .list (fun _ h=>by cases h) (by rename_i o;cases o<;>first | trivial | exact absurd rfl (ho _))
 | @list b off cap xs o sz us hc hm hcell _ ho ih =>
  refine .list (fun x e=>?_) ?_
  ·obtain ⟨i,a,rfl⟩:=List.mem_iff_getElem.1 e
   exact ih i a
  ·cases o with
   | row id=>exact ho.1
   | _=>trivial
 | elem u k hcell _ ih=>exact .elem ih
 | box h=>exact .box h
 | clo d _ ih=>exact .clo (c d ih)
 | yld h=>exact .yld h
 | vec a _ _=>exact .vec a
 | vel a _ _=>exact .vel a
def JX (nb nr nl:Nat):Env→Prop
 | []=>True
 | (_,c,v)::e=>(c=true→Under nb nr nl v)∧JX nb nr nl e
theorem Xp {nb nr nl:Nat}:∀ {e:Env} {s:Nat} {x:Bool × AV},JX nb nr nl e→Eu e s=some x→x.1=true→Under nb nr nl x.2
 | (k,c,v)::e,s,x,h,hl,ht=>by
  simp only [Eu] at hl
  by_cases q:k=s
  ·rw [Ah q] at hl;cases hl;exact h.1 ht
  ·rw [Ai q] at hl;exact Xp h.2 hl ht
def St.cut (s:St) (nb nr nl:Nat):St:=⟨s.boxes.take nb,s.rows.take nr,s.loops.take nl⟩
def RowA.cells:RowA→List AV
 | .vec _ _ cs=>cs
 | _=>[]
structure Calm (nb nr nl:Nat) (s:St):Prop where
 rows:∀ r∈s.rows,∀ x∈r.cells,Under nb nr nl x
 boxes:∀ cs∈s.boxes,∀ x∈cs,Under nb nr nl x
 loops:∀ la∈s.loops,∀ k x,Eu la.e k=some x→x.1=true→Under nb nr nl x.2
theorem RelSt.calm {M:Mem} {w:World} (h:RelSt w0 M st w):Calm st.boxes.length st.rows.length st.loops.length st where
 rows:=by
  intro r o x hx
  obtain ⟨l,a,rfl⟩:=List.mem_iff_getElem.1 o
  have m:=h.row l _ (List.getElem?_eq_getElem a)
  cases hrow:st.rows[l] with
  | vec ver sz cs =>
   rw [hrow] at m hx
   obtain ⟨_,_,_,_,_,_,_,c,_,_,_,b,_,j⟩:=m
   obtain ⟨i,d,rfl⟩:=List.mem_iff_getElem.1 hx
   have g:i<cs.length:=d
   have:=(j i (by omega) g).under
   rwa [h.N,h.NR,h.loop.NL] at this
  | _=>rw [hrow] at hx;cases hx
 boxes:=by
  intro cs e x hx
  obtain ⟨l,a,rfl⟩:=List.mem_iff_getElem.1 e
  obtain ⟨_,_,c,_,_,b,_,j⟩:=h.box l _ (List.getElem?_eq_getElem a)
  obtain ⟨i,d,rfl⟩:=List.mem_iff_getElem.1 hx
  have:=(j i (b▸d) d).under
  rwa [h.N,h.NR,h.loop.NL] at this
 loops:=by
  intro q f k x hx p
  obtain ⟨l,a,rfl⟩:=List.mem_iff_getElem.1 f
  obtain ⟨_,r,_,_,_,_,_,_,_,n⟩:=h.loop.record l _ (List.getElem?_eq_getElem a)
  have:=n k x hx
  unfold entryOk at this
  rw [Ah p] at this
  have:=this.under
  rwa [h.N,h.NR,h.loop.NL] at this
theorem entryOk.cut {M:Mem} {w:World} {nb nr nl:Nat} {v:Value} {x:Bool × AV} (h:entryOk w0 M w v x) (hu:x.1=true→Under nb nr nl x.2):entryOk w0 (M.cut nb nr nl) w v x:=by
 unfold entryOk at *
 split
 ·rename_i c;rw [Ah c] at h;exact h.cut (hu c)
 ·rename_i c;rw [Ai c] at h;exact h
theorem RelSt.cut {M:Mem} {w:World} (h:RelSt w0 M st w) {nb nr nl:Nat} (h1:nb≤st.boxes.length) (h2:nr≤st.rows.length) (h3:nl≤st.loops.length) (hc:Calm nb nr nl (st.cut nb nr nl)) :
  RelSt w0 (M.cut nb nr nl) (st.cut nb nr nl) w where
 below:=h.below
 N:=by simp [Mem.cut,St.cut];omega
 NR:=by simp [Mem.cut,St.cut];omega
 top:=h.top
 inj:=fun l G k F e=>h.inj l G (by have:=h.N;simp only [Mem.cut] at k;omega) (by have:=h.N;simp only [Mem.cut] at F;omega) e
 box:=fun l cs f=>by
  simp only [St.cut] at f
  have C:l<nb:=by
   have:=(Aj.1 f).1
   simp at this;omega
  have a:cs∈st.boxes.take nb:=List.mem_of_getElem? f
  rw [List.getElem?_take_of_lt C] at f
  obtain ⟨a1,a2,c,q,a3,a4,a5,a6⟩:=h.box l cs f
  exact ⟨a1,a2,c,q,a3,a4,a5,fun i p E=>(a6 i p E).cut (hc.boxes cs a _ (List.getElem_mem _))⟩
 row:=fun id x b=>by
  simp only [St.cut] at b
  have D:id<nr:=by
   have:=(Aj.1 b).1
   simp at this;omega
  have a:x∈st.rows.take nr:=List.mem_of_getElem? b
  rw [List.getElem?_take_of_lt D] at b
  have d:=h.row id x b
  have g:nb≤M.N:=by have:=h.N;omega
  cases x with
  | grow n sz =>
   obtain ⟨a1,a2,a3,a4,a5,a6,a7,m⟩:=d
   exact ⟨a1,a2,a3,a4,fun l f=>a5 l (Nat.lt_of_lt_of_le f g),a6,a7,m⟩
  | vec v sz cs =>
   obtain ⟨a1,a2,a3,a4,a5,a6,a7,c,q,m,y,p,E,H⟩:=d
   exact ⟨a1,a2,a3,a4,fun l f=>a5 l (Nat.lt_of_lt_of_le f g),a6,a7,c,q,m,y,p,E,fun i h1 h2=>(H i h1 h2).cut (hc.rows _ a _ (List.getElem_mem _))⟩
  | dead v =>
   obtain ⟨a1,a2,a3,a4⟩:=d
   exact ⟨a1,a2,fun l f=>a3 l (Nat.lt_of_lt_of_le f g),a4⟩
 rowinj:=fun i j u o e=>h.rowinj i j (by have:=h.NR;simp only [Mem.cut] at u;omega) (by have:=h.NR;simp only [Mem.cut] at o;omega) e
 loop:={
  NL:=by simp [Mem.cut,St.cut];omega
  inj:=fun i j u o e=>h.loop.inj i j (by have:=h.loop.NL;simp only [Mem.cut] at u;omega) (by have:=h.loop.NL;simp only [Mem.cut] at o;omega) e
  record:=fun k z b=>by
   simp only [St.cut] at b
   have t:k<nl:=by
    have:=(Aj.1 b).1
    simp at this;omega
   have a:z∈st.loops.take nl:=List.mem_of_getElem? b
   rw [List.getElem?_take_of_lt t] at b
   obtain ⟨a1,r,a2,a3,a4,a5,a6,a7,m,y⟩:=h.loop.record k z b
   exact ⟨a1,r,a2,a3,a4,a5,a6,a7,m,fun s x hs=>(y s x hs).cut (hc.loops z a s x hs)⟩ }
theorem Ext.cut {M1:Mem} {w1 w2:World} {M2:Mem} (h:Ext w0 M1 w1 M2 w2) {nb nr nl:Nat} (h1:M1.N≤nb) (h2:M1.NR≤nr) (h3:M1.NL≤nl) (h4:nl≤M2.NL):Ext w0 M1 w1 (M2.cut nb nr nl) w2 :=
 ⟨h1,h.bx,h2,h.rows,h.cell,h.size,h3,h.lb,fun k a b=>h.lnew k a (Nat.lt_of_lt_of_le b h4),h.objs⟩
theorem Rel.cut {M:Mem} {a:Act} {w:World} (h:Rel w0 n M e st a w) {nb nr nl:Nat} (h1:nb≤st.boxes.length) (h2:nr≤st.rows.length) (h3:nl≤st.loops.length) (hc:Calm nb nr nl (st.cut nb nr nl)) (he:JX nb nr nl e) :
  Rel w0 n (M.cut nb nr nl) e (st.cut nb nr nl) a w :=
 ⟨h.st.cut h1 h2 h3 hc,h.size,fun s x hs=>(h.env s x hs).cut (Xp he hs)⟩
theorem V2 {c:Code} (nb nr nl:Nat) (h1:nb≤st.boxes.length) (h2:nr≤st.rows.length) (h3:nl≤st.loops.length) (k1:M0.N≤nb) (k2:M0.NR≤nr) (k3:M0.NL≤nl) (hc:Calm nb nr nl (st.cut nb nr nl)) (he:JX nb nr nl e)
  (h:F3 P w0 n M0 W0 ro c Q e (st.cut nb nr nl)):F3 P w0 n M0 W0 ro c Q e st :=
 fun m M a w b=>h m _ a w ⟨b.rel.cut h1 h2 h3 hc he,b.ext.cut k1 k2 k3 (by rw [b.rel.st.loop.NL];exact h3),b.marks⟩
end
section
variable {P:Program} {w0:World} {n:Nat} {M:Mem} {e:Env} {st:St} {a:Act} {w:World}
def Xs (P:Program) (e:Env) (st:St):ResultVar→Prop
 | .tmp t=>Ba e true (.tmp t)
 | .cell t ty=>(BB P e true st (.load ty (.tmp t))).1
def ZeB (P:Program) (e:Env) (st:St):ResultVar→AV
 | .tmp t=>(AD e (.tmp t)).pub
 | .cell t ty=>(BB P e true st (.load ty (.tmp t))).2.1.pub
def ZaP:List AV→AV
 | [x]=>x
 | l => .tup l
def Zfx (P:Program) (rs:List ResultVar) (Post:AV→St→Prop):AQ:=fun x e st =>
 match x with
 | .normal | .ret=>(∀ r∈rs,Xs P e st r)∧Post (ZaP (rs.map (ZeB P e st))) st
 | _=>False
theorem We (h:Rel w0 n M e st a w) (t:TypeId) (x:Operand) (hob:(BB P e true st (.load t x)).1) :
  ∃ v,(do loadVar t (← asAddr (a.eval x)):Sem Value).run P w = .ok v w∧R w0 M w v (BB P e true st (.load t x)).2.1:=by
 unfold BB at hob ⊢
 cases ht:MZ P t with
 | none=>simp [ht] at hob
 | some p =>
  obtain ⟨sz,r⟩:=p
  simp only [ht] at hob ⊢
  obtain ⟨D,z,k,q⟩:=hob
  obtain ⟨b,o,ev,g,m⟩:=ZbG h.st (BE h D) z
  rw [ev]
  have d:∀ j,j<sz→∃ u,w.cell? ⟨b,o+FV (AD e x)+j,none⟩=some u∧∀ c,R w0 M w u ((BK st (AD e x))[FV (AD e x)+j]'c):=by
   intro j c
   obtain ⟨u,s,y⟩:=m (FV (AD e x)+j) (by omega)
   exact ⟨u,by rw [←s,Nat.add_assoc],fun _=>y⟩
  let f:Nat→Value:=fun j=>((w.cell? ⟨b,o+FV (AD e x)+j,none⟩).getD undef)
  have C:∀ j,j<sz→w.cell? ⟨b,o+FV (AD e x)+j,none⟩=some (f j):=fun j c=>by
   obtain ⟨u,i,_⟩:=d j c
   simp [f,i]
  refine ⟨if r then .agg ((List.range sz).map f).toArray else f 0,?_,(Ul g k q (fun j c=>?_))⟩
  ·simp only [asAddr,Sem.run_bind,Sem.run_pure,Result.andThen_ok]
   exact TM ht C q
  ·by_cases hjs:j<sz
   ·obtain ⟨u,i,l⟩:=d j hjs
    have:f j=u:=by simp [f,i]
    rw [this]
    exact l c
   ·obtain ⟨u,i,l⟩:=m (FV (AD e x)+j) c
    have:f j=u:=by simp [f,Nat.add_assoc,i]
    rw [this]
    exact l
theorem Qw {α:Type} (f:α→Sem Value) (g:α→Value):∀ (l:List α),(∀ x∈l,(f x).run P w = .ok (g x) w)→(l.mapM f).run P w = .ok (l.map g) w
 | [],_=>by simp
 | x::l,h=>by simp [h x (by simp),Qw f g l (fun y a=>h y (by simp [a]))]
theorem Xg {V:ResultVar→AV} (rs:List ResultVar) (g:ResultVar→Value) (hg:∀ r∈rs,R w0 M w (g r) (V r)) :
  R w0 M w (if h:(rs.map g).toArray.size=1 then (rs.map g).toArray[0] else .tuple (rs.map g).toArray) (ZaP (rs.map V)):=by
 match rs,hg with
 | [],_=>exact .tup rfl (fun i b _=>absurd b (by simp))
 | [r],hg=>exact (hg r (by simp))
 | r::r'::l,hg =>
  have:¬ ((List.map g (r::r'::l)).toArray.size=1):=by simp
  rw [dif_neg this]
  refine .tup (by simp) (fun i b a=>?_)
  have e:i<(r::r'::l).length:=by simpa using a
  have d:(List.map g (r::r'::l)).toArray[i]=g (r::r'::l)[i]:=by rw [List.getElem_toArray,List.getElem_map]
  have c:(List.map V (r::r'::l))[i]'a=V (r::r'::l)[i]:=by rw [List.getElem_map]
  have:=(hg (r::r'::l)[i] (List.getElem_mem _))
  rw [←d,←c] at this
  exact this
theorem ZeS (h:Rel w0 n M e st a w) {fn:Func} {rs:List ResultVar} (hfn:fn.results=rs.toArray) (hrs:∀ r∈rs,Xs P e st r) :
  ∃ v,(results fn a.tmps).run P w = .ok v w∧R w0 M w v (ZaP (rs.map (ZeB P e st))):=by
 let f:ResultVar→Sem Value:=fun
  | .tmp t=>pure (a.tmps.getD t undef)
  | .cell b t=>do loadVar t (← asAddr (a.tmps.getD b undef))
 have d:∀ r∈rs,∃ v,(f r).run P w = .ok v w∧R w0 M w v (ZeB P e st r):=by
  intro r c
  have:=hrs r c
  cases r with
  | tmp t=>exact ⟨_,rfl,(BE h (x := .tmp t) this).pub⟩
  | cell b t =>
   obtain ⟨v,m,k⟩:=We h t (.tmp b) this
   exact ⟨v,m,k.pub⟩
 classical
 let g:ResultVar→Value:=fun r=>if c:r∈rs then Classical.choose (d r c) else undef
 have j:∀ r∈rs,(f r).run P w = .ok (g r) w∧R w0 M w (g r) (ZeB P e st r):=by
  intro r c
  have:=Classical.choose_spec (d r c)
  have e:g r=Classical.choose (d r c):=by simp only [g,dif_pos c]
  rw [e];exact this
 have l:(fn.results.mapM f).run P w = .ok ((rs.map g).toArray) w:=by
  rw [hfn,Array.mapM_eq_mapM_toList]
  simp only [Sem.run_map,Qw f g rs (fun r c=>(j r c).1),Result.andThen_ok]
 have i:(results fn a.tmps).run P w = .ok (if h:(rs.map g).toArray.size=1 then (rs.map g).toArray[0] else .tuple (rs.map g).toArray) w:=by
  unfold results
  simp only [Sem.run_bind]
  refine Eq.trans (congrArg (fun x=>Result.andThen x _) l) ?_
  simp only [Result.andThen_ok,Sem.run_pure]
 refine ⟨_,i,?_⟩
 exact Xg rs g fun r c=>(j r c).2
def AG:Nat→List AV→Env
 | _,[]=>[]
 | k,x::l=>(k,true,x)::AG (k+1) l
theorem SZ:∀ (l:List AV) (k s:Nat) (x:Bool × AV),Eu (AG k l) s=some x→∃ i,s=k+i∧∃ y,l[i]? = some y∧x=(true,y)
 | [],_,_,_,h=>by cases h
 | y::l,k,s,x,h=>by
  simp only [AG,Eu] at h
  by_cases c:k=s
  ·rw [Ah c] at h;cases h;exact ⟨0,c.symm,y,rfl,rfl⟩
  ·rw [Ai c] at h
   obtain ⟨i,d,z,b,a⟩:=SZ l (k+1) s x h
   exact ⟨i+1,by omega,z,b,a⟩
theorem R.same {M:Mem} {w w':World} (hs:∀ (b off:Nat) (v:Value),w.cell? ⟨b,off,none⟩=some v→w'.cell? ⟨b,off,none⟩=some v) {v:Value} {x:AV} (h:R w0 M w v x):R w0 M w' v x:=by
 induction h with
 | flat h=>exact .flat h
 | agg hl h1 _ ih=>exact .agg hl h1 ih
 | tup hl _ ih=>exact .tup hl ih
 | nil ho=>exact .nil ho
 | emp ho=>exact .emp ho
 | @list b off cap xs o sz us hc hm hcell _ ho ih =>
  refine .list sz us hc hm (fun i a=>⟨(hcell i a).1,fun j c=>⟨((hcell i a).2 j c).1,?_⟩⟩) ih ho
  obtain ⟨v,hv⟩:=Rl (u:=us i) (j:=j) (by rw [(hcell i a).1];exact c)
  exact (hs _ _ _ ((((hcell i a).2 j c).2).trans hv)).trans hv.symm
 | @elem b off x u k hcell _ ih =>
  refine .elem u k (fun j c=>⟨(hcell j c).1,?_⟩) ih
  obtain ⟨v,hv⟩:=Rl (u:=u) (j:=j) c
  exact (hs _ _ _ ((hcell j c).2.trans hv)).trans hv.symm
 | box hl=>exact .box hl
 | clo hl _ ih=>exact .clo hl ih
 | yld hk=>exact .yld hk
 | vec a hv h=>exact .vec a hv h
 | vel a hv h=>exact .vel a hv h
theorem QT {w:World} {D:Nat} {o o':Obj} (hD:w.heap[D]? = some o) (ho:o.isCells=false) {b off:Nat} {v:Value} (h:w.cell? ⟨b,off,none⟩=some v):(w.putObj D o').cell? ⟨b,off,none⟩=some v:=by
 by_cases c:b=D
 ·subst c
  unfold World.cell? at h
  simp only [hD] at h
  cases o with
  | cells c ty fz=>simp [Obj.isCells] at ho
  | _=>simp at h
 ·unfold World.cell? at h ⊢
  simp only [World.putObj_heap_other c] at h ⊢
  exact h
theorem entryOk.same {M:Mem} {w w':World} (hs:∀ (b off:Nat) (v:Value),w.cell? ⟨b,off,none⟩=some v→w'.cell? ⟨b,off,none⟩=some v) {v:Value} {x:Bool × AV} (h:entryOk w0 M w v x):entryOk w0 M w' v x:=by
 unfold entryOk at *
 split
 ·rename_i c;rw [Ah c] at h;exact h.same hs
 ·rename_i c;rw [Ai c] at h;exact h
theorem RowOk.same {M:Mem} {w w':World} {id:Nat} {x:RowA} (h:RowOk w0 M w id x) (hs:∀ (b off:Nat) (v:Value),w.cell? ⟨b,off,none⟩=some v→w'.cell? ⟨b,off,none⟩=some v)
  (hc:∀ {b:Nat} {c:Array Value} {ty:TypeId},w.heap[b]? = some (.cells c ty (0,0))→w'.heap[b]? = some (.cells c ty (0,0))) (hz:w.heap.size≤w'.heap.size):RowOk w0 M w' id x:=by
 cases x with
 | grow n sz =>
  obtain ⟨a1,a2,a3,a4,a5,a6,a7,c,ty,a,d⟩:=h
  exact ⟨a1,a2,a3,a4,a5,a6,a7,c,ty,hc a,d⟩
 | vec v sz cs =>
  obtain ⟨a1,a2,a3,a4,a5,a6,a7,c,ty,a,d,k,j,f⟩:=h
  exact ⟨a1,a2,a3,a4,a5,a6,a7,c,ty,hc a,d,k,j,fun i g e=>(f i g e).same hs⟩
 | dead v =>
  obtain ⟨a1,a2,a3,a4⟩:=h
  exact ⟨a1,a2,a3,Nat.lt_of_lt_of_le a4 hz⟩
theorem Below.putObj {B D:Nat} {x y:World} (h:Below B x y) (hD:B≤D) (o:Obj):Below B x (y.putObj D o) :=
 h.trans ⟨rfl,rfl,rfl,by simp,fun k a=>World.putObj_heap_other (by omega)⟩
theorem RelSt.putObj {M:Mem} {w:World} (h:RelSt w0 M st w) {D:Nat} {o:Obj} (o':Obj) (hD:w.heap[D]? = some o) (ho:o.isCells=false) (h0:w0.heap.size≤D) (hl:∀ k,k<M.NL→M.lb k≠D):RelSt w0 M st (w.putObj D o'):=by
 have hs:∀ (b a:Nat) (v:Value),w.cell? ⟨b,a,none⟩=some v→(w.putObj D o').cell? ⟨b,a,none⟩=some v:=fun b a v=>QT hD ho
 have n:∀ {b:Nat} {c:Array Value} {d:TypeId},w.heap[b]? = some (.cells c d (0,0))→(w.putObj D o').heap[b]? = some (.cells c d (0,0)):=by
  intro b c d hb
  rw [World.putObj_heap_other (fun e=>by subst e;rw [hD] at hb;cases hb;cases ho)]
  exact hb
 refine ⟨Below.putObj h.below h0 _,h.N,h.NR,fun b hb=>h.top b (by simpa using hb),h.inj,fun l cs g=>?_,fun id x f=>(h.row id x f).same hs n (by simp),h.rowinj,⟨h.loop.NL,h.loop.inj,fun k y f=>?_⟩⟩
 ·obtain ⟨a1,a2,c,d,a3,a4,a5,a6⟩:=h.box l cs g
  exact ⟨a1,a2,c,d,n a3,a4,a5,fun i t q=>(a6 i t q).same hs⟩
 ·have m:k<M.NL:=by rw [h.loop.NL];exact (Aj.1 f).1
  obtain ⟨a1,r,a2,a3,a4,a5,a6,a7,p,u⟩:=h.loop.record k y f
  exact ⟨a1,r,by rw [World.putObj_heap_other (hl k m)];exact a2,a3,a4,a5,a6,a7,p,fun s x j=>(u s x j).same hs⟩
theorem Px {M0:Mem} {W0:World} {fn:Func} {RR:Ending→World→Prop} {m:Nat} {tmps:Array Value}:∀ (Ds:List Nat) (M:Mem) (w:World),Ds.Nodup→(∀ D∈Ds,W0.heap.size≤D∧w.heap[D]? = some (.deferred (some []))) →
  W0.heap.size≥w0.heap.size→RelSt w0 M st w→Ext w0 M0 W0 M w →
  (∀ w',RelSt w0 M st w'→Ext w0 M0 W0 M w'→(∀ v x,R w0 M w v x→R w0 M w' v x)→∃ v,(results fn tmps).run P w' = .ok v w'∧RR (.returned v) w') →
  LeavesInM (FW none) m P fn tmps RR (Ds.map fun D=>{ target := .collected D,args := #[] }) .returning w
 | [],M,w,_,_,_,hr,hx,hk=>hk w hr hx fun _ _ h=>h
 | D::Ds,M,w,hn,hD,hw,hr,hx,hk=>by
  obtain ⟨G,j⟩:=hD D (by simp)
  have q:∀ k,k<M.NL→M.lb k≠D:=by
   intro k n e
   have d:k<st.loops.length:=by rw [←hr.loop.NL];exact n
   obtain ⟨_,r,hr',_⟩:=hr.loop.record k _ (List.getElem?_eq_getElem d)
   rw [e,j] at hr'
   cases hr'
  have hs:∀ (b c:Nat) (v:Value),w.cell? ⟨b,c,none⟩=some v→(w.putObj D (.deferred none)).cell? ⟨b,c,none⟩=some v:=fun b c v=>QT j rfl
  have p:Ext w0 M0 W0 M (w.putObj D (.deferred none)) :=
   ⟨hx.N,hx.bx,hx.NR,hx.rows,fun b c v i l=>let ⟨a,b'⟩:=hx.cell b c v i l;⟨hs _ _ _ a,b'⟩,by have:=hx.size;simpa using this,hx.NL,hx.lb,hx.lnew,fun b o i l u=>by
    have H:b<W0.heap.size:=(Array.getElem?_eq_some_iff.1 i).1
    rw [World.putObj_heap_other (by omega)]
    exact hx.objs b o i l u⟩
  refine ⟨by simp,.inl ⟨D,_,rfl,run_takeDeferred j,?_⟩⟩
  have f:=List.nodup_cons.1 hn
  refine Px Ds M _ f.2 (fun E s=>?_) hw (hr.putObj _ j rfl (by omega) q) p (fun w' y C t=>hk w' y C fun v x h=>t v x (h.same hs))
  obtain ⟨F,z⟩:=hD E (List.mem_cons_of_mem _ s)
  have g:E≠D:=fun e=>f.1 (by rw [←e];exact s)
  exact ⟨F,by rw [World.putObj_heap_other g];exact z⟩
theorem FC {f:FuncId} {fn:Func} {c:Code} {args:List AV} {rs:List ResultVar} {Post:AV→St→Prop} (hf:P.funcs[f]? = some fn) (hb:fn.body=some c) (hrs:fn.results=rs.toArray) (hn:fn.ntmps=n)
  (hen:MU P f) (ha:args.length≤n)
  (h:∀ (M0:Mem) (W0:World),M0.N=st.boxes.length→M0.NR=st.rows.length→M0.NL=st.loops.length→Calm st.boxes.length st.rows.length st.loops.length st→(∀ x∈args,Under st.boxes.length st.rows.length st.loops.length x) →
   F3 P w0 n M0 W0 none c (Zfx P rs Post) (AG 0 args) st):ACalls P w0 f args st Post:=by
 refine ⟨hen,fun M w a b d=>?_⟩
 have G:a.size=args.length:=d.1
 have O:∀ x∈args,Under st.boxes.length st.rows.length st.loops.length x:=by
  intro x Q
  obtain ⟨i,D,rfl⟩:=List.mem_iff_getElem.1 Q
  have:=(d.get (i:=i) (Array.getElem?_eq_getElem (by omega)) (List.getElem?_eq_getElem D)).under
  rwa [b.N,b.NR,b.loop.NL] at this
 have k:Rel w0 n M (AG 0 args) st { tmps:=a++Array.replicate (fn.ntmps-a.size) undef,defers:=[] } w:=by
  refine ⟨b,by simp;omega,fun s x hs=>?_⟩
  obtain ⟨i,j,y,q,rfl⟩:=SZ _ _ _ _ hs
  have D:i<args.length:=(Aj.1 q).1
  have hs':s=i:=by omega
  subst hs'
  simp only [entryOk,if_true]
  have U:(a++Array.replicate (fn.ntmps-a.size) undef).getD s undef=a[s]'(by omega):=by
   simp [Array.getD_eq_getD_getElem?,Array.getElem?_append_left (show s<a.size by omega),Array.getElem?_eq_getElem (show s<a.size by omega)]
  rw [U]
  exact d.get (Array.getElem?_eq_getElem (by omega)) q
 refine VM (n:=0) (callsIn_of_wp_marks hf hb trivial (wpIn_mono (h M w b.N b.NR b.loop.NL b.calm O 0 M _ w ⟨k,.refl _ _ _,[],by simp⟩) ?_))
 rintro ex o z ⟨M',p,m,j,l⟩
 have e:∀ (t:∀ r∈rs,Xs P p m r) (u:Post (ZaP (rs.map (ZeB P p m))) m),
   LeavesInM (FW none) 0 P fn o.tmps (Comes' w0 M w Post) o.defers .returning z:=by
  intro t u
  obtain ⟨Ds,E,H,J⟩:=j.marks
  rw [H]
  refine Px Ds M' z E J b.base_le j.rel.st j.ext fun F C K k3=>?_
  have g:Rel w0 n M' p m o F:=⟨C,j.rel.size,fun s x hs=>by
   have:=j.rel.env s x hs
   unfold entryOk at *
   split
   ·rename_i c;rw [Ah c] at this;exact k3 _ _ this
   ·rename_i c;rw [Ai c] at this;exact this⟩
  obtain ⟨v,q1,q2⟩:=ZeS g hrs t
  exact ⟨v,q1,v,M',_,m,rfl,u,K,C,q2⟩
 cases ex with
 | normal=>exact e l.1 l.2
 | ret=>exact e l.1 l.2
 | _=>exact l.elim
def Zl7 (st:St) (Post:AV→St→Prop) (r:AV) (s:St):Prop :=
 st.boxes.length≤s.boxes.length∧st.rows.length≤s.rows.length∧st.loops.length≤s.loops.length∧Calm st.boxes.length st.rows.length st.loops.length (s.cut st.boxes.length st.rows.length st.loops.length) ∧
  Under st.boxes.length st.rows.length st.loops.length r∧Post r (s.cut st.boxes.length st.rows.length st.loops.length)
theorem ACalls.fin {f:FuncId} {args:List AV} {Post:AV→St→Prop} (h:ACalls P w0 f args st (Zl7 st Post)):ACalls P w0 f args st Post:=by
 refine ⟨h.1,fun M w c a b=>(h.2 M w c a b).mono ?_⟩
 rintro en n ⟨v,M',r,e,j,⟨m,k,d,i,g,l⟩,h3,h4,h5⟩
 exact ⟨v,M'.cut st.boxes.length st.rows.length st.loops.length,r,_,j,l,h3.cut (by have:=a.N;omega) (by have:=a.NR;omega) (by have:=a.loop.NL;omega) (by rw [h4.loop.NL];exact d),h4.cut m k d i,h5.cut g⟩
theorem Zd8 {f:FuncId} {fn:Func} {c:Code} (hf:P.funcs[f]? = some fn) (hb:fn.body=some c) (hn:fn.name ≠ "runtime.NumGoroutine"):MU P f:=by
 intro a w
 simp [callFunc,hf,hb,hn]
end
section
variable {P:Program} {w0:World} {n:Nat}
def Zdo (P:Program) (w0:World) (e1:Env) (c:Bool) (st:St) (o:Oper) (v:AV):Prop :=
 match o.op with
 | .call ⟨.value f,args,_⟩=>c=true→Ba e1 true f∧(∀ x∈args.toList,Ba e1 true x)∧Qb P w0 (AD e1 f) (args.toList.map fun x=>argP e1 (AD e1 x)) st fun r s=>r=v∧s=st
 | op=>(c=true→(BB P e1 c st op).1)∧(BB P e1 c st op).2.1=v∧(BB P e1 c st op).2.2=st
theorem Vu {e1:Env} {c:Bool} {st:St} {o:Oper} {v:AV} (hc:¬ N6 o.op=true) :
  Zdo P w0 e1 c st o v=((c=true→(BB P e1 c st o.op).1)∧(BB P e1 c st o.op).2.1=v∧(BB P e1 c st o.op).2.2=st):=by
 obtain ⟨h,op,d,g,a,b⟩:=o
 cases op with
 | call cc =>
  obtain ⟨callee,e,i⟩:=cc
  cases callee with
  | value f=>exact absurd rfl hc
  | _=>rfl
 | _=>rfl
theorem VG {M:Mem} {e1:Env} {st:St} {a:Act} {w:World} (h:Rel w0 n M e1 st a w) (ro:Option Nat) (m:Nat) {all:List Oper} {o:Oper} {v:AV} (hg:NY all e1 o.guard) (hv:Zdo P w0 e1 (Ew all e1 o.guard) st o v)
  (Q:Exit→Act→World→Prop) (K:Act→World→Prop) (hK:∀ u w' M',Ext w0 M w M' w'→RelSt w0 M' st w'→entryOk w0 M' w' u (Ew all e1 o.guard,v)→K (a.put o.dst u) w') :
  if Region.wanted o (yielded all.toArray a.tmps) then o.wpIn (FW ro) m P a w K Q else (∀ f,o.about P w a.eval=some f→(FW ro).fn f)∧K (a.put o.dst undef) w:=by
 rw [QP h hg]
 cases hcc:Ew all e1 o.guard with
 | true =>
  rw [hcc] at hv hK
  rw [Ah rfl]
  by_cases hc:N6 o.op=true
  ·obtain ⟨dst,op,l,q,e,guard⟩:=o
   cases op<;>try cases hc
   rename_i cc
   obtain ⟨callee,p,x⟩:=cc
   cases callee<;>try cases hc
   rename_i f
   obtain ⟨k,i,d⟩:=hv rfl
   refine M5 h ro m k i d Q _ (fun r s t u w' M' j b c=>?_)
   obtain ⟨rfl,rfl⟩:=t
   exact hK u w' M' j b c
  ·rw [Vu hc] at hv
   obtain ⟨k,i,d⟩:=hv
   refine U4 h ro m o (k rfl) Q _ (fun u w' M' j b c=>?_)
   rw [d] at b
   rw [i] at c
   exact hK u w' M' j b c
 | false =>
  rw [hcc] at hK
  rw [Ai (by simp)]
  exact ⟨fun g _=>YT ro g,hK undef w M (.refl _ _ _) h.st rfl⟩
structure Trail (P:Program) (w0:World) (n:Nat) (all os:List Oper) (e:Env) (st:St) (E:Nat→Env) (C:Nat→Bool) (V:Nat→AV):Prop where
 zero:E 0=e
 step:∀ j o,os[j]? = some o→E (j+1)=MV (E j) o.dst (C j) (V j)∧NY all (Eo true all o (E j)) o.guard∧Nu n o.dst∧Ew all (Eo true all o (E j)) o.guard=C j ∧
  Zdo P w0 (Eo true all o (E j)) (C j) st o (V j)
theorem XS {all os:List Oper} {e:Env} {st:St} {o:Oper} {E:Nat→Env} {C:Nat→Bool} {V:Nat→AV} {v:AV} (hg:NY all (Eo true all o e) o.guard) (hd:Nu n o.dst)
  (ho:Zdo P w0 (Eo true all o e) (Ew all (Eo true all o e) o.guard) st o v) (T:Trail P w0 n all os (MV e o.dst (Ew all (Eo true all o e) o.guard) v) st E C V) :
  Trail P w0 n all (o::os) e st (fun | 0=>e | j+1=>E j) (fun | 0=>Ew all (Eo true all o e) o.guard | j+1=>C j) (fun | 0=>v | j+1=>V j):=by
 refine ⟨rfl,fun j q hq=>?_⟩
 cases j with
 | zero =>
  simp only [List.getElem?_cons_zero,Option.some.injEq] at hq
  subst hq
  exact ⟨T.zero,hg,hd,rfl,ho⟩
 | succ j =>
  simp only [List.getElem?_cons_succ] at hq
  exact T.step j q hq
theorem WP {all:List Oper} {st:St} {KK:Env→St→Prop}:∀ (c:Nat) (os:List Oper) (e:Env),X9 P w0 n true all KK c os e st→∃ E C V,Trail P w0 n all os e st E C V∧KK (E os.length) st
 | 0,_,_,h=>h.elim
 | c+1,os,e,h=>by
  have k:∀ (os:List Oper) (e:Env),evS P w0 n true all (X9 P w0 n true all KK c) KK os e st→∃ E C V,Trail P w0 n all os e st E C V∧KK (E os.length) st:=by
   intro os
   induction os with
   | nil=>exact fun e h=>⟨fun _=>e,fun _=>false,fun _ => .junk,⟨rfl,fun j o w=>by simp at w⟩,h⟩
   | cons o os ih =>
    intro e h
    by_cases hc:N6 o.op=true
    ·obtain ⟨t,op,q,s,m,p⟩:=o
     cases op<;>try cases hc
     rename_i cc
     obtain ⟨callee,r,y⟩:=cc
     cases callee<;>try cases hc
     rename_i f
     simp only [evS] at h
     obtain ⟨l,hd,i,x⟩:=h
     rcases x with ⟨v,k1,k2⟩ | ⟨hf,_⟩
     ·obtain ⟨E,C,V,T,d⟩:=WP c os _ k2
      exact ⟨_,_,_,XS l hd (fun g=>⟨(i g).1,(i g).2,k1 g⟩) T,d⟩
     ·cases hf
    ·rw [YD hc] at h
     obtain ⟨l,hd,i,u,a⟩:=h
     have b:=u (.inr rfl)
     simp only at b
     rw [b] at a
     obtain ⟨E,C,V,T,d⟩:=ih _ a
     exact ⟨_,_,_,XS l hd (by rw [Vu hc];exact ⟨i,rfl,b⟩) T,d⟩
  exact k os e h
theorem Pn {all os:List Oper} {e:Env} {st:St} {E:Nat→Env} {C:Nat→Bool} {V:Nat→AV} (T:Trail P w0 n all os e st E C V)
  (uniq:∀ (i j:Nat) (o p:Oper) (s:Nat),os[i]? = some o→os[j]? = some p→o.dst=some s→p.dst=some s→i=j) (s:Nat):∀ j,j≤os.length →
  ((∀ i o,i<j→os[i]? = some o→o.dst≠some s)→Eu (E j) s=Eu e s)∧(∀ i o,i<j→os[i]? = some o→o.dst=some s→Eu (E j) s=some (C i,V i))
 | 0,_=>⟨fun _=>by rw [T.zero],fun i o h=>absurd h (by omega)⟩
 | j+1,hj=>by
  obtain ⟨f,g⟩:=Pn T uniq s j (by omega)
  have ho:os[j]? = some os[j]:=List.getElem?_eq_getElem (by omega)
  have b:=(T.step j _ ho).1
  have a:os[j].dst≠some s→Eu (E (j+1)) s=Eu (E j) s:=by
   intro a
   rw [b]
   cases hd:os[j].dst with
   | none=>rfl
   | some d =>
    rw [hd] at a
    simp only [MV,Eu]
    rw [Ai (fun h=>a (by rw [h]))]
  refine ⟨fun h=>?_,fun i o k hio hd=>?_⟩
  ·rw [a (h j _ (by omega) ho)]
   exact f fun i o k=>h i o (by omega)
  ·by_cases c:i=j
   ·subst c
    rw [ho] at hio
    cases hio
    rw [b,hd]
    simp only [MV,Eu,if_true]
   ·rw [a (fun h=>c (uniq i j o _ s hio ho hd h))]
    exact g i o (by omega) hio hd
theorem Qy {F:Fence} {m:Nat} {md:Region.Mode} {ops:Array Oper} {Q':Exit→Act→World→Prop}:∀ (l:List Oper) (k:Nat) (listed:Array Bool) (a:Act) (w:World),(∀ j,l[j]? = ops[k+j]?) →
  Region.seqB md ops l.length k listed=true→wpListIn F m P ops Q' l a w→wpAnyIn F m P md ops Q' l.length listed a w
 | [],_,_,_,_,_,hB,h=>⟨by simpa [Region.seqB] using hB,h⟩
 | o::l,k,listed,a,w,hl,hB,h=>by
  have f:ops[k]? = some o:=by simpa using (hl 0).symm
  simp only [List.length_cons,Region.seqB,Bool.and_eq_true,decide_eq_true_eq] at hB
  refine ⟨fun h1=>(by rw [hB.1] at h1;cases h1),fun i hi=>?_⟩
  rw [hB.1] at hi
  have hik:i=k:=by simpa using hi
  subst hik
  have e:wpOpIn F m P ops Q' i (wpListIn F m P ops Q' l) a w:=by unfold wpOpIn;simp only [f];exact h
  exact wpOpIn_mono (fun b c d=>Qy l (i+1) _ b c (fun j=>by have:=hl (j+1);simpa [Nat.add_assoc,Nat.add_comm 1 j] using this) hB.2 d) e
def Z6 (o:Oper) (j:Nat):Bool:=o.after.any fun e=>Region.binds .any e&&e.on == j
theorem Vx {o:Oper} {j:Nat} (h:Z6 o j=true):∃ e∈o.after,Region.binds .any e=true∧e.on=j:=by
 obtain ⟨e,b,a⟩:=Array.any_eq_true'.1 h
 simp only [Bool.and_eq_true,beq_iff_eq] at a
 exact ⟨e,b,a.1,a.2⟩
def Zjp (l:List Oper) (i j:Nat) (o p:Oper):Bool :=
 match p.dst with
 | some s=>(decide (i=j)||o.dst != some s)&&(!(looks l o).contains s||(decide (j<i)&&Z6 o j))
 | none=>true
def Zjl (l:List Oper) (h:Nat):Bool :=
 (List.range h).all fun i=>match l[i]? with
  | some o=>(o.after.toList.all fun e => !Region.binds .any e||decide (e.on<i))&&(List.range h).all fun j=>match l[j]? with
   | some p=>Zjp l i j o p
   | none=>true
  | none=>true
def ZkW (l:List Oper) (h:Nat):Bool :=
 (List.range (l.length-h)).all fun k=>(List.range (h+k)).all fun j=>(List.range (h+k+1)).any fun q=>decide (j<q)&&(match l[q]? with | some o=>Z6 o j | none=>false)
def Y5 (l:List Oper) (h:Nat):Bool :=
 decide (h≤l.length)&&Zjl l h&&ZkW l h&&Region.seqB .any l.toArray (l.length-h) h (Array.replicate h true++Array.replicate (l.length-h) false)
theorem Sj {l:List Oper} {h:Nat} (hB:Zjl l h=true) {i:Nat} {o:Oper} (hi:i<h) (ho:l[i]? = some o) :
  (∀ e∈o.after,Region.binds .any e=true→e.on<i)∧∀ j p s,j<h→l[j]? = some p→p.dst=some s→(o.dst=some s→i=j)∧(s∈looks l o→j<i∧Z6 o j=true):=by
 have b:=List.all_eq_true.1 hB i (List.mem_range.2 hi)
 simp only [ho,Bool.and_eq_true] at b
 refine ⟨fun e f g=>?_,fun j p s d m hs=>?_⟩
 ·have:=List.all_eq_true.1 b.1 e (by simpa using f)
  simpa [g] using this
 ·have a:=List.all_eq_true.1 b.2 j (List.mem_range.2 d)
  simp only [m,Zjp,hs,Bool.and_eq_true,Bool.or_eq_true,decide_eq_true_eq,bne_iff_ne,Bool.not_eq_true'] at a
  refine ⟨fun hd=>a.1.resolve_right (fun c=>c hd),fun k=>?_⟩
  rcases a.2 with h3 | h3
  ·have:(looks l o).contains s=true:=by simpa using k
   rw [h3] at this;cases this
  ·exact h3
theorem Zcx {listed:Array Bool} {i:Nat} (h:listed.getD i true=false):∃ hi:i<listed.size,listed[i]=false:=by
 by_cases c:i<listed.size
 ·exact ⟨c,by simpa [c] using h⟩
 ·simp [Array.getD_eq_getD_getElem?,Array.getElem?_eq_none (Nat.le_of_not_lt c)] at h
theorem Zei {listed:Array Bool} {i:Nat} (h:listed.getD i false=true):∃ hi:i<listed.size,listed[i]=true:=by
 by_cases c:i<listed.size
 ·exact ⟨c,by simpa [c] using h⟩
 ·simp [Array.getD_eq_getD_getElem?,Array.getElem?_eq_none (Nat.le_of_not_lt c)] at h
theorem F4 {listed:Array Bool} {i j:Nat} (hi:i<listed.size) (b:Bool):(listed.setIfInBounds i true).getD j b=if i=j then true else listed.getD j b:=by
 by_cases c:i=j
 ·subst c;simp [hi]
 ·rw [Ai c]
  simp [Array.getElem?_setIfInBounds_ne c]
structure DInv (w0:World) (n:Nat) (l:List Oper) (h:Nat) (e:Env) (st:St) (C:Nat→Bool) (V:Nat→AV) (M1:Mem) (w1:World) (ds:List Deferred) (listed:Array Bool) (a:Act) (w:World) (M:Mem):Prop where
 size:listed.size=l.length
 tail:∀ t,h≤t→t<l.length→listed.getD t true=false
 closed:∀ j oj,l[j]? = some oj→listed.getD j false=true→∀ e∈oj.after,Region.binds .any e=true→listed.getD e.on false=true
 rel:RelSt w0 M st w
 tmps:a.tmps.size=n
 defers:a.defers=ds
 ext:Ext w0 M1 w1 M w
 old:∀ s x,(∀ i o,i<h→l[i]? = some o→o.dst≠some s)→Eu e s=some x→entryOk w0 M w (a.tmps.getD s undef) x
 new:∀ i o s,i<h→l[i]? = some o→o.dst=some s→listed.getD i false=true→entryOk w0 M w (a.tmps.getD s undef) (C i,V i)
theorem Vy {listed:Array Bool} {h:Nat} (hn:¬ ∀ j,j<h→listed.getD j false=true):∃ j,j<h∧listed.getD j false=false∧∀ i,i<j→listed.getD i false=true:=by
 induction h with
 | zero=>exact absurd (fun j a=>absurd a (by omega)) hn
 | succ h ih =>
  by_cases c:∀ j,j<h→listed.getD j false=true
  ·refine ⟨h,by omega,?_,c⟩
   cases hq:listed.getD h false with
   | false=>rfl
   | true =>
    exact absurd (fun j a=>by
     by_cases e:j=h
     ·exact e▸hq
     ·exact c j (by omega)) hn
  ·obtain ⟨j,f,d,b⟩:=ih c
   exact ⟨j,by omega,d,b⟩
theorem Zgq {l:List Oper} {h:Nat} {e:Env} {st:St} {E:Nat→Env} {C:Nat→Bool} {V:Nat→AV} {M1:Mem} {w1:World} {ds:List Deferred} {ro:Option Nat} {m:Nat} {Q:Exit→Act→World→Prop}
  (T:Trail P w0 n l (l.take h) e st E C V) (hB:Y5 l h=true)
  (hend:∀ a w M,Rel w0 n M (E h) st a w→Ext w0 M1 w1 M w→a.defers=ds→wpListIn (FW ro) m P l.toArray Q (l.drop h) a w) :
  ∀ fuel listed a w M,fuel=listed.toList.count false→DInv w0 n l h e st C V M1 w1 ds listed a w M→wpAnyIn (FW ro) m P .any l.toArray Q fuel listed a w:=by
 simp only [Y5,Bool.and_eq_true,decide_eq_true_eq] at hB
 obtain ⟨⟨⟨a0,hH⟩,hT⟩,hS⟩:=hB
 have ay:(l.take h).length=h:=by simp;omega
 have b:∀ j,j<h→(l.take h)[j]? = l[j]? := fun j hj=>List.getElem?_take_of_lt hj
 have aa:∀ {j:Nat} {o:Oper},(l.take h)[j]? = some o→j<h:=fun {j o} hj=>by
  have:=(Aj.1 hj).1;omega
 have ad:∀ (i j:Nat) (o p:Oper) (s:Nat),(l.take h)[i]? = some o→(l.take h)[j]? = some p→o.dst=some s→p.dst=some s→i=j:=by
  intro i j o p s hi hj hs ah
  have a1:=aa hi
  have a2:=aa hj
  rw [b _ a1] at hi
  rw [b _ a2] at hj
  exact ((Sj hH a1 hi).2 j p s a2 hj ah).1 hs
 have f:∀ s j,j≤h→_:=fun s j hj=>Pn T ad s j (by omega)
 have U:∀ (listed:Array Bool) (a:Act) (w:World) (M:Mem) (fuel:Nat),fuel=listed.toList.count false→DInv w0 n l h e st C V M1 w1 ds listed a w M→(∀ j,j<h→listed.getD j false=true) →
   wpAnyIn (FW ro) m P .any l.toArray Q fuel listed a w:=by
  intro listed a w M fuel hf inv g
  have hl:listed=Array.replicate h true++Array.replicate (l.length-h) false:=by
   apply Array.ext
   ·simp [inv.size];omega
   ·intro i y Y
    by_cases c:i<h
    ·have:=g i c
     simp only [Array.getD_eq_getD_getElem?,Array.getElem?_eq_getElem y,Option.getD_some] at this
     rw [this,Array.getElem_append_left (by simpa using c)]
     simp
    ·have:=inv.tail i (by omega) (by rw [←inv.size];exact y)
     simp only [Array.getD_eq_getD_getElem?,Array.getElem?_eq_getElem y,Option.getD_some] at this
     rw [this,Array.getElem_append_right (by simpa using c)]
     simp
  have ai:fuel=(l.drop h).length:=by
   rw [hf,hl]
   simp [List.count_append,List.count_replicate]
  have z:Rel w0 n M (E h) st a w:=by
   refine ⟨inv.rel,inv.tmps,fun s x hs=>?_⟩
   by_cases c:∃ j p,j<h∧l[j]? = some p∧p.dst=some s
   ·obtain ⟨j,p,hj,hp,hd⟩:=c
    have:=(f s h (Nat.le_refl _)).2 j p hj (by rw [b _ hj];exact hp) hd
    rw [this] at hs
    cases hs
    exact inv.new j p s hj hp hd (g j hj)
   ·have:=(f s h (Nat.le_refl _)).1 (fun j p hj hp hd=>c ⟨j,p,hj,by rw [←b _ hj];exact hp,hd⟩)
    rw [this] at hs
    exact inv.old s x (fun j p hj hp hd=>c ⟨j,p,hj,hp,hd⟩) hs
  rw [ai]
  refine Qy (l.drop h) h listed a w (fun j=>by simp [List.getElem?_drop]) ?_ (hend a w M z inv.ext inv.defers)
  rw [hl,List.length_drop]
  exact hS
 have J:∀ (listed:Array Bool) (t:Nat) (o:Oper),(∀ j oj,l[j]? = some oj→listed.getD j false=true→∀ e∈oj.after,Region.binds .any e=true→listed.getD e.on false=true) →
   l[t]? = some o→h≤t→(∀ e∈o.after,Region.binds .any e=true→listed.getD e.on false=true)→∀ d j,j+d+1=t→listed.getD j false=true:=by
  intro listed t o aj ho ht r d
  induction d using Nat.strongRecOn with
  | _ d ih =>
   intro j hj
   have a5:t<l.length:=(Aj.1 ho).1
   have y:=List.all_eq_true.1 (List.all_eq_true.1 hT (t-h) (List.mem_range.2 (by omega))) j (List.mem_range.2 (by omega))
   obtain ⟨q,hq,Y⟩:=List.any_eq_true.1 y
   have a4:q≤t:=by have:=List.mem_range.1 hq;omega
   simp only [Bool.and_eq_true,decide_eq_true_eq] at Y
   obtain ⟨a3,h3⟩:=Y
   cases hoq:l[q]? with
   | none=>simp [hoq] at h3
   | some oq =>
    simp only [hoq] at h3
    obtain ⟨O,H,K,G⟩:=Vx h3
    by_cases c:q=t
    ·subst c
     rw [ho] at hoq;cases hoq
     exact G▸r O H K
    ·have:=ih (t-q-1) (by omega) q (by omega)
     exact G▸aj q oq hoq this O H K
 intro fuel
 induction fuel with
 | zero =>
  intro listed a w M hf inv
  refine U listed a w M 0 hf inv (fun j hj=>?_)
  cases hq:listed.getD j false with
  | true=>rfl
  | false =>
   exfalso
   have aw:j<listed.size:=by rw [inv.size];omega
   have:false∈listed.toList:=by
    have e1:listed[j]=false:=by simpa [aw] using hq
    rw [←e1];simp
   have:=List.count_pos_iff.2 this
   omega
 | succ fuel ih =>
  intro listed a w M hf inv
  by_cases g:∀ j,j<h→listed.getD j false=true
  ·exact U listed a w M _ hf inv g
  ·obtain ⟨k,au,ae,ar⟩:=Vy g
   have am:k<listed.size:=by rw [inv.size];omega
   have ag:l[k]? = some l[k]:=List.getElem?_eq_getElem (by omega)
   have N:k∈Region.ready .any l.toArray listed:=by
    refine mem_ready.2 ⟨by simpa [am] using ae,l[k],by simp,fun O he hb=>ar _ ((Sj hH au ag).1 O he hb)⟩
   refine ⟨fun h0=>absurd N (by rw [h0];simp),fun i hi=>?_⟩
   obtain ⟨av,o,ho,r⟩:=mem_ready.1 hi
   have u:l[i]? = some o:=by simpa using ho
   have az:i<l.length:=(Aj.1 u).1
   have Z:i<h:=by
    refine Nat.lt_of_not_le fun ak=>?_
    have:=J listed i o inv.closed u ak r (i-k-1) k (by omega)
    rw [ae] at this;cases this
   obtain ⟨t1,t2,t3,t4,t5⟩:=T.step i o (by rw [b _ Z];exact u)
   have F:=Sj hH Z u
   have z:Rel w0 n M (Eo true l o (E i)) st a w:=by
    refine ⟨inv.rel,inv.tmps,fun s x hs=>?_⟩
    simp only [Eo,if_true] at hs
    have hm:=Ou _ _ _ _ hs
    have hl:=Kw _ _ _ _ hs
    by_cases c:∃ j p,j<h∧l[j]? = some p∧p.dst=some s
    ·obtain ⟨j,p,hj,hp,hd⟩:=c
     obtain ⟨ao,hw⟩:=(F.2 j p s hj hp hd).2 hm
     obtain ⟨O,H,K,G⟩:=Vx hw
     have aq:listed.getD j false=true:=G▸r O H K
     have:=(f s i (by omega)).2 j p ao (by rw [b _ hj];exact hp) hd
     rw [this] at hl
     cases hl
     exact inv.new j p s hj hp hd aq
    ·have:=(f s i (by omega)).1 (fun j p hj hp hd=>c ⟨j,p,by omega,by rw [←b _ (by omega)];exact hp,hd⟩)
     rw [this] at hl
     exact inv.old s x (fun j p hj hp hd=>c ⟨j,p,hj,hp,hd⟩) hl
   unfold wpOpIn
   simp only [ho]
   have D:i<listed.size:=by rw [inv.size];omega
   refine VG z ro m t2 (by rw [t4];exact t5) Q _ fun v w' M' hx af hv=>?_
   rw [t4] at hv
   refine ih _ _ _ M' ?_ ?_
   ·have ab:listed[i]=false:=by simpa [D] using av
    have ax:0<listed.toList.count false:=List.count_pos_iff.2 (by rw [←ab];simp)
    rw [Array.toList_setIfInBounds,List.count_set (by simpa using D)]
    simp only [Array.getElem_toList,ab]
    rw [Ah (show (false == false)=true from rfl),Ai (show ¬ (true == false)=true by decide)]
    omega
   ·have keep:∀ s x,o.dst≠some s→entryOk w0 M w (a.tmps.getD s undef) x→entryOk w0 M' w' ((a.put o.dst v).tmps.getD s undef) x:=by
     intro s x ap y
     rw [MR a o.dst v s (by rw [inv.tmps];exact t3),Ai ap]
     exact y.mono hx
    refine ⟨by simp [inv.size],fun t y Y=>?_,fun j oj hj hl O he hb=>?_,af,by rw [TU];exact inv.tmps,by rw [M7];exact inv.defers,inv.ext.trans hx,fun s x y Y=>?_,fun j p s hj hp hd hl=>?_⟩
    ·rw [F4 D,Aa];exact inv.tail t y Y
    ·rw [F4 D] at hl ⊢
     split
     ·rfl
     ·by_cases c:i=j
      ·subst c
       rw [u] at hj;cases hj
       exact r O he hb
      ·rw [Ai c] at hl
       exact inv.closed j oj hj hl O he hb
    ·exact keep s x (y i o Z u) (inv.old s x y Y)
    ·by_cases c:i=j
     ·subst c
      rw [u] at hp;cases hp
      rw [MR a o.dst v s (by rw [inv.tmps];exact t3),Ah hd]
      exact hv
     ·rw [F4 D,Ai c] at hl
      refine keep s _ (fun hs=>c ((F.2 j p s hj hp hd).1 hs)) (inv.new j p s hj hp hd hl)
theorem Zb6 {M0:Mem} {W0:World} {ro:Option Nat} {Q:AQ} {e:Env} {st:St} (hm:P.follows .mixedOrders=true) (h:Nat) (c1 c2:Nat) (L:List Nat) {id:Nat} {l:List Oper} (hB:Y5 l h=true)
  (hev:X9 P w0 n true l (fun e1 s1=>X9 P w0 n false l (fun e2 s2=>Q .normal (EY L e2) s2) c2 (l.drop h) e1 s1) c1 (l.take h) e st):F3 P w0 n M0 W0 ro (.region id l.toArray true) Q e st:=by
 intro m M a w b
 obtain ⟨E,C,V,T,o⟩:=WP _ _ _ hev
 have r:h≤l.length:=by
  simp only [Y5,Bool.and_eq_true,decide_eq_true_eq] at hB;exact hB.1.1.1
 have g:(l.take h).length=h:=by simp;omega
 rw [g] at o
 obtain ⟨D,q⟩:=b.rel.st.drew
 refine wpIn_region_any hm (Zgq T hB (M1:=M) (w1:=w) (ds:=a.defers) (fun a1 w1 M1 k f i=>?_) _ _ a _ M (by simp) ?_)
 ·refine UH ro m false l _ _ c2 _ _ st a1 w1 M1 k o fun e2 s2 a2 F z y u p q2=>⟨z,_,_,⟨u.sub (Dx L _),b.ext.trans (f.trans p),?_⟩,y⟩
  rw [q2,i]
  exact b.marks.later (f.trans p) b.rel.st
 ·exact ⟨by simp,fun t _ v=>by simp [Array.getD_eq_getD_getElem?,v],fun j _ _ d=>by
   exfalso
   by_cases c:j<l.length
   ·simp [Array.getD_eq_getD_getElem?,c] at d
   ·simp [Array.getD_eq_getD_getElem?,c] at d,D,b.rel.size,rfl,q,fun s x _ hs=>(b.rel.env s x hs).mono q,fun j _ _ _ _ _ d=>by
   exfalso
   by_cases c:j<l.length
   ·simp [Array.getD_eq_getD_getElem?,c] at d
   ·simp [Array.getD_eq_getD_getElem?,c] at d⟩
end
def St.ext (s X:St):St:=⟨s.boxes++X.boxes,s.rows++X.rows,s.loops++X.loops⟩
def St.push (s:St) (la:LoopA):St:={ s with loops:=s.loops++[la] }
def St.like (s t:St):Prop:=s.boxes.length=t.boxes.length∧t.rows.length≤s.rows.length∧s.loops.length=t.loops.length
def ZjL (P:Program) (w0:World) (gf:FuncId) (caps:List AV) (items:Am) (Fr:St→Prop):Prop :=
 ∀ (k:Nat) (J:Nat→St→Prop) (Jx:St→Prop),(∀ i s,J i s→Fr s∧k<s.loops.length) →
  (∀ i s x X,X.rows=[]→J i s→items[i]? = some x→X1 P w0 k x (s.ext X) fun r s'=>∃ t,s'=t.ext X∧t.like s∧((r = .val (.bool true)∧J (i+1) t)∨(r = .val (.bool false)∧Jx t))) →
  ∀ s,J 0 s→ACalls P w0 gf (.yld k::caps) s fun _ s'=>∃ t X,X.rows=[]∧s'=St.ext t X∧(J items.length t∨Jx t)
def Zu:Env→List Nat→List AV→Env
 | e,p::ps,x::xs=>Zu ((p,true,x)::e) ps xs
 | e,_,_=>e
section
variable {P:Program} {w0:World} {n:Nat} {M:Mem} {e:Env} {st:St} {a:Act} {w:World}
theorem Rel.bind:∀ (ps:List Nat) (vs:List Value) (xs:List AV) (e:Env) (a:Act),Rel w0 n M e st a w→ps.length=xs.length→(∀ p∈ps,p<n)→vs.length=xs.length→(∀ (i:Nat) (v:Value) (x:AV),vs[i]? = some v→xs[i]? = some x→R w0 M w v x) →
  Rel w0 n M (Zu e ps xs) st { tmps:=(ps.zip vs).foldl (fun t (p,v)=>t.setIfInBounds p v) a.tmps,defers:=a.defers } w
 | [],[],[],_,_,h,_,_,_,_=>h
 | p::ps,v::vs,x::xs,e,a,h,h1,h2,h3,h4=>by
  simp only [List.zip_cons_cons,List.foldl_cons,Zu]
  have g:p<n:=h2 p (by simp)
  have:=h.put (M':=M) (w':=w) (st':=st) (.refl _ _ _) h.st (dst:=some p) g (c:=true) (v:=v) (r:=x) (h4 0 v x rfl rfl)
  exact Rel.bind ps vs xs _ (a.put (some p) v) this (by simpa using h1) (fun q f=>h2 q (by simp [f])) (by simpa using h3) (fun i u y d b=>h4 (i+1) u y d b)
 | [],_::_,[],_,_,_,_,_,h,_=>by simp at h
 | [],_,_::_,_,_,_,h,_,_,_=>by simp at h
 | _::_,_,[],_,_,_,h,_,_,_=>by simp at h
 | _::_,[],_::_,_,_,_,_,_,h,_=>by simp at h
theorem RelSt.setLoop (h:RelSt w0 M st w) {k:Nat} {la:LoopA} (hk:st.loops[k]? = some la) (s:LoopState) (p:Option Code) {r:Loop} (hr:w.heap[M.lb k]? = some (.loop r)) :
  RelSt w0 M { st with loops:=st.loops.set k { la with st:=s,pend:=p } } (w.putObj (M.lb k) (.loop { r with state:=s,pending:=p }))∧Ext w0 M w M (w.putObj (M.lb k) (.loop { r with state:=s,pending:=p })):=by
 have f:k<st.loops.length:=(Aj.1 hk).1
 have m:k<M.NL:=by rw [h.loop.NL];exact f
 have y:M.lb k<w.heap.size:=(Array.getElem?_eq_some_iff.1 hr).1
 obtain ⟨g0,U,g1,g2,g3,g4,g5,g6,F,O⟩:=h.loop.record k la hk
 rw [hr] at g1
 cases g1
 generalize ho':Obj.loop { r with state:=s,pending:=p }=o'
 have hs:∀ (b a:Nat) (v:Value),w.cell? ⟨b,a,none⟩=some v→(w.putObj (M.lb k) o').cell? ⟨b,a,none⟩=some v:=fun b a v=>QT hr rfl
 have z:∀ {b:Nat} {c:Array Value} {g:TypeId},w.heap[b]? = some (.cells c g (0,0))→(w.putObj (M.lb k) o').heap[b]? = some (.cells c g (0,0)):=by
  intro b c g hb
  rw [World.putObj_heap_other (fun e=>by subst e;rw [hr] at hb;cases hb)]
  exact hb
 refine ⟨⟨Below.putObj h.below g0 _,h.N,h.NR,fun b hb=>h.top b (by simpa using hb),h.inj,fun l cs u=>?_,fun id x H=>(h.row id x H).same hs z (by simp),h.rowinj,⟨by simp [h.loop.NL],h.loop.inj,fun j J hj=>?_⟩⟩,
  ⟨Nat.le_refl _,fun _ _=>rfl,Nat.le_refl _,fun _ _=>⟨Nat.le_refl _,fun _=>⟨rfl,rfl,rfl⟩⟩,fun b a v n C=>⟨hs b a v C,n⟩,by simp,Nat.le_refl _,fun _ _=>rfl,fun _ _ _=>by omega,fun b o n _ G=>?_⟩⟩
 ·obtain ⟨a1,a2,c,g,a3,a4,a5,a6⟩:=h.box l cs u
  exact ⟨a1,a2,c,g,z a3,a4,a5,fun i E Q=>(a6 i E Q).same hs⟩
 ·by_cases q:j=k
  ·subst q
   rw [List.getElem?_set_self f] at hj
   cases hj
   exact ⟨g0,{ r with state:=s,pending:=p },by rw [←ho'];exact World.putObj_heap_same y,rfl,rfl,g4,g5,g6,F,fun s x d=>(O s x d).same hs⟩
  ·rw [List.getElem?_set_ne (Ne.symm q)] at hj
   have t:j<M.NL:=by rw [h.loop.NL];exact (Aj.1 hj).1
   obtain ⟨a1,r,a2,a3,a4,a5,a6,a7,D,K⟩:=h.loop.record j J hj
   exact ⟨a1,r,by rw [World.putObj_heap_other (fun e=>q (h.loop.inj j k t m e))];exact a2,a3,a4,a5,a6,a7,D,fun s x d=>(K s x d).same hs⟩
 ·rw [World.putObj_heap_other (fun e=>G k m e.symm)]
  exact n
def Mem.newLoop (M:Mem) (b:Nat):Mem:={ M with NL:=M.NL+1,lb:=fun k=>if k=M.NL then b else M.lb k }
theorem Rel.newLoop (h:Rel w0 n M e st a w) (fn:FuncId) (ps:Array Tmp) (asg body:Code) :
  RelSt w0 (M.newLoop (w.heap.size+1)) (st.push ⟨e,n,ps,asg,body,.ready,none⟩) ((w.alloc (.deferred (some []))).alloc (.loop { state := .ready,pending:=none,fn,tmps:=a.tmps,params:=ps,assign:=asg,body,defers:=w.heap.size })) ∧
  Ext w0 M w (M.newLoop (w.heap.size+1)) ((w.alloc (.deferred (some []))).alloc (.loop { state := .ready,pending:=none,fn,tmps:=a.tmps,params:=ps,assign:=asg,body,defers:=w.heap.size })):=by
 generalize hr:({ state := .ready,pending:=none,fn,tmps:=a.tmps,params:=ps,assign:=asg,body,defers:=w.heap.size }:Loop)=r
 have g:KeepsObj w ((w.alloc (.deferred (some []))).alloc (.loop r)):=(KeepsObj.alloc _ _).trans (KeepsObj.alloc _ _)
 have u:∀ (b p:Nat) (v:Value),w.cell? ⟨b,p,none⟩=some v→((w.alloc (.deferred (some []))).alloc (.loop r)).cell? ⟨b,p,none⟩=some v:=by
  intro b p v hv
  have m:=World.block_lt_of_cell? w _ hv
  rw [World.cell?_alloc_lt _ _ _ (by simp;exact Nat.lt_succ_of_lt m),World.cell?_alloc_lt _ _ _ m]
  exact hv
 have f:∀ k,k<M.NL→(M.newLoop (w.heap.size+1)).lb k=M.lb k:=fun k hk=>by simp [Mem.newLoop];omega
 have d:(M.newLoop (w.heap.size+1)).lb M.NL=w.heap.size+1:=by simp [Mem.newLoop]
 have C:Ext w0 M w (M.newLoop (w.heap.size+1)) ((w.alloc (.deferred (some []))).alloc (.loop r)) :=
  ⟨Nat.le_refl _,fun _ _=>rfl,Nat.le_refl _,fun _ _=>⟨Nat.le_refl _,fun _=>⟨rfl,rfl,rfl⟩⟩,fun b p v D z=>⟨u b p v z,D⟩,by simp;omega,Nat.le_succ _,f,fun k D z=>by
   have:k=M.NL:=by simp only [Mem.newLoop] at z;omega
   rw [this,d];omega,fun b o D z _=>g b o D z⟩
 have G:∀ {b:Nat},b<w.heap.size→((w.alloc (.deferred (some []))).alloc (.loop r)).heap[b]? = w.heap[b]? := fun {b} F=>by
  rw [B6 _ _ (by simp;omega),B6 _ _ F]
 refine ⟨⟨(h.st.below.alloc h.st.base_le _).alloc (by have:=h.st.base_le;simp;omega) _,h.st.N,h.st.NR,fun b F=>h.st.top b (by simp at F;omega),h.st.inj,fun l cs U=>?_,fun id x E=>(h.st.row id x E).keep C rfl rfl rfl rfl rfl (h.st.row id x E).ne (G (h.st.row id x E).lt),h.st.rowinj,⟨by simp [Mem.newLoop,St.push,h.st.loop.NL],fun k y hk t q=>?_,fun k Z hk=>?_⟩⟩,C⟩
 ·obtain ⟨a1,a2,c,Q,a3,a4,a5,a6⟩:=h.st.box l cs U
  exact ⟨a1,a2,c,Q,by rw [show (M.newLoop (w.heap.size+1)).bx l=M.bx l from rfl,G (Array.getElem?_eq_some_iff.1 a3).1];exact a3,a4,a5,fun i O b2=>(a6 i O b2).mono C⟩
 ·have m:∀ j,j<M.NL→M.lb j<w.heap.size:=fun j J=>by
   obtain ⟨_,r,q,_⟩:=h.st.loop.record j _ (List.getElem?_eq_getElem (by rw [←h.st.loop.NL];exact J))
   exact (Array.getElem?_eq_some_iff.1 q).1
  simp only [Mem.newLoop] at hk t
  by_cases c:k=M.NL
  ·by_cases c':y=M.NL
   ·omega
   ·subst c
    rw [d,f y (by omega)] at q
    have:=m y (by omega)
    omega
  ·by_cases c':y=M.NL
   ·subst c'
    rw [d,f k (by omega)] at q
    have:=m k (by omega)
    omega
   ·rw [f k (by omega),f y (by omega)] at q
    exact h.st.loop.inj k y (by omega) (by omega) q
 ·simp only [St.push] at hk
  by_cases c:k=st.loops.length
  ·subst c
   simp only [List.getElem?_concat_length,Option.some.injEq] at hk
   subst hk
   rw [←h.st.loop.NL,d]
   refine ⟨by have:=h.st.base_le;omega,r,?_,?_⟩
   ·have:=World.alloc_heap_new (w.alloc (.deferred (some []))) (.loop r)
    rwa [World.size_alloc] at this
   ·have H:r.tmps=a.tmps:=by rw [←hr]
    exact ⟨by rw [←hr],by rw [←hr],by rw [←hr],by rw [←hr],by rw [←hr],by rw [H];exact h.size,fun s x hs=>by rw [H];exact (h.env s x hs).mono C⟩
  ·have t:k<st.loops.length:=by
    have:=(Aj.1 hk).1
    simp at this;omega
   rw [List.getElem?_append_left t] at hk
   obtain ⟨a1,V,a2,a3,a4,a5,a6,a7,K,Y⟩:=h.st.loop.record k Z hk
   rw [f k (by rw [h.st.loop.NL];exact t)]
   exact ⟨a1,V,g _ _ a2 rfl,a3,a4,a5,a6,a7,K,fun s x hs=>(Y s x hs).mono C⟩
def Zc3 (I:Exit→St→Prop) (s1 X:St) (la:LoopA):AQ:=fun x _ s =>
 ∃ t b,s=⟨t.boxes++X.boxes++b,t.rows,(s1.loops++[la])++X.loops⟩∧t.like s1∧t.loops=s1.loops∧I x t ∧
  (b=[]∨Calm (s1.boxes.length+X.boxes.length) t.rows.length s.loops.length ⟨t.boxes++X.boxes,t.rows,s.loops⟩)
def Wj:Exit→Option (Option Code)
 | .normal=>some none
 | .ret=>some (some .ret)
 | .exit id=>some (some (.exit id))
 | _=>none
theorem ZeJ {M0:Mem} {W0:World} {I:Exit→St→Prop} {s1 X:St} (hX:X.rows=[]) {la:LoopA} {Post:AV→St→Prop} {x:Exit} {jump:Option Code}
  (h0:RelSt w0 M0 ((s1.push { la with st := .ready,pend:=none }).ext X) W0) (hx0:Ext w0 M0 W0 M w) {e':Env} {s':St} (hr:RelSt w0 M s' w) (hq:Zc3 I s1 X { la with st := .busy,pend:=none } x e' s')
  (hpost:∀ t,t.like s1→t.loops=s1.loops→I x t→Post (.val (.bool jump.isNone)) ((t.push { la with st:=if jump.isNone then .ready else .done,pend:=jump }).ext X)) :
  ∃ v w',(Instr.endRound (M0.lb s1.loops.length) jump).run P w = .ok v w'∧Comes' w0 M0 W0 Post (.returned v) w':=by
 obtain ⟨t,b,rfl,p,o,D,t4⟩:=hq
 have n:((s1.loops++[{ la with st := .busy,pend:=none }])++X.loops)[s1.loops.length]? = some { la with st := .busy,pend:=none }:=by
  rw [List.getElem?_append_left (by simp),List.getElem?_concat_length]
 obtain ⟨_,E,g1,_⟩:=hr.loop.record _ _ n
 have g:s1.loops.length<M0.NL:=by rw [h0.loop.NL];simp [St.ext,St.push]
 rw [←hx0.lb _ g]
 obtain ⟨e,z⟩:=hr.setLoop n (if jump.isNone then .ready else .done) jump g1
 refine ⟨_,_,run_endRound jump g1,?_⟩
 have r:((s1.loops++[{ la with st := .busy,pend:=none }])++X.loops).set s1.loops.length { la with st:=if jump.isNone then .ready else .done,pend:=jump }=(s1.loops++[{ la with st:=if jump.isNone then .ready else .done,pend:=jump }])++X.loops:=by
  rw [List.set_append_left _ _ (by simp),List.set_append_right _ _ (by simp)]
  simp
 simp only at e
 rw [r] at e
 have f:=hx0.trans z
 have hd:M0.N=s1.boxes.length+X.boxes.length∧M0.NR=s1.rows.length∧M0.NL=s1.loops.length+1+X.loops.length:=by
  refine ⟨by rw [h0.N];simp [St.ext,St.push],by rw [h0.NR];simp [St.ext,St.push,hX],by rw [h0.loop.NL];simp [St.ext,St.push];omega⟩
 obtain ⟨C,s,G⟩:=p
 have l:=hpost t ⟨C,s,G⟩ o D
 have h:(t.push { la with st:=if jump.isNone then .ready else .done,pend:=jump }).ext X=⟨t.boxes++X.boxes,t.rows,(s1.loops++[{ la with st:=if jump.isNone then .ready else .done,pend:=jump }])++X.loops⟩:=by
  simp only [St.push,St.ext,o,hX,List.append_nil]
 rw [h] at l
 have c:∀ M' w',R w0 M' w' (.bool jump.isNone) (.val (.bool jump.isNone)):=fun _ _ => .flat rfl
 rcases t4 with rfl | t4
 ·simp only [List.append_nil] at e
  exact ⟨_,M,_,_,rfl,l,f,e,c _ _⟩
 ·refine ⟨_,M.cut (s1.boxes.length+X.boxes.length) t.rows.length (s1.loops.length+1+X.loops.length),_,_,rfl,l,f.cut (by omega) (by omega) (by omega) (by rw [e.loop.NL];simp;omega),?_,c _ _⟩
  have d:=e.cut (nb:=s1.boxes.length+X.boxes.length) (nr:=t.rows.length) (nl:=s1.loops.length+1+X.loops.length) (by simp;omega) (by simp) (by simp;omega)
  have H:List.take (s1.boxes.length+X.boxes.length) (t.boxes++X.boxes++b)=t.boxes++X.boxes:=List.take_left' (by simp;omega)
  have F:List.take t.rows.length t.rows=t.rows:=List.take_length
  have u:∀ a,List.take (s1.loops.length+1+X.loops.length) (s1.loops++[a]++X.loops)=s1.loops++[a]++X.loops:=fun a=>List.take_of_length_le (by simp;omega)
  simp only [St.cut,H,F,u] at d
  have i:(s1.loops++[{ la with st:=LoopState.busy,pend:=none }]++X.loops).length=s1.loops.length+1+X.loops.length:=by simp;omega
  refine d ⟨?_,?_,fun a hla k y m j=>?_⟩
  ·have:=t4.rows
   simp only [i] at this
   exact this
  ·have:=t4.boxes
   simp only [i] at this
   exact this
  ·have q:=t4.loops
   simp only [i] at q
   simp only [List.mem_append,List.mem_singleton] at hla q
   rcases hla with (hla | rfl) | hla
   ·exact q a (.inl (.inl hla)) k y m j
   ·exact q { la with st := .busy,pend:=none } (.inl (.inr rfl)) k y m j
   ·exact q a (.inr hla) k y m j
structure RoundAt (M0:Mem) (s:St):Prop where
 N:M0.N=s.boxes.length
 NR:M0.NR=s.rows.length
 NL:M0.NL=s.loops.length
 calm:Calm s.boxes.length s.rows.length s.loops.length s
theorem RoundAt.turn {M0:Mem} {s X:St} {la la':LoopA} (h:RoundAt M0 ((s.push la).ext X)) (he:la'.e=la.e):RoundAt M0 ((s.push la').ext X) where
 N:=h.N
 NR:=h.NR
 NL:=by rw [h.NL];simp [St.ext,St.push]
 calm:=by
  have f:((s.push la').ext X).loops.length=((s.push la).ext X).loops.length:=by simp [St.ext,St.push]
  rw [f]
  refine ⟨h.calm.rows,h.calm.boxes,fun l d k x a c=>?_⟩
  have b:l∈s.loops∨l=la'∨l∈X.loops:=by simpa [St.ext,St.push,or_assoc] using d
  rcases b with q | rfl | q
  ·exact h.calm.loops l (by simp [St.ext,St.push,q]) k x a c
  ·rw [he] at a
   exact h.calm.loops la (by simp [St.ext,St.push]) k x a c
  ·exact h.calm.loops l (by simp [St.ext,St.push,q]) k x a c
theorem Zed {la:LoopA} {s1 X:St} (hX:X.rows=[]) {I:Exit→St→Prop} {x:List AV} {Post:AV→St→Prop} (hlen:x.length=la.ps.size) (hps:∀ p∈la.ps.toList,p<la.n)
  (hbody:∀ (M0:Mem) (W0:World) (l:Nat),RoundAt M0 ((s1.push { la with st := .ready,pend:=none }).ext X)→RoundAt M0 ((s1.push { la with st := .busy,pend:=none }).ext X)→F3 P w0 la.n M0 W0 (some l) la.asg (YP (fun e' s'=>s'.loops=((s1.push { la with st := .ready,pend:=none }).ext X).loops ∧
   F3 P w0 la.n M0 W0 (some l) la.body (Zc3 I s1 X { la with st := .busy,pend:=none }) e' { s' with loops:=((s1.push { la with st := .busy,pend:=none }).ext X).loops }) (fun _ _ _=>False))
   (Zu la.e la.ps.toList x) ((s1.push { la with st := .ready,pend:=none }).ext X))
  (hI:∀ ex s,I ex s→(Wj ex).isSome=true)
  (hpost:∀ ex jump t,Wj ex=some jump→t.like s1→t.loops=s1.loops→I ex t→Post (.val (.bool jump.isNone)) ((t.push { la with st:=if jump.isNone then .ready else .done,pend:=jump }).ext X)) :
  X1 P w0 s1.loops.length x ((s1.push { la with st := .ready,pend:=none }).ext X) Post:=by
 intro M w d c f
 have V:((s1.push { la with st := .ready,pend:=none }).ext X).loops[s1.loops.length]? = some { la with st := .ready,pend:=none }:=by
  simp only [St.ext,St.push]
  rw [List.getElem?_append_left (by simp),List.getElem?_concat_length]
 obtain ⟨_,r,g1,g2,g3,g4,g5,g6,Y,g8⟩:=c.loop.record _ _ V
 simp only at g2 g3 g4 g5 g6 Y g8
 have O:=run_yield (P:=P) (args:=d) g1 (by rw [g4,f.1,hlen])
 refine ⟨_,_,_,_,O,fun m=>roundIn_of_wpIn (F:=Fence.wide) trivial ?_⟩
 rw [g5,g6]
 have j:Rel w0 la.n M la.e ((s1.push { la with st := .ready,pend:=none }).ext X) { tmps:=r.tmps,defers:=[] } w:=⟨c,Y,g8⟩
 have u:=Rel.bind la.ps.toList d.toList x la.e _ j (by simp [hlen]) hps (by simp [f.1]) (fun i v y hv O=>f.get (by rw [←Array.getElem?_toList];exact hv) O)
 have K:(r.params.zip d).foldl (fun tmps (t,a)=>tmps.setIfInBounds t a) r.tmps=(la.ps.toList.zip d.toList).foldl (fun t (p,v)=>t.setIfInBounds p v) r.tmps:=by
  rw [g4,←Array.foldl_toList,Array.toList_zip]
 rw [K]
 refine wpIn_mono (hbody M w (M.lb s1.loops.length) ⟨c.N,c.NR,c.loop.NL,c.calm⟩ (RoundAt.turn (la:={ la with st := .ready,pend:=none }) ⟨c.N,c.NR,c.loop.NL,c.calm⟩ rfl) m M _ w ⟨u,.refl _ _ _,[],by simp⟩) ?_
 rintro ex a1 w1 ⟨M1,e1,s',g,U⟩
 cases ex with
 | normal =>
  obtain ⟨D,hb⟩:=U
  have k:s'.loops[s1.loops.length]? = some { la with st := .ready,pend:=none }:=by rw [D];exact V
  obtain ⟨_,E,G,k2,_⟩:=g.rel.st.loop.record _ _ k
  have H:s1.loops.length<M.NL:=by rw [c.loop.NL];simp [St.ext,St.push]
  have h:=g.ext.lb _ H
  rw [h] at G
  refine ⟨_,run_beginRound G k2,?_⟩
  obtain ⟨C,z⟩:=g.rel.st.setLoop k .busy none (by rw [h];exact G)
  rw [h] at C z
  have q:E.pending=none:=by
   obtain ⟨_,aa,k1',_,J,_⟩:=g.rel.st.loop.record _ _ k
   rw [h,G] at k1'
   cases k1'
   exact J
  have er:({ E with state:=LoopState.busy,pending:=none }:Loop)={ E with state:=LoopState.busy }:=by rw [←q]
  rw [er] at C z
  have eL:{ s' with loops:=s'.loops.set s1.loops.length { la with st := .busy,pend:=none } }={ s' with loops:=((s1.push { la with st := .busy,pend:=none }).ext X).loops }:=by
   rw [D]
   simp only [St.ext,St.push]
   rw [List.set_append_left _ _ (by simp),List.set_append_right _ _ (by simp)]
   simp
  simp only at C
  rw [eL] at C
  have Q:At w0 la.n M w e1 { s' with loops:=((s1.push { la with st := .busy,pend:=none }).ext X).loops } a1 (w1.putObj (M.lb s1.loops.length) (.loop { E with state := .busy })) M1 :=
   ⟨⟨C,g.rel.size,fun s x hs=>(g.rel.env s x hs).mono z⟩,g.ext.trans z,g.marks.later z g.rel.st⟩
  refine wpIn_mono (hb m M1 a1 _ Q) ?_
  rintro ex a2 w2 ⟨M2,e2,s2,Z,h4⟩
  have o:=hI ex
  have fin:∀ jump,Wj ex=some jump→∃ v w',(Instr.endRound (M.lb s1.loops.length) jump).run P w2 = .ok v w'∧Comes' w0 M w Post (.returned v) w':=fun jump hj =>
   ZeJ hX (jump:=jump) c Z.ext Z.rel.st h4 (fun t t1 t2 t3=>hpost ex jump t hj t1 t2 t3)
  obtain ⟨t,b,q1,q2,q3,q4,q5⟩:=h4
  have:=o t q4
  cases ex with
  | normal=>exact fin _ rfl
  | ret=>exact fin _ rfl
  | exit id=>exact fin _ rfl
  | _=>simp [Wj] at this
 | _=>exact U.elim
theorem YJ {M0:Mem} {W0:World} {Q:AQ} {g:Operand} {ps:Array Tmp} {asg body:Code} {gf:FuncId} {caps:List AV} (items:Am) (Fr:St→Prop) (I:Nat→St→Prop) (Ix:Exit→St→Prop)
  (hg:Ba e true g) (hgv:AD e g = .clo gf caps) (hit:ZjL P w0 gf caps items Fr) (hlen:∀ x∈items,x.length=ps.size) (hps:∀ p∈ps.toList,p<n)
  (hFr:∀ i s la,I i s→s.like st→s.loops=st.loops→Fr (s.push la)) (h0:I 0 st) (hIx:∀ ex s,Ix ex s→ex = .ret∨∃ id,ex = .exit id)
  (hbody:∀ (i:Nat) (s1 X:St) (x:List AV) (M0:Mem) (W0:World) (l:Nat) (la la':LoopA),X.rows=[]→I i s1→s1.like st→s1.loops=st.loops→items[i]? = some x→RoundAt M0 ((s1.push la').ext X) →
   ∀ K:Env→St→Prop,(∀ e' s',s'.loops=((s1.push la).ext X).loops→(∀ KQ:AQ,(∀ ex e s,Zc3 (fun ex s=>match ex with | .normal=>I (i+1) s | _=>Ix ex s) s1 X la' ex e s→KQ ex e s)→F3 P w0 n M0 W0 (some l) body KQ e' { s' with loops:=((s1.push la').ext X).loops })→K e' s') →
   F3 P w0 n M0 W0 (some l) asg (YP K (fun _ _ _=>False)) (Zu e ps.toList x) ((s1.push la).ext X))
  (hdone:∀ s la X,X.rows=[]→I items.length s→s.like st→s.loops=st.loops→Q .normal e ((s.push la).ext X))
  (hleft:∀ ex s la X,X.rows=[]→Ix ex s→s.like st→s.loops=st.loops→Q ex e ((s.push la).ext X)):F3 P w0 n M0 W0 none (.rangeFunc g ps asg body) Q e st:=by
 intro m M a w f
 refine wpIn_rangeFunc fun fn _=>?_
 obtain ⟨n1,n2⟩:=f.rel.newLoop fn ps asg body
 obtain ⟨cs,ah,C⟩:=Zax (hgv▸BE f.rel hg)
 generalize hW1:((w.alloc (.deferred (some []))).alloc (.loop { state := .ready,pending:=none,fn,tmps:=a.tmps,params:=ps,assign:=asg,body,defers:=w.heap.size }))=W1 at n1 n2
 generalize hM1:M.newLoop (w.heap.size+1)=M1 at n1 n2
 have ad:M.NL=st.loops.length:=f.rel.st.loop.NL
 have E:M1.lb st.loops.length=w.heap.size+1:=by rw [←hM1,←ad];simp [Mem.newLoop]
 have Z:∀ k,k<st.loops.length→M1.lb k<w.heap.size:=fun k Y=>by
  obtain ⟨_,r,q,_⟩:=f.rel.st.loop.record k _ (List.getElem?_eq_getElem Y)
  rw [n2.lb k (by omega)]
  exact (Array.getElem?_eq_some_iff.1 q).1
 have ao:M1.NL=st.loops.length+1:=by rw [n1.loop.NL];simp [St.push]
 have z:W1.heap[w.heap.size]? = some (.deferred (some [])):=by
  rw [←hW1];exact (B6 _ _ (by simp)).trans (World.alloc_heap_new w _)
 let la0:LoopA:=⟨e,n,ps,asg,body,.ready,none⟩
 let J:Nat→St→Prop:=fun i s=>∃ s1,I i s1∧s1.like st∧s1.loops=st.loops∧s=s1.push la0
 let Jx:St→Prop:=fun s=>∃ ex c s1,Wj ex=some (some c)∧Ix ex s1∧s1.like st∧s1.loops=st.loops∧s=s1.push { la0 with st := .done,pend:=some c }
 have j:=hit st.loops.length J Jx (fun i s ⟨s1,F,u,j3,j4⟩=>⟨by rw [j4];exact hFr i s1 la0 F u j3,by rw [j4];simp [St.push,j3]⟩)
  (fun i s x X hX ⟨s1,F,u,j3,j4⟩ U=>by
   subst j4
   have:=Zed hX (P:=P) (w0:=w0) (la:=la0) (s1:=s1) (X:=X) (I:=fun ex s=>match ex with | .normal=>I (i+1) s | _=>Ix ex s) (x:=x)
    (Post:=fun r s'=>∃ t,s'=t.ext X∧t.like (s1.push la0)∧((r = .val (.bool true)∧J (i+1) t)∨(r = .val (.bool false)∧Jx t)))
    (hlen x (List.mem_of_getElem? U)) hps (fun M0 W0 l _ ai=>hbody i s1 X x M0 W0 l _ _ hX F u j3 U ai _ (fun e' s' h1 N=>⟨h1,N _ (fun _ _ _ h=>h)⟩))
    (fun ex s h=>by
     cases ex with
     | normal=>rfl
     | ret=>rfl
     | exit id=>rfl
     | _=>rcases hIx _ s h with h | ⟨id,h⟩<;>cases h)
    (fun ex am t hj V t2 t3=>by
     refine ⟨_,rfl,⟨V.1,V.2.1,by simp [St.push,t2]⟩,?_⟩
     have like':t.like st:=⟨V.1.trans u.1,Nat.le_trans u.2.1 V.2.1,V.2.2.trans u.2.2⟩
     cases ex with
     | normal=>cases hj;exact .inl ⟨rfl,t,t3,like',t2.trans j3,rfl⟩
     | ret=>cases hj;exact .inr ⟨rfl,.ret,.ret,t,rfl,t3,like',t2.trans j3,rfl⟩
     | exit id=>cases hj;exact .inr ⟨rfl,.exit id,.exit id,t,rfl,t3,like',t2.trans j3,rfl⟩
     | _=>cases hj)
   rw [j3] at this
   exact this)
  (st.push la0) ⟨st,h0,⟨rfl,Nat.le_refl _,rfl⟩,rfl,rfl⟩
 have G:RowR w0 M1 W1 (#[.func (.yield (w.heap.size+1)) #[] #[]]++cs) (.yld st.loops.length::caps):=by
  have e1:RowR w0 M1 W1 #[.func (.yield (w.heap.size+1)) #[] #[]] [.yld st.loops.length]:=by
   refine ⟨rfl,fun i h1 N=>?_⟩
   have:i=0:=by simp at N;exact N
   subst this
   have:=R.yld (w0:=w0) (M:=M1) (w:=W1) (k:=st.loops.length) (by omega)
   rw [E] at this
   exact this
  have e2:RowR w0 M1 W1 cs caps:=⟨C.1,fun i h1 N=>(C.2 i h1 N).mono n2⟩
  exact e1.append e2
 refine ⟨w.heap.size+1,[{ target := .collected w.heap.size,args := #[] }],W1,{ target := .fn (.func gf) cs,args := #[.func (.yield (w.heap.size+1)) #[] #[]] },W1,gf,
  #[.func (.yield (w.heap.size+1)) #[] #[]]++cs,W1,?_,?_,?_,?_,fun q=>Xb none q m,?_⟩
 ·rw [←hW1];exact run_enterLoop_outer _ _ _ _ _
 ·simp only [resolve,ah]
  simp [go_sem]
 ·intro f' _;exact YT none f'
 ·simp [invoke,go_sem,j.1 _ W1]
 ·refine Wi ((j.2 M1 W1 _ n1 G).mono ?_)
  rintro en w3 ⟨v,M3,r,s3,rfl,hp,x3,r3,_⟩
  have ae:M3.lb st.loops.length=w.heap.size+1:=(x3.lb _ (by omega)).trans E
  have d:∀ (s1 X:St) (p:Option Code) (b:LoopState),b ≠ .busy→s3=(s1.push { la0 with st:=b,pend:=p }).ext X→s1.loops=st.loops →
    ∃ O,(Instr.endLoop (w.heap.size+1)).run P w3 = .ok p O∧At w0 n M0 W0 e ((s1.push { la0 with st := .exhausted,pend:=p }).ext X) { a with defers:=[{ target := .collected w.heap.size,args := #[] }]++a.defers } O M3:=by
   intro s1 X p b ab hs3 aa
   subst hs3
   have Y:((s1.push { la0 with st:=b,pend:=p }).ext X).loops[st.loops.length]? = some { la0 with st:=b,pend:=p }:=by
    simp [St.push,St.ext,aa]
   obtain ⟨_,H,g1,g2,g3,_⟩:=r3.loop.record _ _ Y
   simp only at g2 g3
   obtain ⟨z1,z2⟩:=r3.setLoop Y .exhausted p g1
   rw [ae] at g1 z1 z2
   have o:=run_endLoop (P:=P) g1 (by rw [g2];exact ab)
   have er:({ H with state:=LoopState.exhausted,pending:=p }:Loop)={ H with state:=LoopState.exhausted }:=by rw [←g3]
   rw [er] at z1 z2
   have o:=o.trans (congrArg (fun q=>Result.ok q _) g3)
   have eL:{ ((s1.push { la0 with st:=b,pend:=p }).ext X) with loops:=((s1.push { la0 with st:=b,pend:=p }).ext X).loops.set st.loops.length { la0 with st := .exhausted,pend:=p } }=(s1.push { la0 with st := .exhausted,pend:=p }).ext X:=by
    simp only [St.push,St.ext,aa,List.append_assoc]
    rw [List.set_append_right _ _ (by simp)]
    simp
   simp only at z1
   have U:Ext w0 M w M3 (w3.putObj (w.heap.size+1) (.loop { H with state := .exhausted })):=n2.trans (x3.trans z2)
   refine ⟨_,o,⟨⟨?_,f.rel.size,fun s x hs=>(f.rel.env s x hs).mono U⟩,f.ext.trans U,?_⟩⟩
   ·rw [←eL];exact z1
   ·obtain ⟨Ds,d1,d2,d3⟩:=f.marks.later U f.rel.st
    obtain ⟨Ds',ap,ag,ak⟩:=f.marks
    have aj:Ds'=Ds:=by
     rw [ag] at d2
     have af:Function.Injective (fun D=>({ target := .collected D,args := #[] }:Deferred)):=fun x y h=>by simpa using h
     exact List.map_inj_right (fun x y h=>af h) |>.1 d2
    refine ⟨w.heap.size::Ds,List.nodup_cons.2 ⟨fun hm=>?_,d1⟩,by simp [d2],fun D hD=>?_⟩
    ·have:=(ak _ (aj▸hm)).2
     have:=(Array.getElem?_eq_some_iff.1 this).1
     omega
    ·rcases List.mem_cons.1 hD with rfl | hD
     ·refine ⟨f.ext.size,?_⟩
      rw [World.putObj_heap_other (by omega)]
      refine x3.objs _ _ z rfl fun k Y=>?_
      by_cases c:k=st.loops.length
      ·subst c;omega
      ·have:=Z k (by omega)
       omega
     ·exact d3 D hD
  obtain ⟨t,X,hX,rfl,hp⟩:=hp
  rcases hp with ⟨s1,F,u,j3,rfl⟩ | ⟨ex,c,s1,j0,F,u,j3,rfl⟩
  ·obtain ⟨O,q1,q2⟩:=d s1 X none .ready (by simp) rfl j3
   exact ⟨none,O,q1,M3,e,_,q2,hdone s1 _ X hX F u j3⟩
  ·obtain ⟨O,q1,q2⟩:=d s1 X (some c) .done (by simp) rfl j3
   refine ⟨some c,O,q1,?_⟩
   have hq:=hleft ex s1 { la0 with st := .exhausted,pend:=some c } X hX F u j3
   cases ex with
   | ret=>cases j0;exact wpIn_ret ⟨M3,e,_,q2,hq⟩
   | exit id=>cases j0;exact wpIn_exit ⟨M3,e,_,q2,hq⟩
   | _=>cases j0
end
attribute [go_sem] Tu eqCell.eq_1 eqCell.eq_2 eqCell.eq_3 OD Xo K0 argP Eo looks ZgS Op.operands Call.operands Array.toList_append Option.toArray evS NY Nu Ew BB Ba AD Eu MV EY YP Wn Zfx Xs ZeB ZaP Ku PC Q5 SJ J4 Vb Ei P1 inK Own.under AG JX St.ext St.push St.cut Zu RI nth evBin.eq_1 evBin.eq_2 evBin.eq_3 evBin.eq_4 evBin.eq_5 evBin.eq_6 evBin.eq_7 evBin.eq_8 evBin.eq_9 evBin.eq_10 evBin.eq_11 evBin.eq_12 evBin.eq_13 evBin.eq_14 evBin.eq_15 evBin.eq_16 evBin.eq_17 evBin.eq_18 evBin.eq_19 evBB.eq_1 evBB.eq_2 evUn.eq_1 evUn.eq_2
@[go_sem] theorem ZgK (v:Value):H6 (.val v:AV)=true:=rfl
@[go_sem] theorem Zfe (xs:List AV) (o:Own):H6 (.list xs o:AV)=false:=rfl
@[go_sem] theorem Zfa (x:AV) (k:Nat):H6 (.elem x k:AV)=false:=rfl
@[go_sem] theorem Zfw (l k:Nat):H6 (.box l k:AV)=false:=rfl
@[go_sem] theorem Zgx (f:FuncId) (cs:List AV):H6 (.clo f cs:AV)=false:=rfl
@[go_sem] theorem Zgo (cs:List AV):H6 (.agg cs:AV)=false:=rfl
@[go_sem] theorem ZgT (vs:List AV):H6 (.tup vs:AV)=false:=rfl
@[go_sem] theorem ZfM (k:Nat):H6 (.yld k:AV)=false:=rfl
@[go_sem] theorem ZfJ (id ver o n:Nat):H6 (.vec id ver o n:AV)=false:=rfl
@[go_sem] theorem ZgC (id ver o:Nat):H6 (.vel id ver o:AV)=false:=rfl
@[go_sem] theorem ZfL (v:Value):J5 (.val v:AV)=v:=rfl
@[go_sem] theorem Zjd (xs:List AV) (o:Own):Zr (.list xs o:AV)=false:=rfl
@[go_sem] theorem ZjD (x:AV) (k:Nat):Zr (.elem x k:AV)=false:=rfl
@[go_sem] theorem Zkf (l k:Nat):Zr (.box l k:AV)=false:=rfl
@[go_sem] theorem ZjN (f:FuncId) (cs:List AV):Zr (.clo f cs:AV)=false:=rfl
@[go_sem] theorem Zkl (cs:List AV):Zr (.agg cs:AV)=false:=rfl
@[go_sem] theorem Zkw (vs:List AV):Zr (.tup vs:AV)=false:=rfl
@[go_sem] theorem Zkq (k:Nat):Zr (.yld k:AV)=false:=rfl
@[go_sem] theorem ZjZ (id ver o n:Nat):Zr (.vec id ver o n:AV)=false:=rfl
@[go_sem] theorem Zke (id ver o:Nat):Zr (.vel id ver o:AV)=false:=rfl
@[go_sem] theorem Zha (xs:List AV) (o:Own):FO (.list xs o:AV)=false:=rfl
@[go_sem] theorem ZhC (x:AV) (k:Nat):FO (.elem x k:AV)=false:=rfl
@[go_sem] theorem ZiQ (l k:Nat):FO (.box l k:AV)=false:=rfl
@[go_sem] theorem Zis (f:FuncId) (cs:List AV):FO (.clo f cs:AV)=false:=rfl
@[go_sem] theorem ZiA (cs:List AV):FO (.agg cs:AV)=false:=rfl
@[go_sem] theorem Zit (vs:List AV):FO (.tup vs:AV)=false:=rfl
@[go_sem] theorem ZiE (k:Nat):FO (.yld k:AV)=false:=rfl
@[go_sem] theorem ZiY (id ver o n:Nat):FO (.vec id ver o n:AV)=false:=rfl
@[go_sem] theorem ZiH (id ver o:Nat):FO (.vel id ver o:AV)=false:=rfl
@[go_sem] theorem ZhH (xs:List AV) (o:Own):PZ (.list xs o:AV)=false:=rfl
@[go_sem] theorem ZhJ (x:AV) (k:Nat):PZ (.elem x k:AV)=false:=rfl
@[go_sem] theorem Zi9 (l k:Nat):PZ (.box l k:AV)=false:=rfl
@[go_sem] theorem Zim (f:FuncId) (cs:List AV):PZ (.clo f cs:AV)=false:=rfl
@[go_sem] theorem ZiM (cs:List AV):PZ (.agg cs:AV)=false:=rfl
@[go_sem] theorem ZiJ (vs:List AV):PZ (.tup vs:AV)=false:=rfl
@[go_sem] theorem ZiO (k:Nat):PZ (.yld k:AV)=false:=rfl
@[go_sem] theorem ZiF (id ver o n:Nat):PZ (.vec id ver o n:AV)=false:=rfl
@[go_sem] theorem Ziz (id ver o:Nat):PZ (.vel id ver o:AV)=false:=rfl
@[go_sem] theorem Zjo (b:Bool):Zr (.val (.bool b))=true:=rfl
@[go_sem] theorem ZjS (k:IntKind) (n:Int):Zr (.val (.int k n))=false:=rfl
@[go_sem] theorem Zkj (s:ByteArray):Zr (.val (.string s))=false:=rfl
@[go_sem] theorem Zij:Zr (.val undef)=false:=rfl
@[go_sem] theorem ZkR (b:Bool):LR (.val (.bool b))=b:=rfl
@[go_sem] theorem ZkV (k:IntKind) (n:Int):FO (.val (.int k n))=true:=rfl
@[go_sem] theorem ZkG (k:IntKind) (n:Int):A6 (.val (.int k n))=n:=rfl
@[go_sem] theorem Zkp (k:IntKind) (n:Int):L0 (.val (.int k n))=k:=rfl
@[go_sem] theorem Zli (s:ByteArray):PZ (.val (.string s))=true:=rfl
@[go_sem] theorem Zk2 (s:ByteArray):Zgh (.val (.string s))=s:=rfl
@[go_sem] theorem ZkK (n:Int):XZ (.val (.int .u8 n))=(0≤n∧n≤255):=rfl
@[go_sem] theorem Zgi (xs:List AV) (o:Own):Bj (.list xs o:AV)=xs:=rfl
@[go_sem] theorem Zhm (v:Value):C6 (.val v:AV)=false:=rfl
@[go_sem] theorem ZfU (xs:List AV) (o:Own):C6 (.list xs o:AV)=true:=rfl
@[go_sem] theorem ZgL (x:AV) (k:Nat):C6 (.elem x k:AV)=false:=rfl
@[go_sem] theorem Zg7 (l k:Nat):C6 (.box l k:AV)=false:=rfl
@[go_sem] theorem ZhS (f:FuncId) (cs:List AV):C6 (.clo f cs:AV)=false:=rfl
@[go_sem] theorem ZhG (cs:List AV):C6 (.agg cs:AV)=false:=rfl
@[go_sem] theorem ZhU (vs:List AV):C6 (.tup vs:AV)=false:=rfl
@[go_sem] theorem ZhA (k:Nat):C6 (.yld k:AV)=false:=rfl
@[go_sem] theorem Zhc (id ver o n:Nat):C6 (.vec id ver o n:AV)=false:=rfl
@[go_sem] theorem Zho (id ver o:Nat):C6 (.vel id ver o:AV)=false:=rfl
@[go_sem] theorem Zh6 (v:Value):FV (.val v:AV)=0:=rfl
@[go_sem] theorem Zhh (xs:List AV) (o:Own):FV (.list xs o:AV)=0:=rfl
@[go_sem] theorem Zhl (x:AV) (k:Nat):FV (.elem x k:AV)=k:=rfl
@[go_sem] theorem Zid (l k:Nat):FV (.box l k:AV)=k:=rfl
@[go_sem] theorem ZiV (f:FuncId) (cs:List AV):FV (.clo f cs:AV)=0:=rfl
@[go_sem] theorem Zig (cs:List AV):FV (.agg cs:AV)=0:=rfl
@[go_sem] theorem ZiB (vs:List AV):FV (.tup vs:AV)=0:=rfl
@[go_sem] theorem ZiN (k:Nat):FV (.yld k:AV)=0:=rfl
@[go_sem] theorem Zic (id ver o n:Nat):FV (.vec id ver o n:AV)=0:=rfl
@[go_sem] theorem ZiT (id ver o:Nat):FV (.vel id ver o:AV)=o:=rfl
@[go_sem] theorem ZiP (v:Value):QG (.val v:AV)=false:=rfl
@[go_sem] theorem Zhq (xs:List AV) (o:Own):QG (.list xs o:AV)=false:=rfl
@[go_sem] theorem Zhf (x:AV) (k:Nat):QG (.elem x k:AV)=false:=rfl
@[go_sem] theorem Ziu (l k:Nat):QG (.box l k:AV)=true:=rfl
@[go_sem] theorem Zik (f:FuncId) (cs:List AV):QG (.clo f cs:AV)=false:=rfl
@[go_sem] theorem Zjb (cs:List AV):QG (.agg cs:AV)=false:=rfl
@[go_sem] theorem Zi0 (vs:List AV):QG (.tup vs:AV)=false:=rfl
@[go_sem] theorem Zja (k:Nat):QG (.yld k:AV)=false:=rfl
@[go_sem] theorem Zh0 (id ver o n:Nat):QG (.vec id ver o n:AV)=false:=rfl
@[go_sem] theorem Zh7 (id ver o:Nat):QG (.vel id ver o:AV)=true:=rfl
@[go_sem] theorem Zhw (v:Value):CM (.val v:AV)=true:=rfl
@[go_sem] theorem Zgk (xs:List AV) (o:Own):CM (.list xs o:AV)=true:=rfl
@[go_sem] theorem Zfi (x:AV) (k:Nat):CM (.elem x k:AV)=true:=rfl
@[go_sem] theorem ZhI (l k:Nat):CM (.box l k:AV)=true:=rfl
@[go_sem] theorem Zhv (f:FuncId) (cs:List AV):CM (.clo f cs:AV)=true:=rfl
@[go_sem] theorem Zhr (cs:List AV):CM (.agg cs:AV)=true:=rfl
@[go_sem] theorem ZhM (vs:List AV):CM (.tup vs:AV)=false:=rfl
@[go_sem] theorem ZhB (k:Nat):CM (.yld k:AV)=true:=rfl
@[go_sem] theorem Zhn (id ver o n:Nat):CM (.vec id ver o n:AV)=true:=rfl
@[go_sem] theorem Zhe (id ver o:Nat):CM (.vel id ver o:AV)=true:=rfl
@[go_sem] theorem ZhT (v:Value):Il (.val v:AV)=false:=rfl
@[go_sem] theorem Zgz (xs:List AV) (o:Own):Il (.list xs o:AV)=false:=rfl
@[go_sem] theorem Zgp (x:AV) (k:Nat):Il (.elem x k:AV)=false:=rfl
@[go_sem] theorem Zg2 (l k:Nat):Il (.box l k:AV)=false:=rfl
@[go_sem] theorem Zg3 (f:FuncId) (cs:List AV):Il (.clo f cs:AV)=false:=rfl
@[go_sem] theorem Zhp (cs:List AV):Il (.agg cs:AV)=true:=rfl
@[go_sem] theorem Zhj (vs:List AV):Il (.tup vs:AV)=false:=rfl
@[go_sem] theorem ZhR (k:Nat):Il (.yld k:AV)=false:=rfl
@[go_sem] theorem Zht (id ver o n:Nat):Il (.vec id ver o n:AV)=false:=rfl
@[go_sem] theorem ZhK (id ver o:Nat):Il (.vel id ver o:AV)=false:=rfl
@[go_sem] theorem Ze9 (v:Value):AV.cells (.val v:AV)=[.val v]:=rfl
@[go_sem] theorem Ze1 (xs:List AV) (o:Own):AV.cells (.list xs o:AV)=[.list xs o]:=rfl
@[go_sem] theorem Zec (x:AV) (k:Nat):AV.cells (.elem x k:AV)=[.elem x k]:=rfl
@[go_sem] theorem Zfc (l k:Nat):AV.cells (.box l k:AV)=[.box l k]:=rfl
@[go_sem] theorem Zfd (f:FuncId) (cs:List AV):AV.cells (.clo f cs:AV)=[.clo f cs]:=rfl
@[go_sem] theorem Ep (cs:List AV):AV.cells (.agg cs:AV)=cs:=rfl
@[go_sem] theorem Zff (vs:List AV):AV.cells (.tup vs:AV)=[.tup vs]:=rfl
@[go_sem] theorem Ze7 (k:Nat):AV.cells (.yld k:AV)=[.yld k]:=rfl
@[go_sem] theorem Ze8 (id ver o n:Nat):AV.cells (.vec id ver o n:AV)=[.vec id ver o n]:=rfl
@[go_sem] theorem Zfb (id ver o:Nat):AV.cells (.vel id ver o:AV)=[.vel id ver o]:=rfl
@[go_sem] theorem Zhi (v:Value):AV.pub (.val v:AV) = .val v:=rfl
@[go_sem] theorem Zf0 (xs:List AV) (o:Own):AV.pub (.list xs o:AV) = .list xs .none:=rfl
@[go_sem] theorem Zgc (x:AV) (k:Nat):AV.pub (.elem x k:AV) = .elem x k:=rfl
@[go_sem] theorem Zhs (l k:Nat):AV.pub (.box l k:AV) = .box l k:=rfl
@[go_sem] theorem Zhd (f:FuncId) (cs:List AV):AV.pub (.clo f cs:AV) = .clo f cs:=rfl
@[go_sem] theorem Zg9 (cs:List AV):AV.pub (.agg cs:AV) = .agg (cs.map AV.pubCell):=rfl
@[go_sem] theorem Zg1 (vs:List AV):AV.pub (.tup vs:AV) = .tup vs:=rfl
@[go_sem] theorem ZhF (k:Nat):AV.pub (.yld k:AV) = .yld k:=rfl
@[go_sem] theorem Zhu (id ver o n:Nat):AV.pub (.vec id ver o n:AV) = .vec id ver o n:=rfl
@[go_sem] theorem ZhL (id ver o:Nat):AV.pub (.vel id ver o:AV) = .vel id ver o:=rfl
@[go_sem] theorem Zdw (v:Value):AV.pubCell (.val v:AV) = .val v:=rfl
@[go_sem] theorem ZcB (xs:List AV) (o:Own):AV.pubCell (.list xs o:AV) = .list xs .none:=rfl
@[go_sem] theorem Zcy (x:AV) (k:Nat):AV.pubCell (.elem x k:AV) = .elem x k:=rfl
@[go_sem] theorem Zdt (l k:Nat):AV.pubCell (.box l k:AV) = .box l k:=rfl
@[go_sem] theorem Zdh (f:FuncId) (cs:List AV):AV.pubCell (.clo f cs:AV) = .clo f cs:=rfl
@[go_sem] theorem ZdA (cs:List AV):AV.pubCell (.agg cs:AV) = .agg cs:=rfl
@[go_sem] theorem Zdp (vs:List AV):AV.pubCell (.tup vs:AV) = .tup vs:=rfl
@[go_sem] theorem ZdJ (k:Nat):AV.pubCell (.yld k:AV) = .yld k:=rfl
@[go_sem] theorem ZdC (id ver o n:Nat):AV.pubCell (.vec id ver o n:AV) = .vec id ver o n:=rfl
@[go_sem] theorem ZdZ (id ver o:Nat):AV.pubCell (.vel id ver o:AV) = .vel id ver o:=rfl
@[go_sem] theorem ZhQ (v:Value):AV.one (.val v:AV)=true:=rfl
@[go_sem] theorem Zf5 (xs:List AV) (o:Own):AV.one (.list xs o:AV)=true:=rfl
@[go_sem] theorem ZfW (x:AV) (k:Nat):AV.one (.elem x k:AV)=true:=rfl
@[go_sem] theorem Zhz (l k:Nat):AV.one (.box l k:AV)=true:=rfl
@[go_sem] theorem ZhO (f:FuncId) (cs:List AV):AV.one (.clo f cs:AV)=true:=rfl
@[go_sem] theorem Zhb (cs:List AV):AV.one (.agg cs:AV)=false:=rfl
@[go_sem] theorem Zhg (vs:List AV):AV.one (.tup vs:AV)=false:=rfl
@[go_sem] theorem Zhk (k:Nat):AV.one (.yld k:AV)=true:=rfl
@[go_sem] theorem Zhx (id ver o n:Nat):AV.one (.vec id ver o n:AV)=true:=rfl
@[go_sem] theorem ZhE (id ver o:Nat):AV.one (.vel id ver o:AV)=true:=rfl
@[go_sem] theorem Zhy (l o n:Nat):Uw (.box l o) n = .box l (o+n):=rfl
@[go_sem] theorem ZhN (id ver o n:Nat):Uw (.vel id ver o) n = .vel id ver (o+n):=rfl
@[go_sem] theorem Zgf (x:AV) (o n:Nat):Uw (.elem x o) n = .elem x (o+n):=rfl
@[go_sem] theorem ZkA (st:St) (l o:Nat) (xs:List AV):Xf st (.box l o) xs={ st with boxes:=st.boxes.set l (Dh (st.boxes.getD l []) o xs) }:=rfl
@[go_sem] theorem Zjy (a b:AV):AV.sel true a b=a:=by unfold AV.sel;split<;>rfl
@[go_sem] theorem ZiL (a b:AV):AV.sel false a b=b:=by unfold AV.sel;split<;>rfl
@[go_sem] theorem Zjv (t a b:Bool):AV.sel t (.val (.bool a)) (.val (.bool b)) = .val (.bool (cond t a b)):=by cases t<;>rfl
attribute [go_sem] Zeo W5 Xw Y9 UI Zc Y4 YF YZ Za
@[go_sem] theorem ZjM:LO []=[]:=rfl
@[go_sem] theorem Zku (t:Nat) (r:List Operand):LO (.tmp t::r)=t::LO r:=rfl
@[go_sem] theorem Zil (v:Value) (r:List Operand):LO (.const v::r)=LO r:=rfl
@[go_sem] theorem ZjI (f:FuncId) (r:List Operand):LO (.func f::r)=LO r:=rfl
@[go_sem] theorem ZhD (g:Nat) (r:List Operand):LO (.global g::r)=LO r:=rfl
@[go_sem] theorem Zlt (p:Prop):(False→p)=True:=eq_true False.elim
@[go_sem] theorem ZlL (p:Sort _):(p→True)=True:=eq_true fun _=>trivial
@[go_sem] theorem bif_f (b c:Bool):cond b c false=(b&&c):=by cases b<;>rfl
@[go_sem] theorem bif_t (b c:Bool):cond b true c=(b||c):=by cases b<;>rfl
@[go_sem] theorem ZlT (b c:Bool):cond true b c=b:=rfl
@[go_sem] theorem ZlR (b c:Bool):cond false b c=c:=rfl
@[go_sem] theorem ZkF (b:Bool):(b == true)=b:=by cases b<;>rfl
@[go_sem] theorem ZjQ (b:Bool):(b == false) = !b:=by cases b<;>rfl
attribute [go_sem] List.filterMap_nil List.append_nil List.nil_append List.cons_append Option.toList List.map_cons List.map_nil and_imp not_false_eq_true true_and and_true forall_const imp_self reduceIte List.getElem?_cons_zero List.getElem?_cons_succ Ae Bool.true_and Bool.and_true Bool.false_and Bool.and_false Bool.or_true Bool.true_or Bool.or_false Bool.false_or List.toList_toArray List.mem_cons List.not_mem_nil or_false false_or forall_eq forall_eq_or_imp decide_eq_true_eq decide_eq_false_iff_not Bool.not_true Bool.not_false Bool.not_not
@[go_sem] theorem Zl1 (b:Bool):((!b)=true)=(b=false):=by cases b<;>simp
@[go_sem] theorem ZlU (b:Bool):((!b)=false)=(b=true):=by cases b<;>simp
@[go_sem] theorem Zl2 (b c:Bool):((b&&c)=true)=(b=true∧c=true):=Bool.and_eq_true b c
@[go_sem] theorem ZkN (n:Nat):(no_index (@OfNat.ofNat Int n instOfNat)).toNat = @OfNat.ofNat Nat n (instOfNatNat n):=rfl
@[go_sem] theorem Zla (i:Decidable True) : @decide True i=true:=by cases i with | isTrue h=>rfl | isFalse h=>exact absurd trivial h
@[go_sem] theorem ZkJ (i:Decidable False) : @decide False i=false:=by cases i with | isTrue h=>exact h.elim | isFalse h=>rfl
@[go_sem] theorem ZlW (b:Bool):(b == b)=true:=by cases b<;>rfl
@[go_sem] theorem ff_tt:(false=true)=False:=eq_false (by decide)
@[go_sem] theorem tt_ff:(true=false)=False:=eq_false (by decide)
@[go_sem] theorem Zev (B l:Am) (R:Aq) (L:Ar) (k o:Nat):Et ⟨B++l,R,L⟩ (.box (B.length+k) o)=decide (k<l.length):=by simp [Et]
@[go_sem] theorem Zc0 (B l:Am) (R:Aq) (L:Ar) (o:Nat):Et ⟨B++l,R,L⟩ (.box B.length o)=decide (0<l.length):=by simp [Et]
@[go_sem] theorem Zj1 (s:St) (x:AV) (o:Nat):Et s (.elem x o)=CM x:=by cases x<;>rfl
@[go_sem] theorem ZaK (B l:Am) (k:Nat):(B++l).getD (B.length+k) []=l.getD k []:=by
 rw [List.getD_eq_getElem?_getD,List.getElem?_append_right (by omega),Nat.add_sub_cancel_left,List.getD_eq_getElem?_getD]
@[go_sem] theorem YW (B l:Am):(B++l).getD B.length []=l.getD 0 []:=by
 rw [List.getD_eq_getElem?_getD,List.getElem?_append_right (by omega),Nat.sub_self,List.getD_eq_getElem?_getD]
@[go_sem] theorem Zjc (B l:Am) (R:Aq) (L:Ar) (k o:Nat):BK ⟨B++l,R,L⟩ (.box (B.length+k) o)=l.getD k []:=ZaK B l k
@[go_sem] theorem Zi3 (B l:Am) (R:Aq) (L:Ar) (o:Nat):BK ⟨B++l,R,L⟩ (.box B.length o)=l.getD 0 []:=YW B l
@[go_sem] theorem ZhW (s:St) (x:AV) (o:Nat):BK s (.elem x o)=x.cells:=rfl
@[go_sem] theorem ZhZ (B l:Am) (k:Nat) (x:List AV):(B++l).set (B.length+k) x=B++l.set k x:=by rw [List.set_append_right _ _ (by omega),Nat.add_sub_cancel_left]
@[go_sem] theorem Zk8 (B l:Am) (x:List AV):(B++l).set B.length x=B++l.set 0 x:=by rw [List.set_append_right _ _ (by omega),Nat.sub_self]
attribute [go_sem] List.take_succ_cons List.take_zero List.take_nil List.drop_succ_cons List.drop_zero List.drop_nil Int.toNat_natCast List.append_assoc List.length_cons List.length_nil Nat.zero_add Nat.add_zero List.set_cons_zero List.set_cons_succ List.getD_cons_zero List.getD_cons_succ
@[go_sem] theorem Zj4 (x v:AV):Dh [x] 0 [v]=[v]:=rfl
theorem Bl {P:Program} {f:FuncId} {fn:Func} (hf:P.funcs[f]? = some fn) (hb:fn.body.isSome=true) (hn:fn.name ≠ "runtime.NumGoroutine"):MU P f:=by
 obtain ⟨c,a⟩:=Option.isSome_iff_exists.1 hb
 exact Ev.Zd8 hf a hn
theorem MC {P:Program} {w0:World} {f:FuncId} {args:List AV} {st:St} {r:Value} (hen:MU P f) (hr:J4 r=true)
  (h:∀ (M:Mem) (w:World) (vals:Array Value),Below w0.heap.size w0 w→RowR w0 M w vals args→Calls P f vals w fun en w'=>en = .returned r∧Below w.heap.size w w'):ACalls P w0 f args st fun v s=>v = .val r∧s=st :=
 ⟨hen,fun M w vals a b=>(h M w vals a.below b).mono fun en w' ⟨g,c⟩=>by
  obtain ⟨e,d⟩:=a.later c w.heap.size 0 (Nat.le_refl _) (.inr rfl)
  exact ⟨r,_,_,st,g,⟨rfl,rfl⟩,d,e,.flat hr⟩⟩
theorem TG {w0:World} {M:Mem} {w:World} {vals:Array Value} {us:List Value} (h:RowR w0 M w vals (us.map .val)):vals=us.toArray:=by
 apply Array.ext
 ·simpa using h.1
 ·intro i b c
  have a:i<us.length:=by simpa using c
  have:=h.2 i b (by simpa using a)
  simp only [List.getElem_map] at this
  simp only [List.getElem_toArray]
  exact this.val_inv.1
@[go_sem] theorem Ym (P:Program) (st:St) (t:TypeId) (xs:List AV) (x:AV):B2 P st t (.list xs .full) x=match OV P t with
  | some (el,sz,_,by8)=>if (Bj x).length=0 then (C6 x=true∧0<sz,.list xs .full,st)
   else (C6 x=true∧D1 P el sz by8 xs.length (Bj x)∧(∀ y∈xs,y.cells.length=sz),.list (xs++(Bj x).map AV.pub) (.row st.rows.length),{ st with rows:=st.rows++[.grow (xs.length+(Bj x).length) sz] })
  | none=>(False,.junk,st):=rfl
@[go_sem] theorem ZI (P:Program) (st:St) (t:TypeId) (xs:List AV) (id:Nat) (x:AV):B2 P st t (.list xs (.row id)) x=match OV P t with
  | some (el,sz,_,by8)=>(C6 x=true∧D1 P el sz by8 xs.length (Bj x)∧(∀ y∈xs,y.cells.length=sz)∧st.rows[id]? = some (.grow xs.length sz),.list (xs++(Bj x).map AV.pub) (.row id),{ st with rows:=st.rows.set id (.grow (xs.length+(Bj x).length) sz) })
  | none=>(False,.junk,st):=rfl
@[go_sem] theorem Zg5 (P:Program) (st:St) (t:TypeId) (ys:List AV) (x:AV):B2 P st t (.list ys .seed) x=match OV P t with
  | some (el,sz,_,by8)=>(C6 x=true∧D1 P el sz by8 0 (Bj x)∧ys.length=0∧0<(Bj x).length,.vec st.rows.length 0 0 (Bj x).length,{ st with rows:=st.rows++[.vec 0 sz ((Bj x).flatMap fun y=>y.pub.cells)] })
  | none=>(False,.junk,st):=rfl
@[go_sem] theorem ZiK (P:Program) (st:St) (t:TypeId) (id ver o n:Nat) (x:AV):B2 P st t (.vec id ver o n) x=match OV P t with
  | some (el,sz,_,by8)=>match IH st.rows id ver with
   | some (sz',cs)=>(C6 x=true∧D1 P el sz by8 n (Bj x)∧sz'=sz∧o=0∧n*sz≤cs.length,.vec id (ver+1) 0 (n+(Bj x).length),{ st with rows:=st.rows.set id (.vec (ver+1) sz (cs.take (n*sz)++(Bj x).flatMap fun y=>y.pub.cells)) })
   | none=>(False,.junk,st)
  | none=>(False,.junk,st):=rfl
attribute [go_sem] D1
@[go_sem] theorem ZkL (s:St) (id ver o:Nat):Et s (.vel id ver o)=(IH s.rows id ver).isSome:=rfl
@[go_sem] theorem Zje (s:St) (id ver o:Nat):BK s (.vel id ver o)=match IH s.rows id ver with | some (_,cs)=>cs | none=>[]:=rfl
@[go_sem] theorem Zg8 (st:St) (id ver o:Nat) (xs:List AV):Xf st (.vel id ver o) xs=match IH st.rows id ver with
  | some (sz,cs)=>{ st with rows:=st.rows.set id (.vec ver sz (Dh cs o xs)) }
  | none=>st:=rfl
def Grow (Rw:Aq) (sz:Nat) (xs:List AV) (o:Own) (r:Aq):Prop:=(xs=[]∧o = .full∧r=[])∨(o = .row Rw.length∧r=[.grow xs.length sz])
theorem Grow.nil (Rw:Aq) (sz:Nat):Grow Rw sz [] .full [] := .inl ⟨rfl,rfl,rfl⟩
theorem Grow.more (Rw:Aq) (sz:Nat) (xs:List AV) (n:Nat) (h:xs.length=n):Grow Rw sz xs (.row Rw.length) [.grow n sz] := .inr ⟨rfl,by rw [h]⟩
theorem Grow.len {Rw r:List RowA} {sz:Nat} {xs:List AV} {o:Own} (h:Grow Rw sz xs o r):r.length≤1:=by
 rcases h with ⟨_,_,rfl⟩ | ⟨_,rfl⟩<;>simp
theorem Yr {P:Program} {t el:TypeId} {sz by8:Nat} {ag:Bool} {Rw r:List RowA} {xs:List AV} {o:Own} (he:OV P t=some (el,sz,ag,by8)) (hz:(EW P el).isSome=true) (hs:0<sz) (h:Grow Rw sz xs o r) (B:Am) (L:Ar) (y:AV) (o2:Own) :
  B2 P ⟨B,Rw++r,L⟩ t (.list xs o) (.list [y] o2)=(((xs.length+1)*by8≤140737488355328∧xs.length+1≤4611686018427387904∧(∀ y∈xs,y.cells.length=sz)∧y.cells.length=sz∧CM y=true),.list (xs++[y.pub]) (.row Rw.length),⟨B,Rw++[.grow (xs.length+1) sz],L⟩):=by
 rcases h with ⟨rfl,rfl,rfl⟩ | ⟨rfl,rfl⟩
 ·rw [Ym,he];simp [Bj,C6,D1,hz,hs]
 ·rw [ZI,he];simp [Bj,C6,D1,hz,hs]
  exact ⟨fun ⟨⟨a,b,c,d⟩,e⟩=>⟨a,b,e,c,d⟩,fun ⟨a,b,e,c,d⟩=>⟨⟨a,b,c,d⟩,e⟩⟩
def ZdL (c:Option IntKind × Bool) (x y:AV):Prop :=
 match x,y with
 | .val (.int k _),.val (.int k' _)=>c.1.isSome=true∧k=k'
 | .val (.string _),.val (.string _)=>c=(none,true)
 | .val (.bool _),.val (.bool _)=>c=(none,false)
 | _,_=>False
def ZgG (P:Program) (t:TypeId):Option (Option IntKind × Bool) :=
 match Ql P t with
 | some k=>some (some k,false)
 | none=>if M6 P t=true then some (none,true) else if P4 P t=true then some (none,false) else none
def Wb (P:Program):List Field→Nat→Option (List (Option IntKind × Bool))
 | [],_=>some []
 | f::fs,i=>if f.name ≠ "_" ∧ f.offset=i∧MZ P f.type=some (1,false) then
   match ZgG P f.type,Wb P fs (i+1) with
   | some k,some ks=>some (k::ks)
   | _,_=>none
  else none
def ZfB (P:Program) (t:TypeId):Option (List (Option IntKind × Bool)) :=
 match eqT P t with
 | some fs=>Wb P fs 0
 | none=>none
def obK:List (Option IntKind × Bool)→List AV→List AV→Prop
 | [],[],[]=>True
 | k::ks,x::xs,y::ys=>ZdL k x y∧obK ks xs ys
 | _,_,_=>False
theorem Zeu {P:Program} {t:TypeId} {k:Option IntKind × Bool} (h:ZgG P t=some k) (x y:AV):Ni P t x y=ZdL k x y:=by
 have c:∀ j,Ql P t=some j→M6 P t=false∧P4 P t=false:=fun j hj=>by
  unfold Ql at hj
  unfold M6 P4
  split at hj
  ·rename_i q;rw [q];exact ⟨rfl,rfl⟩
  ·cases hj
 have b:M6 P t=true→P4 P t=false:=fun hj=>by
  unfold M6 at hj
  unfold P4
  split at hj
  ·rename_i q;rw [q]
  ·cases hj
 unfold ZgG at h
 unfold Ni ZdL
 cases hi:Ql P t with
 | some j =>
  obtain ⟨q1,q2⟩:=c j hi
  rw [hi] at h
  cases h
  rw [q1,q2]
  split<;>simp
 | none =>
  rw [hi] at h
  simp only at h
  by_cases hs:M6 P t=true
  ·rw [Ah hs] at h
   cases h
   rw [hs,b hs]
   split<;>simp
  ·rw [Ai hs] at h
   have a:M6 P t=false:=by simpa using hs
   by_cases hb:P4 P t=true
   ·rw [Ah hb] at h
    cases h
    rw [a,hb]
    split<;>simp
   ·rw [Ai hb] at h;cases h
theorem ZdD {P:Program}:∀ (fs:List Field) (i:Nat) (ks:List (Option IntKind × Bool)),Wb P fs i=some ks→∀ xs ys,Zau P fs i xs ys=obK ks xs ys
 | [],i,ks,h,xs,ys=>by
  cases h
  cases xs<;>cases ys<;>simp [Zau,obK]
 | f::fs,i,ks,h,xs,ys=>by
  unfold Wb at h
  split at h
  ·rename_i q
   split at h
   ·rename_i k ks' h1 h2
    cases h
    cases xs with
    | nil=>cases ys<;>simp [Zau,obK]
    | cons x xs=>cases ys with
     | nil=>simp [Zau,obK]
     | cons y ys =>
      simp only [Zau,obK,ZdD fs (i+1) ks' h2 xs ys,Zeu h1,q,true_and]
      simp [q.1]
   ·cases h
  ·cases h
theorem Zel {P:Program} {t:TypeId} {ks:List (Option IntKind × Bool)} (h:ZfB P t=some ks) (xs ys:List AV):Vj P .eql t xs ys=(obK ks xs ys,Tu xs ys):=by
 unfold ZfB at h
 split at h
 ·rename_i fs q
  simp only [Vj,q,ZdD fs 0 ks h]
 ·cases h
attribute [go_sem] ZdL obK
section
variable {P:Program} {w0:World} {n:Nat} {M:Mem} {e:Env} {st:St} {a:Act} {w:World}
theorem R.seed {v:Value} (h:R w0 M w v (.list [] .full)):R w0 M w v (.list [] .seed):=by
 cases h with
 | nil ho=>exact .nil (fun id=>by simp)
 | emp ho=>exact .emp (fun id=>by simp)
 | list sz us hc hm hcell hu ho=>exact .list (xs:=[]) sz us hc hm hcell hu ho
theorem OJ {M0:Mem} {W0:World} {ro:Option Nat} {Q:AQ} {c:Code} (e':Env) (st':St)
  (hc:∀ M a w,Rel w0 n M e st a w→∃ M',Ext w0 M w M' w∧Rel w0 n M' e' st' a w) (h:F3 P w0 n M0 W0 ro c Q e' st'):F3 P w0 n M0 W0 ro c Q e st:=by
 intro m M a w b
 obtain ⟨M',d,f⟩:=hc M a w b.rel
 exact h m M' a w ⟨f,b.ext.trans d,b.marks.later d b.rel.st⟩
theorem Rel.relabel (h:Rel w0 n M e st a w) (k:Nat) (x:AV) (hx:R w0 M w (a.tmps.getD k undef) x):Rel w0 n M ((k,true,x)::e) st a w :=
 ⟨h.st,h.size,fun s y hs=>by
  simp only [Eu] at hs
  by_cases q:k=s
  ·subst q
   rw [Ah rfl] at hs
   cases hs
   exact hx
  ·rw [Ai q] at hs
   exact h.env s y hs⟩
theorem RelSt.setBox (h:RelSt w0 M st w) {l i:Nat} {cs:List AV} (hl:st.boxes[l]? = some cs) {x y:AV} (hi:cs[i]? = some x) (hone:y.one=true) (hR:∀ v,R w0 M w v x→R w0 M w v y) :
  RelSt w0 M { st with boxes:=st.boxes.set l (cs.set i y) } w:=by
 have f:l<st.boxes.length:=(Aj.1 hl).1
 have g:i<cs.length:=(Aj.1 hi).1
 refine ⟨h.below,by simp [h.N],h.NR,h.top,h.inj,fun d a hl'=>?_,h.row,h.rowinj,h.loop⟩
 by_cases q:d=l
 ·subst q
  rw [List.getElem?_set_self f] at hl'
  cases hl'
  obtain ⟨a1,a2,c,n,a3,a4,a5,a6⟩:=h.box d cs hl
  refine ⟨a1,a2,c,n,a3,by simp [a4],fun z b=>?_,fun j k m=>?_⟩
  ·rcases List.mem_or_eq_of_mem_set b with b | rfl
   ·exact a5 z b
   ·exact hone
  ·by_cases e:j=i
   ·subst e
    rw [List.getElem_set_self]
    obtain ⟨q1,q2⟩:=Aj.1 hi
    exact hR _ (q2▸a6 j k q1)
   ·rw [List.getElem_set_ne (Ne.symm e)]
    exact a6 j k (by simpa using m)
 ·rw [List.getElem?_set_ne (Ne.symm q)] at hl'
  exact h.box d a hl'
theorem JV {M0:Mem} {W0:World} {ro:Option Nat} {Q:AQ} {c:Code} (l i:Nat) {cs:List AV} (hl:st.boxes[l]? = some cs) (hi:cs[i]? = some (.list [] .full)) (h:F3 P w0 n M0 W0 ro c Q e { st with boxes:=st.boxes.set l (cs.set i (.list [] .seed)) }):F3 P w0 n M0 W0 ro c Q e st :=
 OJ _ _ (fun M a w b=>⟨M,.refl _ _ _,b.st.setBox hl hi rfl (fun v hv=>hv.seed),b.size,b.env⟩) h
def Ru (sz:Nat) (ag:Bool) (cs:List AV) (o m:Nat):List AV:=(List.range m).map fun i=>RI ag cs ((o+i)*sz) sz
theorem Zbv (sz:Nat) (ag:Bool) (cs:List AV) (o m:Nat):(Ru sz ag cs o m).length=m:=by simp [Ru]
def Mem.freeze (M:Mem) (id k:Nat):Mem:={ M with fr:=fun i=>if i=id then M.fr i+1 else M.fr i,top:=fun b=>if b=M.blk id then k else M.top b }
theorem RelSt.freeze (h:RelSt w0 M st w) {id ver sz:Nat} {cs:List AV} (hid:st.rows[id]? = some (.vec ver sz cs)) :
  Ext w0 M w (M.freeze id cs.length) w∧RelSt w0 (M.freeze id cs.length) { st with rows:=st.rows.set id (.dead (ver+1)) } w:=by
 have a:id<st.rows.length:=(Aj.1 hid).1
 have d:id<M.NR:=by rw [h.NR];exact a
 obtain ⟨C,K,F,f4,r,O,Q,c,t,p,U,D,G,y⟩:=h.row id _ hid
 have f:Ext w0 M w (M.freeze id cs.length) w :=
  ⟨Nat.le_refl _,fun _ _=>rfl,Nat.le_refl _,fun i hi=>by
   simp only [Mem.freeze]
   by_cases q:i=id
   ·rw [Ah q];exact ⟨Nat.le_succ _,fun e=>absurd e (by omega)⟩
   ·rw [Ai q];exact ⟨Nat.le_refl _,fun _=>⟨trivial,trivial,trivial⟩⟩,fun b E v hi z=>⟨z,hi.imp (fun q=>q) fun q=>by
    simp only [Mem.freeze]
    split
    ·rename_i e;rw [e,f4] at q;omega
    ·exact q⟩,Nat.le_refl _,Nat.le_refl _,fun _ _=>rfl,fun _ n g=>absurd g (Nat.not_lt.2 n),fun _ _ h _ _=>h⟩
 refine ⟨f,h.below,h.N,by simp [Mem.freeze,h.NR],fun b H=>?_,h.inj,fun l j u=>?_,fun i x hi=>?_,h.rowinj,h.loop.mono f rfl (KeepsObj.refl _)⟩
 ·have J:=(Array.getElem?_eq_some_iff.1 p).1
  simp only [Mem.freeze]
  rw [Aa]
  exact h.top b H
 ·obtain ⟨a1,a2,c,t,a3,a4,a5,a6⟩:=h.box l j u
  have m:l<M.N:=by rw [h.N];exact (Aj.1 u).1
  refine ⟨a1,?_,c,t,a3,a4,a5,fun i n g=>(a6 i n g).mono f⟩
  show (M.freeze id cs.length).top (M.bx l)=0
  simp only [Mem.freeze]
  rw [Ai (r l m)]
  exact a2
 ·by_cases q:i=id
  ·subst q
   rw [List.getElem?_set_self a] at hi
   cases hi
   exact ⟨by simp [Mem.freeze,C],F,r,(Array.getElem?_eq_some_iff.1 p).1⟩
  ·rw [List.getElem?_set_ne (Ne.symm q)] at hi
   have k:i<M.NR:=by rw [h.NR];exact (Aj.1 hi).1
   have s:=h.row i x hi
   have o:M.blk i≠M.blk id:=fun e=>q (h.rowinj i id k d e)
   exact s.keep f (by simp [Mem.freeze,q]) rfl rfl rfl (by simp [Mem.freeze,o]) s.ne rfl
theorem R.freeze (h:RelSt w0 M st w) {id ver sz:Nat} {cs:List AV} (hid:st.rows[id]? = some (.vec ver sz cs)) {ag:Bool} (hag:ag=true∨sz=1) {o m:Nat} (hb:(o+m)*sz≤cs.length) {v:Value} (hv:R w0 M w v (.vec id ver o m)) :
  R w0 (M.freeze id cs.length) w v (.list (Ru sz ag cs o m) .none):=by
 obtain ⟨K,_⟩:=h.freeze hid
 obtain ⟨D,E,V,U,N,O,Q,c,G,C,Y,F,r,n⟩:=h.row id _ hid
 cases hv with
 | @vec _ _ _ _ p cap d hver hh =>
 obtain ⟨rfl,z,H⟩:=hh D.symm
 have s:(Ru sz ag cs o m).length=m:=Zbv _ _ _ _ _
 have k:∀ i,i<m→(o+i)*sz+sz≤cs.length:=fun i d=>by
  have:(o+i+1)*sz≤(o+m)*sz:=Nat.mul_le_mul_right _ (by omega)
  rw [Nat.succ_mul] at this
  omega
 let us:Nat→Value:=fun i=>if ag then .agg ((List.range sz).map fun j=>c.getD ((o+i)*sz+j) undef).toArray else c.getD ((o+i)*sz) undef
 have t:∀ i,i<m→R w0 M w (us i) (RI ag cs ((o+i)*sz) sz):=fun i d=>by
  refine Ul (f:=fun j=>c.getD ((o+i)*sz+j) undef) r (k i d) hag (fun j l=>?_)
  have a:(o+i)*sz+j<c.size:=by omega
  rw [Array.getD_eq_getD_getElem?,Array.getElem?_eq_getElem a]
  exact n _ a l
 have g:∀ i,i<m→(us i).cells.size=sz∧∀ j,j<sz→(us i).cells[j]? = c[(o+i)*sz+j]? := fun i d=>by
  by_cases q:ag=true
  ·have e:us i = .agg ((List.range sz).map fun j=>c.getD ((o+i)*sz+j) undef).toArray:=by simp [us,q]
   rw [e]
   refine ⟨by simp [Value.cells],fun j l=>?_⟩
   have a:(o+i)*sz+j<c.size:=by have:=k i d;omega
   simp [Value.cells,l,Array.getElem?_eq_getElem a]
  ·have x:sz=1:=hag.resolve_left q
   have e:us i=c.getD ((o+i)*sz) undef:=by simp [us,q]
   have a:(o+i)*sz<c.size:=by have:=k i d;omega
   have y:(o+i)*sz<cs.length:=by have:=k i d;omega
   have u:=(n _ a y).cells_one (r _ (List.getElem_mem _))
   rw [e,Array.getD_eq_getD_getElem?,Array.getElem?_eq_getElem a,Option.getD_some,u.1]
   refine ⟨by simp [x],fun j l=>?_⟩
   obtain rfl:j=0:=by omega
   simp [Array.getElem?_eq_getElem a]
 have:=R.list (w0:=w0) (M:=M.freeze id cs.length) (w:=w) (b:=M.blk id) (off:=o*sz) (cap:=cap) (xs:=Ru sz ag cs o m) (o := .none) sz us (by rw [s];exact H) (by omega)
  (fun i d=>by
   rw [s] at d
   refine ⟨(g i d).1,fun j l=>⟨.inr ?_,?_⟩⟩
   ·have J:=k i d
    rw [Nat.add_mul] at J
    simp only [Mem.freeze,if_true]
    omega
   ·rw [(g i d).2 j l,Nat.add_mul,cell_of_row w _ _ c G _ C]) (fun i d=>by
   rw [s] at d
   simp only [Ru,List.getElem_map,List.getElem_range]
   exact (t i d).mono K) trivial
 rw [s] at this
 rw [E]
 exact this
theorem QN {M0:Mem} {W0:World} {ro:Option Nat} {Q:AQ} {c:Code} (l i:Nat) {id ver sz o m:Nat} {bs cs:List AV} (ag:Bool) (hl:st.boxes[l]? = some bs) (hi:bs[i]? = some (.vec id ver o m)) (hid:IH st.rows id ver=some (sz,cs)) (hag:ag=true∨sz=1) (hb:(o+m)*sz≤cs.length)
  (h:F3 P w0 n M0 W0 ro c Q e { st with boxes:=st.boxes.set l (bs.set i (.list (Ru sz ag cs o m) .none)),rows:=st.rows.set id (.dead (ver+1)) }):F3 P w0 n M0 W0 ro c Q e st :=
 OJ _ _ (fun M a w d=>by
  obtain ⟨u,b⟩:=d.st.freeze (I5 hid)
  have f:=d.st.box l bs hl
  obtain ⟨a1,a2,c,O,a3,a4,a5,a6⟩:=f
  obtain ⟨q1,q2⟩:=Aj.1 hi
  have K:R w0 (M.freeze id cs.length) w (c[i]'(by omega)) (.list (Ru sz ag cs o m) .none):=R.freeze d.st (I5 hid) hag hb (q2▸a6 i (by omega) q1)
  have t:l<st.boxes.length:=(Aj.1 hl).1
  refine ⟨_,u,⟨b.below,by simpa using b.N,b.NR,b.top,b.inj,fun k g hl'=>?_,b.row,b.rowinj,b.loop⟩,d.size,fun s x hs=>(d.env s x hs).mono u⟩
  by_cases q:k=l
  ·subst q
   simp only [List.getElem?_set_self t,Option.some.injEq] at hl'
   subst hl'
   obtain ⟨C,G,y,p,v,F,E,H⟩:=b.box k bs hl
   have ec:y=c:=by
    have:=v.symm.trans a3
    simp only [Option.some.injEq,Obj.cells.injEq] at this
    exact this.1
   subst ec
   refine ⟨C,G,y,p,v,by simp [F],fun z r=>?_,fun j D J=>?_⟩
   ·rcases List.mem_or_eq_of_mem_set r with r | rfl
    ·exact E z r
    ·rfl
   ·by_cases e:j=i
    ·subst e
     rw [List.getElem_set_self]
     exact K
    ·rw [List.getElem_set_ne (Ne.symm e)]
     exact H j D (by simpa using J)
  ·simp only [List.getElem?_set_ne (Ne.symm q)] at hl'
   exact b.box k g hl') h
end
def AV.pubA:AV→AV
 | .tup vs => .tup (vs.map AV.pub)
 | .agg cs => .agg (cs.map AV.pubCell)
 | .list xs _ => .list xs .none
 | x=>x
section
variable (vs cs xs:List AV) (o:Own) (v:Value) (x:AV) (i j k m:Nat)
@[go_sem] theorem Zld:AV.pubA (.tup vs) = .tup (vs.map AV.pub):=rfl
@[go_sem] theorem Zk9:AV.pubA (.agg cs) = .agg (cs.map AV.pubCell):=rfl
@[go_sem] theorem ZkQ:AV.pubA (.list xs o) = .list xs .none:=rfl
@[go_sem] theorem MS:AV.pubA (.val v) = .val v:=rfl
@[go_sem] theorem ZkB:AV.pubA (.elem x i) = .elem x i:=rfl
@[go_sem] theorem Zlk:AV.pubA (.box i j) = .box i j:=rfl
@[go_sem] theorem Zk5:AV.pubA (.clo i xs) = .clo i xs:=rfl
@[go_sem] theorem Zlj:AV.pubA (.yld i) = .yld i:=rfl
@[go_sem] theorem Zle:AV.pubA (.vec i j k m) = .vec i j k m:=rfl
@[go_sem] theorem ZkU:AV.pubA (.vel i j k) = .vel i j k:=rfl
@[go_sem] theorem ZlH:AV.pub (.agg cs) = .agg (cs.map AV.pubCell):=rfl
@[go_sem] theorem Zlu:AV.pub (.list xs o) = .list xs .none:=rfl
@[go_sem] theorem ZlG:AV.pub (.val v) = .val v:=rfl
@[go_sem] theorem Zlp:AV.pub (.elem x i) = .elem x i:=rfl
@[go_sem] theorem ZlD:AV.pub (.box i j) = .box i j:=rfl
@[go_sem] theorem Zlv:AV.pub (.clo i xs) = .clo i xs:=rfl
@[go_sem] theorem ZlO:AV.pub (.yld i) = .yld i:=rfl
@[go_sem] theorem ZlB:AV.pub (.vec i j k m) = .vec i j k m:=rfl
@[go_sem] theorem Zlx:AV.pub (.vel i j k) = .vel i j k:=rfl
@[go_sem] theorem ZiR:AV.pubCell (.list xs o) = .list xs .none:=rfl
@[go_sem] theorem ZjF:AV.pubCell (.val v) = .val v:=rfl
@[go_sem] theorem Zi1:AV.pubCell (.elem x i) = .elem x i:=rfl
@[go_sem] theorem Zjx:AV.pubCell (.box i j) = .box i j:=rfl
@[go_sem] theorem Zjm:AV.pubCell (.clo i xs) = .clo i xs:=rfl
@[go_sem] theorem Zjg:AV.pubCell (.yld i) = .yld i:=rfl
@[go_sem] theorem ZjH:AV.pubCell (.vec i j k m) = .vec i j k m:=rfl
@[go_sem] theorem Zju:AV.pubCell (.vel i j k) = .vel i j k:=rfl
end
theorem R.pubA {w0:World} {M:Mem} {w:World} {v:Value} {x:AV} (h:R w0 M w v x):R w0 M w v x.pubA:=by
 cases h with
 | tup hl h=>exact .tup (by simpa using hl) (fun i a b=>by simp only [List.getElem_map];exact (h i a (by simpa using b)).pub)
 | flat hf=>exact (R.flat hf).pub
 | agg hl h1 h=>exact (R.agg hl h1 h).pub
 | nil ho=>exact (R.nil ho).pub
 | emp ho=>exact (R.emp ho).pub
 | list sz us hc hm hcell hu ho=>exact (R.list sz us hc hm hcell hu ho).pub
 | elem u k hcell hu=>exact (R.elem u k hcell hu).pub
 | box hl=>exact (R.box hl).pub
 | clo hl h=>exact (R.clo hl h).pub
 | yld hk=>exact (R.yld hk).pub
 | vec hi hv h=>exact (R.vec hi hv h).pub
 | vel hi hv h=>exact (R.vel hi hv h).pub
section
variable {P:Program} {w0:World} {st:St} {f:FuncId}
theorem ACalls.pub {args args':List AV} {Post:AV→St→Prop} (h:ACalls P w0 f args' st Post) (he:args.map AV.pubA=args'):ACalls P w0 f args st Post:=by
 subst he
 refine ⟨h.1,fun M w d e c=>h.2 M w d e ?_⟩
 obtain ⟨g,j⟩:=c
 refine ⟨by simpa using g,fun i a b=>?_⟩
 simp only [List.getElem_map]
 exact (j i a (by simpa using b)).pubA
theorem As {c d:Bool} {cs args args':List AV} {k:AV→St→Prop} (v:AV)
  (h:ACalls P w0 f args' st fun r s=>r=v∧s=st) (he:(args++cs).map AV.pubA=args') (hk:k v st):LH P w0 c d (.clo f cs) args st k := .inl ⟨v,fun _=>h.pub he,hk⟩
theorem EF {c d:Bool} {cs args args':List AV} {k:AV→St→Prop} (v:AV)
  (h:c=true→ACalls P w0 f args' st fun r s=>r=v∧s=st) (he:(args++cs).map AV.pubA=args') (hk:k v st):LH P w0 c d (.clo f cs) args st k := .inl ⟨v,fun q=>(h q).pub he,hk⟩
theorem BF {cs args args':List AV} {k:AV→St→Prop} (Post:AV→St→Prop)
  (h:ACalls P w0 f args' st Post) (he:(args++cs).map AV.pubA=args') (hk:∀ v s,Post v s→k v s):LH P w0 true false (.clo f cs) args st k := .inr ⟨rfl,Post,fun _=>h.pub he,fun v s a _=>hk v s (a rfl)⟩
def finP (st:St) (Post:AV→St→Prop) (r:AV) (s:St):Prop :=
 st.boxes.length≤s.boxes.length∧st.rows.length≤s.rows.length∧st.loops.length≤s.loops.length∧Calm st.boxes.length st.rows.length st.loops.length (s.cut st.boxes.length st.rows.length st.loops.length) ∧
  Under st.boxes.length st.rows.length st.loops.length r.pubA∧Post r.pubA (s.cut st.boxes.length st.rows.length st.loops.length)
theorem ACalls.finP {args:List AV} {Post:AV→St→Prop} (h:ACalls P w0 f args st (finP st Post)):ACalls P w0 f args st Post:=by
 refine ⟨h.1,fun M w c a b=>(h.2 M w c a b).mono ?_⟩
 rintro en n ⟨v,M',r,e,j,⟨m,k,d,i,g,l⟩,h3,h4,h5⟩
 exact ⟨v,M'.cut st.boxes.length st.rows.length st.loops.length,r.pubA,_,j,l,h3.cut (by have:=a.N;omega) (by have:=a.NR;omega) (by have:=a.loop.NL;omega) (by rw [h4.loop.NL];exact d),h4.cut m k d i,h5.pubA.cut g⟩
theorem OE {B:List (List AV)} {Rw:List RowA} {L:List LoopA} {s:St} {Post:AV→St→Prop} {v:AV} (hc:Ev.Calm B.length Rw.length L.length ⟨B,Rw,L⟩) (h1:B <+: s.boxes) (h2:Rw <+: s.rows) (h3:L <+: s.loops) (hu:Under B.length Rw.length L.length v.pubA) (hp:Post v.pubA ⟨B,Rw,L⟩) :
  Go.Ev.finP ⟨B,Rw,L⟩ Post v s:=by
 obtain ⟨b,e1⟩:=h1
 obtain ⟨r,e2⟩:=h2
 obtain ⟨l,e3⟩:=h3
 obtain ⟨a,d,c⟩:=s
 simp only at e1 e2 e3
 subst e1 e2 e3
 have e:St.cut ⟨B++b,Rw++r,L++l⟩ B.length Rw.length L.length=⟨B,Rw,L⟩:=by simp [St.cut]
 exact ⟨by simp,by simp,by simp,by simp only [e];exact hc,hu,by simp only [e];exact hp⟩
end
@[go_sem] theorem Zjr (xs c:List AV) (h:xs.length=c.length):Dh xs 0 c=c:=by simp [Dh,h]
section
universe u v
variable {α:Type u} {β:Type v} {r:β}
theorem Au {c:Prop} [Decidable c] {x:Option β} (h:(if c then x else none)=some r):c∧x=some r:=by
 by_cases q:c
 ·rw [Ah q] at h;exact ⟨q,h⟩
 ·rw [Ai q] at h;cases h
theorem bind_some {o:Option α} {f:α→Option β} (h:o.bind f=some r):∃ x,o=some x∧f x=some r:=by
 cases o with
 | none=>cases h
 | some x=>exact ⟨x,rfl,h⟩
theorem CP {b:Bool} {x y:β} (h:(if b=true then x else y)=r) (hb:b=true):x=r:=by rwa [Ah hb] at h
theorem CO {b:Bool} {x y:β} (h:(if b=true then x else y)=r) (hb:b=false):y=r:=by rwa [Ai (by simp [hb])] at h
def B1 (xs:List α) (i:Int):Option α:=if 0≤i then xs[i.toNat]? else none
theorem B9 {xs:List α} {i:Int} {x:α} (h:B1 xs i=some x):0≤i∧i<xs.length∧xs[i.toNat]? = some x:=by
 unfold B1 at h
 obtain ⟨b,a⟩:=Au h
 have:=(Aj.1 a).1
 exact ⟨b,by omega,a⟩
theorem Zj3 {xs:List α} {i:Nat} (h:i<xs.length):B1 xs (i:Int)=some xs[i]:=by simp [B1,h]
theorem C5 {f:α→AV} {xs:List α} {i:Nat} {x:α} (h:xs[i]? = some x):(xs.map f).getD i .junk=f x:=by simp [List.getD,h]
end
abbrev BM (n:Int):Prop := -9223372036854775808≤n∧n≤9223372036854775807
theorem DF {nb nr nl nb' nr' nl':Nat} {x:AV} (h1:nb≤nb') (h2:nr≤nr') (h3:nl≤nl') (h:Under nb nr nl x):Under nb' nr' nl' x:=by
 induction h with
 | val v=>exact .val v
 | list h ho ih=>exact .list ih (by rename_i o;cases o<;>first | trivial | exact Nat.lt_of_lt_of_le ho h2)
 | elem h ih=>exact .elem ih
 | box h=>exact .box (by omega)
 | clo h ih=>exact .clo ih
 | agg h ih=>exact .agg ih
 | tup h ih=>exact .tup ih
 | yld h=>exact .yld (by omega)
 | vec h=>exact .vec (by omega)
 | vel h=>exact .vel (by omega)
def OwnsAt (lo:Nat) (ho:Own) (rows:Aq) (x:Nat × Nat × Own):Prop:=x.2.2 = .full∨∃ id,x.2.2 = .row id∧(lo≤id∨ho = .row id)∧rows[id]? = some (.grow x.2.1 x.1)
inductive VO where
 | nil
 | row (id ver:Nat)
def Ly:VO→Nat→AV
 | .nil,_ => .list [] .seed
 | .row id ver,n => .vec id ver 0 n
abbrev VE:=VO × Nat × List AV
def VAt (lo:Nat) (rows:Aq) (x:VE):Prop:=(x.1 = .nil∧x.2.2=[])∨∃ id ver,x.1 = .row id ver∧lo≤id∧rows[id]? = some (.vec ver x.2.1 x.2.2)
def Zc8 (v:List VE) (i:Nat):Prop:=∀ x∈v,∀ ver,x.1 ≠ .row i ver
theorem Um (i:Nat):Zc8 [] i:=fun _ h=>(nomatch h)
structure Owns (Rw rows:Aq) (l:List (Nat × Nat × Own)) (ho:Own := .none) (v:List VE:=[]):Prop where
 len:Rw.length≤rows.length
 keep:∀ i,i<Rw.length→ho ≠ .row i→rows[i]? = Rw[i]?
 calm:∀ i r,rows[i]? = some r→(Rw.length≤i∨ho = .row i)→Zc8 v i→r.cells=[]
 each:∀ x∈l,OwnsAt Rw.length ho rows x
 apart:l.Pairwise fun x y=>∀ id,x.2.2 = .row id→y.2.2 ≠ .row id
 veach:∀ x∈v,VAt Rw.length rows x
 vapart:v.Pairwise fun x y=>∀ id a b,x.1 = .row id a→y.1 ≠ .row id b
section
variable {Rw rows:List RowA} {l:List (Nat × Nat × Own)} {ho:Own} {v:List VE}
theorem Owns.none (Rw:Aq):Owns Rw Rw []:=by
 refine ⟨Nat.le_refl _,fun _ _ _=>rfl,fun i r h q _=>?_,by simp,.nil,by simp,.nil⟩
 have:=(Aj.1 h).1
 rcases q with q | q
 ·omega
 ·cases q
theorem Owns.pre (h:Owns Rw rows l .none v):Rw <+: rows:=by
 rw [List.prefix_iff_getElem?]
 intro i hi
 rw [h.keep i hi (fun q=>by cases q),List.getElem?_eq_getElem hi]
theorem Owns.sub {l':List (Nat × Nat × Own)} (h:Owns Rw rows l ho v) (hs:l'.Sublist l):Owns Rw rows l' ho v :=
 ⟨h.len,h.keep,h.calm,fun x a=>h.each x (hs.subset a),h.apart.sublist hs,h.veach,h.vapart⟩
theorem Owns.full (h:Owns Rw rows l ho v) (sz n:Nat):Owns Rw rows ((sz,n,.full)::l) ho v :=
 ⟨h.len,h.keep,h.calm,fun x hx=>by
  rcases List.mem_cons.1 hx with rfl | hx
  ·exact .inl rfl
  ·exact h.each x hx,List.pairwise_cons.2 ⟨fun _ _ id q=>(nomatch q),h.apart⟩,h.veach,h.vapart⟩
theorem VAt.up {lo:Nat} {x:VE} (h:VAt lo rows x) (r:Aq):VAt lo (rows++r) x:=by
 rcases h with h | ⟨id,ver,h1,h2,h3⟩
 ·exact .inl h
 ·exact .inr ⟨id,ver,h1,h2,by rw [List.getElem?_append_left (Aj.1 h3).1];exact h3⟩
theorem VAt.set {lo:Nat} {x:VE} (h:VAt lo rows x) {i:Nat} (hi:∀ ver,x.1 ≠ .row i ver) (r:RowA):VAt lo (rows.set i r) x:=by
 rcases h with h | ⟨id,ver,h1,h2,h3⟩
 ·exact .inl h
 ·exact .inr ⟨id,ver,h1,h2,by rw [List.getElem?_set_ne (fun (e:i=id)=>hi ver (by rw [e];exact h1))];exact h3⟩
theorem Owns.make (h:Owns Rw rows l ho v) (sz n:Nat):Owns Rw (rows++[.grow n sz]) ((sz,n,.row rows.length)::l) ho v:=by
 have d:=h.len
 refine ⟨by simp;omega,fun i b e=>?_,fun i r a q f=>?_,fun x hx=>?_,List.pairwise_cons.2 ⟨fun y c id q k=>?_,h.apart⟩,fun x hx=>(h.veach x hx).up _,h.vapart⟩
 ·rw [List.getElem?_append_left (by omega)];exact h.keep i b e
 ·by_cases b:i<rows.length
  ·rw [List.getElem?_append_left b] at a;exact h.calm i r a q f
  ·rw [List.getElem?_append_right (by omega)] at a
   have:=List.mem_of_getElem? a
   simp only [List.mem_singleton] at this;subst this;rfl
 ·rcases List.mem_cons.1 hx with rfl | hx
  ·exact .inr ⟨_,rfl,.inl d,by simp⟩
  ·rcases h.each x hx with q | ⟨id,q1,q2,q3⟩
   ·exact .inl q
   ·exact .inr ⟨id,q1,q2,by rw [List.getElem?_append_left (Aj.1 q3).1];exact q3⟩
 ·rcases h.each y c with q' | ⟨id',q1,q2,q3⟩
  ·rw [q'] at k;cases k
  ·rw [q1] at k;cases k;cases q
   exact absurd (Aj.1 q3).1 (Nat.lt_irrefl _)
theorem Owns.unders (h:Owns Rw rows l ho v):∀ x∈l,x.2.2.under rows.length:=fun x a=>by
 rcases h.each x a with q | ⟨id,q1,q2,q3⟩
 ·rw [q];trivial
 ·rw [q1];exact (Aj.1 q3).1
theorem Owns.of_eq {l':List (Nat × Nat × Own)} (h:Owns Rw rows l ho v) (he:l=l'):Owns Rw rows l' ho v:=he▸h
theorem Owns.swap {l':List (Nat × Nat × Own)} (h:Owns Rw rows l ho v) (hp:l.Perm l'):Owns Rw rows l' ho v :=
 ⟨h.len,h.keep,h.calm,fun x c=>h.each x (hp.mem_iff.2 c),(hp.pairwise_iff (R:=fun x y:Nat × Nat × Own=>∀ id,x.2.2 = .row id→y.2.2 ≠ .row id) (fun q id a b=>q id b a)).1 h.apart,h.veach,h.vapart⟩
theorem Owns.grow_off (h:Owns Rw rows l ho v) {sz n id:Nat} (hx:(sz,n,Own.row id)∈l):Zc8 v id:=by
 intro x hv a e
 rcases h.each _ hx with q | ⟨id',q1,q2,q3⟩
 ·cases q
 ·cases q1
  rcases h.veach x hv with w | ⟨id2,ver2,w1,w2,w3⟩
  ·rw [w.1] at e;cases e
  ·rw [w1] at e;cases e
   rw [w3] at q3;cases q3
end
theorem PU {Rw rows:List RowA} (h:Rw <+: rows) {id:Nat} (hi:Rw.length≤id) (x:RowA):Rw <+: rows.set id x:=by
 obtain ⟨t,rfl⟩:=h
 rw [List.set_append_right _ _ hi]
 exact List.prefix_append _ _
theorem Owns.more {Rw rows:List RowA} {l:List (Nat × Nat × Own)} {ho:Own} {v:List VE} {sz n id:Nat} (h:Owns Rw rows ((sz,n,.row id)::l) ho v) (m:Nat):Owns Rw (rows.set id (.grow m sz)) ((sz,m,.row id)::l) ho v:=by
 have a:=h.grow_off (List.mem_cons_self ..)
 obtain ⟨s,p,g,c,u,w,k⟩:=h
 obtain ⟨hid,hrow⟩:(Rw.length≤id∨ho = .row id)∧rows[id]? = some (.grow n sz):=by
  rcases c _ (List.mem_cons_self ..) with q | ⟨id',q1,q2,q3⟩
  ·cases q
  ·cases q1;exact ⟨q2,q3⟩
 have b:=(Aj.1 hrow).1
 obtain ⟨f,o⟩:=List.pairwise_cons.1 u
 refine ⟨by simpa using s,fun i z d=>?_,fun i r hr q t=>?_,fun x hx=>?_,List.pairwise_cons.2 ⟨fun y j=>f y j,o⟩,fun x hx=>(w x hx).set (a x hx) _,k⟩
 ·have:id≠i:=by
   rintro rfl
   rcases hid with q | q
   ·omega
   ·exact d q
  rw [List.getElem?_set_ne this];exact p i z d
 ·by_cases e:id=i
  ·subst e
   rw [List.getElem?_set_self b] at hr
   cases hr;rfl
  ·rw [List.getElem?_set_ne e] at hr;exact g i r hr q t
 ·rcases List.mem_cons.1 hx with rfl | hx
  ·exact .inr ⟨id,rfl,hid,by simp [b]⟩
  ·rcases c x (List.mem_cons_of_mem _ hx) with q | ⟨id',q1,q2,q3⟩
   ·exact .inl q
   ·have:id'≠id:=fun e=>f x hx id rfl (e▸q1)
    exact .inr ⟨id',q1,q2,by rw [List.getElem?_set_ne (Ne.symm this)];exact q3⟩
theorem Owns.inV {Rw rows:List RowA} {l:List (Nat × Nat × Own)} {ho:Own} {v:List VE} (h:Owns Rw rows l ho v) {i:Nat} {r:RowA} (hr:rows[i]? = some r) (hi:¬ Zc8 v i):∃ x∈v,r.cells=x.2.2∧Rw.length≤i:=by
 simp only [Zc8,ne_eq,Classical.not_forall,Classical.not_not] at hi
 obtain ⟨x,a,b,e⟩:=hi
 rcases h.veach x a with w | ⟨id,ver',w1,w2,w3⟩
 ·rw [w.1] at e;cases e
 ·rw [w1] at e;cases e
  rw [w3] at hr;cases hr
  exact ⟨x,a,rfl,w2⟩
theorem Owns.rowsCalm {Rw rows:List RowA} {l:List (Nat × Nat × Own)} {ho:Own} {v:List VE} (h:Owns Rw rows l ho v) {nb nb' nl:Nat} (hb:nb≤nb') (hc:∀ r∈Rw,∀ x∈r.cells,Under nb Rw.length nl x) (hv:∀ x∈v,∀ y∈x.2.2,Under nb' rows.length nl y:=by intro x hx;cases hx):∀ r∈rows,∀ x∈r.cells,Under nb' rows.length nl x:=fun r d x hx=>by
 obtain ⟨i,f,rfl⟩:=List.mem_iff_getElem.1 d
 have b:rows[i]? = some rows[i]:=List.getElem?_eq_getElem f
 by_cases qv:Zc8 v i
 case neg =>
  obtain ⟨y,c,e,_⟩:=h.inV b qv
  rw [e] at hx
  exact hv y c x hx
 by_cases q:Rw.length≤i∨ho = .row i
 ·rw [h.calm i _ b q qv] at hx;cases hx
 ·have a:i<Rw.length:=by omega
  have:=h.keep i a (fun e=>q (.inr e))
  rw [b,List.getElem?_eq_getElem a] at this
  rw [Option.some.inj this] at hx
  exact DF hb h.len (Nat.le_refl _) (hc _ (List.getElem_mem a) x hx)
theorem Owns.call {Rw rows rows':List RowA} {l:List (Nat × Nat × Own)} {ho o o':Own} {v:List VE} {sz n n':Nat} (h:Owns Rw rows ((sz,n,o)::l) ho v) (hc:Owns rows rows' [(sz,n',o')] o):Owns Rw rows' ((sz,n',o')::l) ho v:=by
 have c:=h.each _ (List.mem_cons_self ..)
 have b:∀ i,o = .row i→Zc8 v i:=fun i e=>h.grow_off (sz:=sz) (n:=n) (by rw [←e];exact List.mem_cons_self ..)
 obtain ⟨j,m⟩:=List.pairwise_cons.1 h.apart
 have own:∀ i,o = .row i→(Rw.length≤i∨ho = .row i)∧i<rows.length:=fun i e=>by
  rcases c with q | ⟨id,q1,q2,q3⟩
  ·simp only at q;rw [e] at q;cases q
  ·simp only at q1;rw [e] at q1;cases q1
   exact ⟨q2,(Aj.1 q3).1⟩
 have u:=h.len
 have t:=hc.len
 have a:=hc.each _ (List.mem_cons_self ..)
 refine ⟨by omega,fun i s g=>?_,fun i r d q p=>?_,fun x hxm=>?_,List.pairwise_cons.2 ⟨fun y f id e=>?_,m⟩,fun x c=>?_,h.vapart⟩
 ·have:o ≠ .row i:=fun e=>by
   rcases (own i e).1 with q | q
   ·omega
   ·exact g q
  rw [hc.keep i (by omega) this];exact h.keep i s g
 ·by_cases e:rows.length≤i∨o = .row i
  ·exact hc.calm i r d e (Um i)
  ·rw [hc.keep i (by omega) (fun k=>e (.inr k))] at d
   exact h.calm i r d q p
 ·rcases List.mem_cons.1 hxm with rfl | hxm
  ·rcases a with q | ⟨id,q1,q2,q3⟩
   ·exact .inl q
   ·refine .inr ⟨id,q1,?_,q3⟩
    rcases q2 with q2 | q2
    ·exact .inl (by omega)
    ·exact (own id q2).1
  ·rcases h.each x (List.mem_cons_of_mem _ hxm) with q | ⟨id,q1,q2,q3⟩
   ·exact .inl q
   ·refine .inr ⟨id,q1,q2,?_⟩
    rw [hc.keep id (Aj.1 q3).1 (fun e=>j x hxm id e q1)]
    exact q3
 ·intro k
  rcases a with q | ⟨id',q1,q2,q3⟩
  ·simp only at q e;rw [q] at e;cases e
  ·simp only at q1 e
   rw [q1] at e;cases e
   rcases q2 with q2 | q2
   ·rcases h.each y (List.mem_cons_of_mem _ f) with w | ⟨id,w1,w2,w3⟩
    ·rw [w] at k;cases k
    ·rw [w1] at k;cases k
     have:=(Aj.1 w3).1
     omega
   ·exact j y f _ q2 k
 ·rcases h.veach x c with w | ⟨id,ver,w1,w2,w3⟩
  ·exact .inl w
  ·refine .inr ⟨id,ver,w1,w2,?_⟩
   rw [hc.keep id (Aj.1 w3).1 (fun e=>b id e x c ver w1)]
   exact w3
theorem Owns.append {P:Program} {t el:TypeId} {sz by8 n:Nat} {ag:Bool} {Rw rows:List RowA} {l:List (Nat × Nat × Own)} {o ho:Own} {v:List VE} (h:Owns Rw rows ((sz,n,o)::l) ho v) (he:OV P t=some (el,sz,ag,by8)) (hz:(EW P el).isSome=true) (hs:0<sz) (m:Nat)
  (hb:(n+m)*by8≤140737488355328) (hb2:n+m≤4611686018427387904):∃ o' rows',Owns Rw rows' ((sz,n+m,o')::l) ho v ∧
   ∀ (xs ys:List AV) (B:Am) (L:Ar) (o2:Own),xs.length=n→ys.length=m→(∀ y∈xs,y.cells.length=sz) →
    B2 P ⟨B,rows,L⟩ t (.list xs o) (.list ys o2)=((∀ y∈ys,y.cells.length=sz∧CM y=true),.list (xs++ys.map AV.pub) o',⟨B,rows',L⟩):=by
 have b:∀ (ys:List AV),ys.length=m→D1 P el sz by8 n ys=(∀ y∈ys,y.cells.length=sz∧CM y=true):=by
  intro ys f
  simp only [D1,hs,hz,f,hb,hb2,true_and]
 rcases h.each _ (List.mem_cons_self ..) with q | ⟨id,q1,q2,q3⟩
 ·simp only at q;subst q
  have e:=h.sub (List.sublist_cons_self _ _)
  by_cases hm:m=0
  ·subst hm
   refine ⟨.full,rows,e.full _ _,fun xs ys B L o2 d a c=>?_⟩
   have:ys=[]:=List.length_eq_zero_iff.1 a
   subst this
   simp [B2,he,Bj,C6,hs]
  ·refine ⟨.row rows.length,rows++[.grow (n+m) sz],e.make _ _,fun xs ys B L o2 d a c=>?_⟩
   simp only [B2,he,Bj,C6]
   rw [Aa,d,b ys a,a]
   simp only [true_and,Prod.mk.injEq,eq_iff_iff,and_true]
   exact ⟨fun q=>q.1,fun q=>⟨q,c⟩⟩
 ·simp only at q1;subst q1
  refine ⟨.row id,_,h.more (n+m),fun xs ys B L o2 d a c=>?_⟩
  simp only [B2,he,Bj,C6]
  rw [d,b ys a,a]
  simp only [true_and,Prod.mk.injEq,eq_iff_iff,and_true]
  exact ⟨fun q=>q.1,fun q=>⟨q,c,q3⟩⟩
theorem ZbH {α:Type} {xs:List α} {i:Nat} {x:α} (h:xs[i]? = some x):xs.drop i=x::xs.drop (i+1):=by
 obtain ⟨a,rfl⟩:=Aj.1 h
 exact List.drop_eq_getElem_cons a
theorem WG {M1:Mem} {B bs bs' XB:List (List AV)} {Rw rows rows':List RowA} {L XL lp:List LoopA} {la:LoopA} {l l':List (Nat × Nat × Own)} {oh:Own} (hra:RoundAt M1 ((St.push ⟨B++bs,rows,L⟩ la).ext ⟨XB,[],XL⟩)) (ho:Owns Rw rows l oh) (ho':Owns Rw rows' l' oh) (hlen:bs'.length=bs.length) (hr:rows.length≤rows'.length)
  (hlp:lp=(L++[la])++XL) (hbs:∀ cs∈bs',∀ x∈cs,Under (B.length+bs.length+XB.length) rows'.length lp.length x):Calm ((B++bs).length+XB.length) rows'.length lp.length ⟨(B++bs')++XB,rows',lp⟩:=by
 subst hlp
 have b:=hra.calm
 simp only [St.ext,St.push,List.append_nil] at b
 have e:((B++bs)++XB).length=(B++bs).length+XB.length:=List.length_append
 rw [e] at b
 refine ⟨fun r h x hx=>?_,fun cs h x hx=>?_,fun a n k x hx j=>DF (Nat.le_refl _) hr (Nat.le_refl _) (b.loops a n k x hx j)⟩
 ·obtain ⟨i,m,rfl⟩:=List.mem_iff_getElem.1 h
  have d:rows'[i]? = some rows'[i]:=List.getElem?_eq_getElem m
  by_cases q:Rw.length≤i∨oh = .row i
  ·rw [ho'.calm i _ d q (Um i)] at hx;cases hx
  ·have c:i<Rw.length:=by omega
   have f:=ho'.keep i c (fun e=>q (.inr e))
   have g:=ho.keep i c (fun e=>q (.inr e))
   rw [d,←g] at f
   exact DF (Nat.le_refl _) hr (Nat.le_refl _) (b.rows _ (List.mem_of_getElem? f.symm) x hx)
 ·rcases List.mem_append.1 h with h | h
  ·rcases List.mem_append.1 h with h | h
   ·exact DF (Nat.le_refl _) hr (Nat.le_refl _) (b.boxes cs (by simp [h]) x hx)
   ·have:=hbs cs h x hx
    rwa [List.length_append]
  ·exact DF (Nat.le_refl _) hr (Nat.le_refl _) (b.boxes cs (by simp [h]) x hx)
section
variable {P:Program} {w0:World} {n:Nat} {e:Env} {st:St} {M0:Mem} {W0:World} {ro:Option Nat} {Q:AQ} {c:Code}
theorem Zih (k:Nat) {a:AV} (hk:Eu e k=some (true,a)) (h:F3 P w0 n M0 W0 ro c Q ((k,true,a.pub)::e) st):F3 P w0 n M0 W0 ro c Q e st :=
 OJ _ _ (fun M _ w b=>⟨M,.refl _ _ _,b.relabel k _ (by
  have:=b.env k _ hk
  simp only [entryOk,if_true] at this
  exact this.pub)⟩) h
theorem Vh (l i:Nat) {cs:List AV} {x:AV} (hl:st.boxes[l]? = some cs) (hi:cs[i]? = some x) (h1:x.one=true) (h:F3 P w0 n M0 W0 ro c Q e { st with boxes:=st.boxes.set l (cs.set i x.pubCell) }):F3 P w0 n M0 W0 ro c Q e st :=
 OJ _ _ (fun M _ w a=>⟨M,.refl _ _ _,a.st.setBox hl hi (by rw [AV.one_pubCell];exact h1) (fun v hv=>hv.pubCell),a.size,a.env⟩) h
theorem RelSt.pubBox {M:Mem} {w:World} (h:RelSt w0 M st w) {l:Nat} {cs:List AV} (hl:st.boxes[l]? = some cs):RelSt w0 M { st with boxes:=st.boxes.set l (cs.map AV.pubCell) } w:=by
 have d:l<st.boxes.length:=(Aj.1 hl).1
 refine ⟨h.below,by simp [h.N],h.NR,h.top,h.inj,fun b a hl'=>?_,h.row,h.rowinj,h.loop⟩
 by_cases q:b=l
 ·subst q
  rw [List.getElem?_set_self d] at hl'
  cases hl'
  obtain ⟨a1,a2,c,k,a3,a4,a5,a6⟩:=h.box b cs hl
  refine ⟨a1,a2,c,k,a3,by simp [a4],fun z g=>?_,fun j i e=>?_⟩
  ·obtain ⟨y,f,rfl⟩:=List.mem_map.1 g
   rw [AV.one_pubCell];exact a5 y f
  ·simp only [List.getElem_map]
   exact (a6 j i (by simpa using e)).pubCell
 ·rw [List.getElem?_set_ne (Ne.symm q)] at hl'
  exact h.box b a hl'
theorem Of (l:Nat) {cs cs':List AV} (hl:st.boxes[l]? = some cs) (he:cs.map AV.pubCell=cs') (h:F3 P w0 n M0 W0 ro c Q e { st with boxes:=st.boxes.set l cs' }):F3 P w0 n M0 W0 ro c Q e st:=by
 subst he
 exact OJ _ _ (fun M _ w a=>⟨M,.refl _ _ _,a.st.pubBox hl,a.size,a.env⟩) h
theorem ZN {a:AV} {xs:List AV} (h:a.pub = .list xs .none):∃ o,a = .list xs o:=by
 cases a<;>simp only [AV.pub,reduceCtorEq] at h
 ·cases h;exact ⟨_,rfl⟩
theorem JZ (l i:Nat) {cs:List AV} {a:AV} {xs:List AV} (hl:st.boxes[l]? = some cs) (hi:cs[i]? = some a) (ha:a.pub = .list xs .none) (h:F3 P w0 n M0 W0 ro c Q e { st with boxes:=st.boxes.set l (cs.set i (.list xs .none)) }):F3 P w0 n M0 W0 ro c Q e st:=by
 obtain ⟨o,rfl⟩:=ZN ha
 exact Vh l i hl hi rfl h
theorem CV {nb nr nl:Nat} {f:FuncId} {cs:List AV} (h:Under nb nr nl (.clo f cs)):∀ nb' nr' nl',nb≤nb'→nr≤nr'→nl≤nl'→∀ x∈cs,Under nb' nr' nl' x :=
 fun _ _ _ a d b x c=>DF a d b (UI.1 h x c)
theorem Y1 {B0 B bs X:List (List AV)} {Rw rows:List RowA} {L l':List LoopA} {l:List (Nat × Nat × Own)} {oh:Own} {v:List VE} (hN:M0.N=B0.length) (hNR:M0.NR=Rw.length) (hNL:M0.NL=L.length) (hB:B.length=B0.length) (hc:Calm B0.length Rw.length L.length ⟨B,Rw,L⟩) (ho:Owns Rw rows l oh v)
  (hbs:∀ cs∈bs,∀ x∈cs,Under (B0.length+bs.length) rows.length L.length x) (he:JX (B0.length+bs.length) rows.length L.length e)
  (h:F3 P w0 n M0 W0 ro c Q e ⟨B++bs,rows,L⟩) (hv:∀ x∈v,∀ y∈x.2.2,Under (B0.length+bs.length) rows.length L.length y:=by intro x hx;cases hx):F3 P w0 n M0 W0 ro c Q e ⟨B++(bs++X),rows,L++l'⟩:=by
 rw [←hB] at hN hc hbs he hv
 clear hB B0
 have i:=ho.len
 have b:St.cut ⟨B++(bs++X),rows,L++l'⟩ (B.length+bs.length) rows.length L.length=⟨B++bs,rows,L⟩:=by
  simp only [St.cut,List.take_length,←List.append_assoc]
  rw [List.take_left' (by simp),List.take_left' rfl]
 refine V2 (B.length+bs.length) rows.length L.length (by simp) (Nat.le_refl _) (by simp) (by omega) (by omega) (by omega) ?_ he (by rw [b];exact h)
 rw [b]
 refine ⟨fun r f x hx=>?_,fun cs hcs x hx=>?_,fun g a k x hx d=>?_⟩
 ·exact ho.rowsCalm (by omega) hc.rows hv r f x hx
 ·rcases List.mem_append.1 hcs with hcs | hcs
  ·exact DF (by omega) (by omega) (Nat.le_refl _) (hc.boxes cs hcs x hx)
  ·exact hbs cs hcs x hx
 ·exact DF (by omega) (by omega) (Nat.le_refl _) (hc.loops g a k x hx d)
theorem AY {B0 B bs X:List (List AV)} {Rw rows:List RowA} {L:List LoopA} {l:List (Nat × Nat × Own)} {oh:Own} {v:List VE} (hN:M0.N=B0.length) (hNR:M0.NR=Rw.length) (hNL:M0.NL=L.length) (hB:B.length=B0.length) (hc:Calm B0.length Rw.length L.length ⟨B,Rw,L⟩) (ho:Owns Rw rows l oh v)
  (hbs:∀ cs∈bs,∀ x∈cs,Under (B0.length+bs.length) rows.length L.length x) (he:JX (B0.length+bs.length) rows.length L.length e)
  (h:F3 P w0 n M0 W0 ro c Q e ⟨B++bs,rows,L⟩) (hv:∀ x∈v,∀ y∈x.2.2,Under (B0.length+bs.length) rows.length L.length y:=by intro x hx;cases hx):F3 P w0 n M0 W0 ro c Q e ⟨B++(bs++X),rows,L⟩:=by
 rw [←hB] at hN hc hbs he hv
 clear hB B0
 have i:=ho.len
 have b:St.cut ⟨B++(bs++X),rows,L⟩ (B.length+bs.length) rows.length L.length=⟨B++bs,rows,L⟩:=by
  simp only [St.cut,List.take_length,←List.append_assoc]
  rw [List.take_left' (by simp)]
 refine V2 (B.length+bs.length) rows.length L.length (by simp) (Nat.le_refl _) (Nat.le_refl _) (by omega) (by omega) (by omega) ?_ he (by rw [b];exact h)
 rw [b]
 refine ⟨fun r f x hx=>?_,fun cs hcs x hx=>?_,fun g a k x hx d=>?_⟩
 ·exact ho.rowsCalm (by omega) hc.rows hv r f x hx
 ·rcases List.mem_append.1 hcs with hcs | hcs
  ·exact DF (by omega) (by omega) (Nat.le_refl _) (hc.boxes cs hcs x hx)
  ·exact hbs cs hcs x hx
 ·exact DF (by omega) (by omega) (Nat.le_refl _) (hc.loops g a k x hx d)
end
section
variable {P:Program} {w0:World} {st:St}
theorem TZ {c d:Bool} {f:FuncId} {cs args args':List AV} {k:AV→St→Prop} (v:AV)
  (h:ACalls P w0 f args' st fun r s=>r=v∧s=st) (he:args++cs=args') (hk:k v st):LH P w0 c d (.clo f cs) args st k := .inl ⟨v,fun _=>by
 show ACalls P w0 f (args++cs) st _
 rw [he];exact h,hk⟩
theorem Xr {d:Bool} {fv:AV} {args:List AV} {k:AV→St→Prop} (h:k .junk st):LH P w0 false d fv args st k := .inl ⟨.junk,fun q=>(nomatch q),h⟩
theorem HD {B B' X:List (List AV)} {Rw rows:List RowA} {L:List LoopA} {Post:AV→St→Prop} {v:AV} (hc:Calm B.length Rw.length L.length ⟨B',Rw,L⟩) (hB:B'.length=B.length) (h2:Rw <+: rows) (hu:Under B.length Rw.length L.length v.pubA) (hp:Post v.pubA ⟨B',Rw,L⟩) :
  Go.Ev.finP ⟨B,Rw,L⟩ Post v ⟨B'++X,rows,L⟩:=by
 obtain ⟨r,rfl⟩:=h2
 have e:St.cut ⟨B'++X,Rw++r,L⟩ B.length Rw.length L.length=⟨B',Rw,L⟩:=by simp [St.cut,←hB]
 exact ⟨by simp [hB],by simp,by simp,by simp only [e];exact hc,hu,by simp only [e];exact hp⟩
end
theorem E8 {B B':List (List AV)} {Rw rows:List RowA} {L:List LoopA} {Post:AV→St→Prop} {v:AV} (hc:Calm B.length Rw.length L.length ⟨B',Rw,L⟩) (hB:B'.length=B.length) (h2:Rw <+: rows) (hu:Under B.length Rw.length L.length v.pubA) (hp:Post v.pubA ⟨B',Rw,L⟩) :
  Go.Ev.finP ⟨B,Rw,L⟩ Post v ⟨B',rows,L⟩:=by
 have:=HD (X:=[]) hc hB h2 hu hp
 rwa [List.append_nil] at this
theorem Az {nb nr nl:Nat} {B:List (List AV)} {Rw:List RowA} {L:List LoopA} {l:Nat} {cs:List AV} (h:Calm nb nr nl ⟨B,Rw,L⟩) (hc:∀ x∈cs,Under nb nr nl x):Calm nb nr nl ⟨B.set l cs,Rw,L⟩ :=
 ⟨h.rows,fun b hd x a=>by
  rcases List.mem_or_eq_of_mem_set hd with hd | rfl
  ·exact h.boxes b hd x a
  ·exact hc x a,h.loops⟩
theorem Zls {B B' X:List (List AV)} {Rw rows:List RowA} {L l:List LoopA} {Post:AV→St→Prop} {v:AV} (hc:Calm B.length Rw.length L.length ⟨B',Rw,L⟩) (hB:B'.length=B.length) (h2:Rw <+: rows) (hu:Under B.length Rw.length L.length v.pubA) (hp:Post v.pubA ⟨B',Rw,L⟩) :
  Go.Ev.finP ⟨B,Rw,L⟩ Post v ⟨B'++X,rows,L++l⟩:=by
 obtain ⟨r,rfl⟩:=h2
 have e:St.cut ⟨B'++X,Rw++r,L++l⟩ B.length Rw.length L.length=⟨B',Rw,L⟩:=by simp [St.cut,←hB]
 exact ⟨by simp [hB],by simp,by simp,by simp only [e];exact hc,hu,by simp only [e];exact hp⟩
theorem Aw {B:List (List AV)} {l:Nat} {cs:List AV} (h:B[l]? = some cs) :
  (∀ X R L o,Et ⟨B++X,R,L⟩ (.box l o)=true)∧(∀ R L o,Et ⟨B,R,L⟩ (.box l o)=true)∧(∀ X R L o,BK ⟨B++X,R,L⟩ (.box l o)=cs)∧(∀ R L o,BK ⟨B,R,L⟩ (.box l o)=cs) ∧
  (∀ X,(B++X)[l]? = some cs)∧B[l]? = some cs∧(∀ X,(B++X).getD l []=cs)∧B.getD l []=cs∧(∀ X c,(B++X).set l c=B.set l c++X) ∧
  (∀ X R L o c,Et ⟨B.set l c++X,R,L⟩ (.box l o)=true)∧(∀ R L o c,Et ⟨B.set l c,R,L⟩ (.box l o)=true)∧(∀ X R L o c,BK ⟨B.set l c++X,R,L⟩ (.box l o)=c)∧(∀ R L o c,BK ⟨B.set l c,R,L⟩ (.box l o)=c) ∧
  (∀ X c,(B.set l c++X)[l]? = some c)∧(∀ c,(B.set l c)[l]? = some c)∧(∀ X c,(B.set l c++X).getD l []=c)∧(∀ c,(B.set l c).getD l []=c)∧(∀ X c d,(B.set l c++X).set l d=B.set l d++X)∧(∀ c d,(B.set l c).set l d=B.set l d)∧B.set l cs=B:=by
 have a:=(Aj.1 h).1
 have f:∀ X,(B++X)[l]? = some cs:=fun X=>by rw [List.getElem?_append_left a];exact h
 have e:∀ X c,(B.set l c++X)[l]? = some c:=fun X c=>by rw [List.getElem?_append_left (by simpa using a)];simp [a]
 have b:∀ c,(B.set l c)[l]? = some c:=fun c=>by simp [a]
 refine ⟨?_,?_,?_,?_,f,h,?_,?_,?_,?_,?_,?_,?_,e,b,?_,?_,?_,?_,?_⟩
 ·intro X R L o;simp [Et];omega
 ·intro R L o;simp [Et,a]
 ·intro X R L o;simp only [BK,List.getD_eq_getElem?_getD,f,Option.getD_some]
 ·intro R L o;simp only [BK,List.getD_eq_getElem?_getD,h,Option.getD_some]
 ·intro X;rw [List.getD_eq_getElem?_getD,f];rfl
 ·rw [List.getD_eq_getElem?_getD,h];rfl
 ·intro X c;exact List.set_append_left _ _ a
 ·intro X R L o c;simp [Et];omega
 ·intro R L o c;simp [Et,a]
 ·intro X R L o c;simp only [BK,List.getD_eq_getElem?_getD,e,Option.getD_some]
 ·intro R L o c;simp only [BK,List.getD_eq_getElem?_getD,b,Option.getD_some]
 ·intro X c;rw [List.getD_eq_getElem?_getD,e];rfl
 ·intro c;rw [List.getD_eq_getElem?_getD,b];rfl
 ·intro X c d;rw [List.set_append_left _ _ (by simpa using a),List.set_set]
 ·intro c d;exact List.set_set ..
 ·obtain ⟨g,rfl⟩:=Aj.1 h;exact List.set_getElem_self _
@[go_sem] theorem Zj7 (B X:Am) (R:Aq) (L:Ar) (i k o:Nat) (c:List AV):Et ⟨B.set i c++X,R,L⟩ (.box (B.length+k) o)=decide (k<X.length):=by simp [Et]
@[go_sem] theorem Zjs (B X:Am) (R:Aq) (L:Ar) (i o:Nat) (c:List AV):Et ⟨B.set i c++X,R,L⟩ (.box B.length o)=decide (0<X.length):=by simp [Et]
@[go_sem] theorem Y6 (B X:Am) (i k:Nat) (c:List AV):(B.set i c++X).getD (B.length+k) []=X.getD k []:=by
 have:=ZaK (B.set i c) X k
 rwa [List.length_set] at this
@[go_sem] theorem Wq (B X:Am) (i:Nat) (c:List AV):(B.set i c++X).getD B.length []=X.getD 0 []:=by
 have:=YW (B.set i c) X
 rwa [List.length_set] at this
@[go_sem] theorem ZiI (B X:Am) (R:Aq) (L:Ar) (i k o:Nat) (c:List AV):BK ⟨B.set i c++X,R,L⟩ (.box (B.length+k) o)=X.getD k []:=Y6 B X i k c
@[go_sem] theorem Zg6 (B X:Am) (R:Aq) (L:Ar) (i o:Nat) (c:List AV):BK ⟨B.set i c++X,R,L⟩ (.box B.length o)=X.getD 0 []:=Wq B X i c
@[go_sem] theorem ZfO (B X:Am) (i k:Nat) (c x:List AV):(B.set i c++X).set (B.length+k) x=B.set i c++X.set k x:=by
 have:=ZhZ (B.set i c) X k x
 rwa [List.length_set] at this
@[go_sem] theorem HH (B X:Am) (i k:Nat) (c:List AV):(B.set i c++X)[B.length+k]? = X[k]? := by
 rw [List.getElem?_append_right (by simp),List.length_set,Nat.add_sub_cancel_left]
@[go_sem] theorem F5 (B X:Am) (i:Nat) (c:List AV):(B.set i c++X)[B.length]? = X[0]? := by
 rw [List.getElem?_append_right (by simp),List.length_set,Nat.sub_self]
attribute [go_sem] List.length_set
theorem ED {α:Type} {B B':List α} {l:Nat} {c:α} (h:B <+: B') (hl:B[l]? = some c):B'[l]? = some c:=by
 obtain ⟨t,rfl⟩:=h
 rw [List.getElem?_append_left (Aj.1 hl).1];exact hl
theorem Fo {α:Type} {f:α→List AV} (sz:Nat) (hf:∀ x,(f x).length=sz):∀ {xs:List α} {i:Nat} {x:α},xs[i]? = some x→((xs.flatMap f).drop (i*sz)).take sz=f x
 | [],i,x,h=>by simp at h
 | y::ys,0,x,h=>by
  simp only [List.getElem?_cons_zero,Option.some.injEq] at h
  subst h
  simp [List.flatMap_cons,←hf y]
 | y::ys,i+1,x,h=>by
  simp only [List.getElem?_cons_succ] at h
  rw [List.flatMap_cons,Nat.succ_mul,Nat.add_comm,List.drop_append,hf y,Nat.add_sub_cancel_left,List.drop_eq_nil_of_le (by rw [hf y];omega),List.nil_append]
  exact Fo sz hf h
@[go_sem] theorem Zky (l:List AV):Dh l 0 []=l:=by simp [Dh]
@[go_sem] theorem Zi7 (a x:AV) (l xs:List AV):Dh (a::l) 0 (x::xs)=x::Dh l 0 xs:=by simp [Dh]
@[go_sem] theorem ZjJ (a:AV) (l xs:List AV) (n:Nat):Dh (a::l) (n+1) xs=a::Dh l n xs:=by simp [Dh,Nat.succ_add]
@[go_sem] theorem EZ (B l:Am) (k:Nat):(B++l)[B.length+k]? = l[k]? := by rw [List.getElem?_append_right (by omega),Nat.add_sub_cancel_left]
@[go_sem] theorem D3 (B l:Am):(B++l)[B.length]? = l[0]? := by rw [List.getElem?_append_right (by omega),Nat.sub_self]
theorem Owns.enter {Rw rows:List RowA} {l:List (Nat × Nat × Own)} {ho o:Own} {v:List VE} {sz n:Nat} (h:Owns Rw rows ((sz,n,o)::l) ho v):Owns rows rows [(sz,n,o)] o:=by
 have a:=h.each _ (List.mem_cons_self ..)
 refine ⟨Nat.le_refl _,fun _ _ _=>rfl,fun i r b q _=>?_,fun x c=>?_,by simp,by simp,.nil⟩
 ·rcases q with q | q
  ·have:=(Aj.1 b).1;omega
  ·rcases a with w | ⟨id,w1,w2,w3⟩
   ·simp only at w;rw [q] at w;cases w
   ·simp only at w1 w3;rw [q] at w1;cases w1
    rw [b] at w3;rw [Option.some.inj w3];rfl
 ·rw [List.mem_singleton.1 c]
  rcases a with w | ⟨id,w1,w2,w3⟩
  ·exact .inl w
  ·exact .inr ⟨id,w1,.inr w1,w3⟩
theorem GB {nb nr nr' nl:Nat} {st:St} (h:Calm nb nr nl st) (hr:nr≤nr'):Calm nb nr' nl st :=
 ⟨fun r a x b=>DF (Nat.le_refl _) hr (Nat.le_refl _) (h.rows r a x b),fun cs a x b=>DF (Nat.le_refl _) hr (Nat.le_refl _) (h.boxes cs a x b),fun d a k x b c=>DF (Nat.le_refl _) hr (Nat.le_refl _) (h.loops d a k x b c)⟩
section
variable {P:Program} {w0:World} {f:FuncId} {st:St}
def finG (st:St) (Post:AV→St→Prop) (r:AV) (s:St):Prop :=
 st.boxes.length≤s.boxes.length∧st.rows.length≤s.rows.length∧st.loops.length≤s.loops.length∧Calm st.boxes.length s.rows.length st.loops.length (s.cut st.boxes.length s.rows.length st.loops.length) ∧
  Under st.boxes.length s.rows.length st.loops.length r.pubA∧Post r.pubA (s.cut st.boxes.length s.rows.length st.loops.length)
theorem ACalls.finG {args:List AV} {Post:AV→St→Prop} (h:ACalls P w0 f args st (finG st Post)):ACalls P w0 f args st Post:=by
 refine ⟨h.1,fun M w c a b=>(h.2 M w c a b).mono ?_⟩
 rintro en m ⟨v,M',r,d,j,⟨l,n,e,i,g,k⟩,h3,h4,h5⟩
 exact ⟨v,M'.cut st.boxes.length d.rows.length st.loops.length,r.pubA,_,j,k,h3.cut (by have:=a.N;omega) (by have:=a.NR;omega) (by have:=a.loop.NL;omega) (by rw [h4.loop.NL];exact e),h4.cut l (Nat.le_refl _) e i,h5.pubA.cut g⟩
theorem Zlm {B B' X:List (List AV)} {R0 rows:List RowA} {L l:List LoopA} {Post:AV→St→Prop} {v:AV} {ow:List (Nat × Nat × Own)} {oh:Own} (ho:Owns R0 rows ow oh) (hc:Calm B.length rows.length L.length ⟨B',R0,L⟩) (hB:B'.length=B.length) (hu:Under B.length rows.length L.length v.pubA) (hp:Post v.pubA ⟨B',rows,L⟩) :
  Go.Ev.finG ⟨B,R0,L⟩ Post v ⟨B'++X,rows,L++l⟩:=by
 have e:St.cut ⟨B'++X,rows,L++l⟩ B.length rows.length L.length=⟨B',rows,L⟩:=by simp [St.cut,←hB]
 refine ⟨by simp [hB],ho.len,by simp,?_,hu,by simp only [e];exact hp⟩
 simp only [e]
 refine ⟨fun r d x hx=>?_,hc.boxes,hc.loops⟩
 obtain ⟨i,c,rfl⟩:=List.mem_iff_getElem.1 d
 have b:rows[i]? = some rows[i]:=List.getElem?_eq_getElem c
 by_cases q:R0.length≤i∨oh = .row i
 ·rw [ho.calm i _ b q (Um i)] at hx;cases hx
 ·have a:i<R0.length:=by omega
  have:=ho.keep i a (fun e=>q (.inr e))
  rw [b,List.getElem?_eq_getElem a] at this
  rw [Option.some.inj this] at hx
  exact hc.rows _ (List.getElem_mem a) x hx
end
theorem UY {B B' X:List (List AV)} {R0 rows:List RowA} {L:List LoopA} {Post:AV→St→Prop} {v:AV} {ow:List (Nat × Nat × Own)} {oh:Own} (ho:Owns R0 rows ow oh) (hc:Calm B.length rows.length L.length ⟨B',R0,L⟩) (hB:B'.length=B.length) (hu:Under B.length rows.length L.length v.pubA) (hp:Post v.pubA ⟨B',rows,L⟩) :
  Go.Ev.finG ⟨B,R0,L⟩ Post v ⟨B'++X,rows,L⟩:=by
 have:=Zlm (X:=X) (l:=[]) ho hc hB hu hp
 rwa [List.append_nil] at this
section
variable {P:Program} {w0:World} {n:Nat} {e:Env} {st:St} {M0:Mem} {W0:World} {ro:Option Nat} {Q:AQ} {c:Code}
theorem JM {B0 B bs X:List (List AV)} {Rw rows:List RowA} {L:List LoopA} {l:List (Nat × Nat × Own)} {oh:Own} (hN:M0.N=B0.length) (hNR:M0.NR=Rw.length) (hNL:M0.NL=L.length) (hB:B.length=B0.length) (hc:Calm B0.length rows.length L.length ⟨B,Rw,L⟩) (ho:Owns Rw rows l oh)
  (hbs:∀ cs∈bs,∀ x∈cs,Under (B0.length+bs.length) rows.length L.length x) (he:JX (B0.length+bs.length) rows.length L.length e)
  (h:F3 P w0 n M0 W0 ro c Q e ⟨B++bs,rows,L⟩):F3 P w0 n M0 W0 ro c Q e ⟨B++(bs++X),rows,L⟩:=by
 rw [←hB] at hN hc hbs he
 clear hB B0
 have p:=ho.len
 have f:St.cut ⟨B++(bs++X),rows,L⟩ (B.length+bs.length) rows.length L.length=⟨B++bs,rows,L⟩:=by
  simp only [St.cut,List.take_length,←List.append_assoc]
  rw [List.take_left' (by simp)]
 refine V2 (B.length+bs.length) rows.length L.length (by simp) (Nat.le_refl _) (Nat.le_refl _) (by omega) (by omega) (by omega) ?_ he (by rw [f];exact h)
 rw [f]
 refine ⟨fun r g x hx=>?_,fun cs hcs x hx=>?_,fun o b k x hx j=>?_⟩
 ·obtain ⟨i,m,rfl⟩:=List.mem_iff_getElem.1 g
  have d:rows[i]? = some rows[i]:=List.getElem?_eq_getElem m
  by_cases q:Rw.length≤i∨oh = .row i
  ·rw [ho.calm i _ d q (Um i)] at hx;cases hx
  ·have a:i<Rw.length:=by omega
   have:=ho.keep i a (fun e=>q (.inr e))
   rw [d,List.getElem?_eq_getElem a] at this
   rw [Option.some.inj this] at hx
   exact DF (by omega) (Nat.le_refl _) (Nat.le_refl _) (hc.rows _ (List.getElem_mem a) x hx)
 ·rcases List.mem_append.1 hcs with hcs | hcs
  ·exact DF (by omega) (Nat.le_refl _) (Nat.le_refl _) (hc.boxes cs hcs x hx)
  ·exact hbs cs hcs x hx
 ·exact DF (by omega) (Nat.le_refl _) (Nat.le_refl _) (hc.loops o b k x hx j)
end
def Wl (acc:List Nat) (o:Oper):Nat:=o.after.toList.foldl (fun m e=>if Region.binds .any e then m ||| 2 ^ e.on ||| acc.getD e.on 0 else m) 0
def JS:List Oper→List Nat→List Nat
 | [],acc=>acc
 | o::os,acc=>JS os (acc++[Wl acc o])
def SC (ms:List Nat) (i j:Nat):Bool:=(ms.getD i 0).testBit j
theorem ZbI (acc:List Nat) (j:Nat):∀ (es:List Edge) (m:Nat),(es.foldl (fun m e=>if Region.binds .any e then m ||| 2 ^ e.on ||| acc.getD e.on 0 else m) m).testBit j=true→m.testBit j=true∨∃ e∈es,Region.binds .any e=true∧(e.on=j∨SC acc e.on j=true)
 | [],m,h => .inl h
 | e::es,m,h=>by
  simp only [List.foldl_cons] at h
  rcases ZbI acc j es _ h with h | ⟨e',h1,h2⟩
  ·by_cases c:Region.binds .any e=true
   ·rw [Ah c] at h
    simp only [Nat.testBit_or,Bool.or_eq_true,Nat.testBit_two_pow,decide_eq_true_eq] at h
    rcases h with (h | h) | h
    ·exact .inl h
    ·exact .inr ⟨e,List.mem_cons_self .., c,.inl h⟩
    ·exact .inr ⟨e,List.mem_cons_self .., c,.inr h⟩
   ·rw [Ai c] at h;exact .inl h
  ·exact .inr ⟨e',List.mem_cons_of_mem _ h1,h2⟩
theorem XT (acc acc':List Nat):∀ (es:List Edge) (m:Nat),(∀ e∈es,Region.binds .any e=true→acc.getD e.on 0=acc'.getD e.on 0) →
  es.foldl (fun m e=>if Region.binds .any e then m ||| 2 ^ e.on ||| acc.getD e.on 0 else m) m=es.foldl (fun m e=>if Region.binds .any e then m ||| 2 ^ e.on ||| acc'.getD e.on 0 else m) m
 | [],_,_=>rfl
 | e::es,m,h=>by
  simp only [List.foldl_cons]
  have:(if Region.binds .any e=true then m ||| 2 ^ e.on ||| acc.getD e.on 0 else m)=if Region.binds .any e=true then m ||| 2 ^ e.on ||| acc'.getD e.on 0 else m:=by
   by_cases c:Region.binds .any e=true
   ·rw [Ah c,Ah c,h e (List.mem_cons_self ..) c]
   ·rw [Ai c,Ai c]
  rw [this]
  exact XT acc acc' es _ fun a b=>h a (List.mem_cons_of_mem _ b)
theorem U3:∀ (os:List Oper) (acc:List Nat) (i:Nat),i<acc.length→(JS os acc).getD i 0=acc.getD i 0
 | [],_,_,_=>rfl
 | o::os,acc,i,h=>by
  rw [JS,U3 os _ i (by simp;omega),List.getD_eq_getElem?_getD,List.getElem?_append_left h,List.getD_eq_getElem?_getD]
theorem ZaT:∀ (os:List Oper) (acc:List Nat) (k:Nat) (o:Oper),os[k]? = some o→(∀ (k:Nat) (o:Oper),os[k]? = some o→∀ e∈o.after,Region.binds .any e=true→e.on<acc.length+k)→(JS os acc).getD (acc.length+k) 0=Wl (JS os acc) o
 | [],_,_,_,h,_=>by simp at h
 | o'::os,acc,0,o,h,hb=>by
  simp only [List.getElem?_cons_zero,Option.some.injEq] at h
  subst h
  rw [JS,U3 os _ _ (by simp)]
  have c:(acc++[Wl acc o']).getD (acc.length+0) 0=Wl acc o':=by simp [List.getD_eq_getElem?_getD]
  rw [c]
  refine XT _ _ _ _ fun e b a=>?_
  have:=hb 0 o' rfl e (by simpa using b) a
  rw [U3 os _ _ (by simp;omega),List.getD_eq_getElem?_getD,List.getD_eq_getElem?_getD,List.getElem?_append_left (by omega)]
 | o'::os,acc,k+1,o,h,hb=>by
  rw [JS]
  have:=ZaT os (acc++[Wl acc o']) k o (by simpa using h) (fun k o h e b a=>by
   have:=hb (k+1) o (by simpa using h) e b a
   simp;omega)
  rw [List.length_append,List.length_singleton,Nat.add_assoc,Nat.add_comm 1 k] at this
  exact this
def TA (ef:List Nat) (ms:List Nat) (i j:Nat):Bool :=
 if ef.contains i then ef.contains j||SC ms i j else if ef.contains j then SC ms j i else decide (j<i)&&SC ms i j
def V4 (ef:List Nat) (ms:List Nat) (i j:Nat):Bool :=
 if ef.contains i then ef.contains j||SC ms i j else ef.contains j&&SC ms j i
def XF (l:List Oper) (ef:List Nat):Bool:=(ef.all fun i=>decide (i<l.length)) &&
 (List.range l.length).all fun i=>match l[i]? with
  | some o=>(o.after.toList.all fun e => !Region.binds .any e||decide (e.on<i))&&(List.range l.length).all fun j=>match l[j]? with
   | some p=>match p.dst with
    | some s=>(decide (i=j)||o.dst != some s||V4 ef (JS l []) i j)&&(!(looks l o).contains s||TA ef (JS l []) i j)
    | none=>true
   | none=>true
  | none=>true
theorem GZ {l:List Oper} {ef:List Nat} (hB:XF l ef=true) {i:Nat} {o:Oper} (ho:l[i]? = some o) :
  (∀ e∈o.after,Region.binds .any e=true→e.on<i)∧∀ j p s,l[j]? = some p→p.dst=some s→(o.dst=some s→i=j∨V4 ef (JS l []) i j=true)∧(s∈looks l o→TA ef (JS l []) i j=true):=by
 have b:=List.all_eq_true.1 (Bool.and_eq_true_iff.1 hB).2 i (List.mem_range.2 (Aj.1 ho).1)
 simp only [ho,Bool.and_eq_true] at b
 refine ⟨fun e d f=>?_,fun j p s c hs=>?_⟩
 ·have:=List.all_eq_true.1 b.1 e (by simpa using d)
  simpa [f] using this
 ·have a:=List.all_eq_true.1 b.2 j (List.mem_range.2 (Aj.1 c).1)
  simp only [c,hs,Bool.and_eq_true,Bool.or_eq_true,decide_eq_true_eq,bne_iff_ne,Bool.not_eq_true'] at a
  refine ⟨fun hd=>?_,fun g=>?_⟩
  ·rcases a.1 with (h | h) | h
   ·exact .inl h
   ·exact absurd hd h
   ·exact .inr h
  ·rcases a.2 with h3 | h3
   ·have:(looks l o).contains s=true:=by simpa using g
    rw [h3] at this;cases this
   ·exact h3
theorem Xq {l:List Oper} {ef:List Nat} (hB:XF l ef=true) {listed:Array Bool} (closed:∀ (j:Nat) (oj:Oper),l[j]? = some oj→listed.getD j false=true→∀ e∈oj.after,Region.binds .any e=true→listed.getD e.on false=true) (j:Nat) :
  ∀ (i:Nat) (o:Oper),l[i]? = some o→(∀ e∈o.after,Region.binds .any e=true→listed.getD e.on false=true)→SC (JS l []) i j=true→listed.getD j false=true:=by
 intro i
 induction i using Nat.strongRecOn with
 | _ i ih =>
  intro o ho n a
  have f:=ZaT l [] i o ho (fun k o h e c m=>by have:=(GZ hB h).1 e c m;simpa using this)
  simp only [List.length_nil,Nat.zero_add] at f
  unfold SC at a
  rw [f] at a
  rcases ZbI _ _ _ _ a with h | ⟨e,h1,h2,h3⟩
  ·simp at h
  ·have c:e∈o.after:=by simpa using h1
   have b:=n e c h2
   have d:=(GZ hB ho).1 e c h2
   rcases h3 with rfl | h3
   ·exact b
   ·have g:=(Aj.1 ho).1
    exact ih e.on d _ (List.getElem?_eq_getElem (by omega)) (closed e.on _ (List.getElem?_eq_getElem (by omega)) b) h3
def EI (ef:List Nat):Nat→List Oper→List Oper
 | _,[]=>[]
 | i,o::os=>(if ef.contains i then { o with dst:=none,op := .move (.const (.bool true)),guard:=none } else o)::EI ef (i+1) os
theorem U5 (ef:List Nat):∀ (l:List Oper) (k i:Nat),(EI ef k l)[i]? = (l[i]?).map fun o=>if ef.contains (k+i) then { o with dst:=none,op := .move (.const (.bool true)),guard:=none } else o
 | [],_,_=>by simp [EI]
 | o::os,k,0=>by simp [EI]
 | o::os,k,i+1=>by simp only [EI,List.getElem?_cons_succ];rw [U5 ef os (k+1) i,Nat.add_assoc,Nat.add_comm 1 i]
theorem ME (ef:List Nat):∀ (l:List Oper) (k:Nat),(EI ef k l).length=l.length
 | [],_=>rfl
 | o::os,k=>by simp [EI,ME ef os]
section
variable {P:Program} {w0:World} {n:Nat}
def KI (P:Program) (w0:World) (ev:Env) (s:St) (o:Oper) (v:AV) (s':St):Prop :=
 match o.op with
 | .call ⟨.value f,args,_⟩=>Ba ev true f∧(∀ x∈args.toList,Ba ev true x)∧Qb P w0 (AD ev f) (args.toList.map fun x=>argP ev (AD ev x)) s fun r t=>r=v∧t=s'
 | op=>(BB P ev true s op).1∧(BB P ev true s op).2.1=v∧(BB P ev true s op).2.2=s'
theorem ZaE {ev:Env} {s s':St} {o:Oper} {v:AV} (hc:¬ N6 o.op=true):KI P w0 ev s o v s'=((BB P ev true s o.op).1∧(BB P ev true s o.op).2.1=v∧(BB P ev true s o.op).2.2=s'):=by
 obtain ⟨g,op,c,e,a,b⟩:=o
 cases op with
 | call cc =>
  obtain ⟨callee,d,h⟩:=cc
  cases callee with
  | value f=>exact absurd rfl hc
  | _=>rfl
 | _=>rfl
def Zs (P:Program) (w0:World) (ev:Env) (s:St) (o:Oper) (Post:AV→St→Prop):Prop :=
 (N6 o.op=true∧match o.op with
  | .call ⟨.value f,args,_⟩=>Ba ev true f∧(∀ x∈args.toList,Ba ev true x)∧Qb P w0 (AD ev f) (args.toList.map fun x=>argP ev (AD ev x)) s Post
  | _=>False)∨∃ v s',KI P w0 ev s o v s'∧∀ r t,r=v∧t=s'→Post r t
theorem Zaq {M:Mem} {ev:Env} {s s':St} {a:Act} {w:World} (h:Rel w0 n M ev s a w) (ro:Option Nat) (m:Nat) {o:Oper} {v:AV} (hv:KI P w0 ev s o v s')
  (Q:Exit→Act→World→Prop) (K:Act→World→Prop) (hK:∀ u w' M',Ext w0 M w M' w'→RelSt w0 M' s' w'→R w0 M' w' u v→K (a.put o.dst u) w'):o.wpIn (FW ro) m P a w K Q:=by
 by_cases hc:N6 o.op=true
 ·obtain ⟨dst,op,l,q,e,k⟩:=o
  cases op<;>try cases hc
  rename_i cc
  obtain ⟨callee,p,y⟩:=cc
  cases callee<;>try cases hc
  rename_i f
  obtain ⟨j,g,d⟩:=hv
  refine M5 h ro m j g d Q _ (fun r t x u w' M' i b c=>?_)
  obtain ⟨rfl,rfl⟩:=x
  exact hK u w' M' i b c
 ·rw [ZaE hc] at hv
  obtain ⟨j,g,d⟩:=hv
  refine U4 h ro m o j Q _ (fun u w' M' i b c=>?_)
  rw [d] at b
  rw [g] at c
  exact hK u w' M' i b c
theorem ZbY {M:Mem} {ev:Env} {s:St} {a:Act} {w:World} (h:Rel w0 n M ev s a w) (ro:Option Nat) (m:Nat) {o:Oper} {Post:AV→St→Prop} (hv:Zs P w0 ev s o Post)
  (Q:Exit→Act→World→Prop) (K:Act→World→Prop) (hK:∀ v s' u w' M',Post v s'→Ext w0 M w M' w'→RelSt w0 M' s' w'→R w0 M' w' u v→K (a.put o.dst u) w'):o.wpIn (FW ro) m P a w K Q:=by
 rcases hv with ⟨hc,hv⟩ | ⟨v,s',hv,g⟩
 ·obtain ⟨dst,op,j,l,c,i⟩:=o
  cases op<;>try cases hc
  rename_i cc
  obtain ⟨callee,k,y⟩:=cc
  cases callee<;>try cases hc
  rename_i f
  obtain ⟨x,q,p⟩:=hv
  exact M5 h ro m x q p Q _ (fun r t g u w' M' e b d=>hK r t u w' M' g e b d)
 ·exact Zaq h ro m hv Q K fun u w' M' e b d=>hK v s' u w' M' (g _ _ ⟨rfl,rfl⟩) e b d
def Good (P:Program) (w0:World) (n:Nat) (l:List Oper) (ef:List Nat) (F:St→Prop) (T:Env→St→Prop):Nat→List Nat→Env→St→Prop
 | 0,_,_,_=>False
 | k+1,dn,ev,s=>F s∧((ef.all fun i=>dn.contains i)=true→T ev s)∧∀ i∈ef,dn.contains i=false→(ef.all fun j => !SC (JS l []) i j||dn.contains j)=true →
   ∃ o,l[i]? = some o∧o.guard=none∧Nu n o.dst∧∃ Post:AV→St→Prop,Zs P w0 (Eo true l o ev) s o Post∧∀ v s',Post v s'→Good P w0 n l ef F T k (i::dn) (MV ev o.dst true v) s'
structure AInv (w0:World) (n:Nat) (l:List Oper) (ef:List Nat) (e e1:Env) (M1:Mem) (w1:World) (ds:List Deferred) (dn:List Nat) (ev:Env) (s:St) (listed:Array Bool) (a:Act) (w:World) (M:Mem):Prop where
 size:listed.size=l.length
 closed:∀ (j:Nat) (oj:Oper),l[j]? = some oj→listed.getD j false=true→∀ e∈oj.after,Region.binds .any e=true→listed.getD e.on false=true
 eff:∀ i∈ef,(listed.getD i false=true↔i∈dn)
 sub:∀ i∈dn,i∈ef
 rel:RelSt w0 M s w
 tmps:a.tmps.size=n
 defers:a.defers=ds
 ext:Ext w0 M1 w1 M w
 evn:∀ t,(∀ j∈dn,∀ o,l[j]? = some o→o.dst≠some t)→Eu ev t=Eu e1 t
 done:∀ t x,(∃ j∈dn,∃ o,l[j]? = some o∧o.dst=some t)→Eu ev t=some x→entryOk w0 M w (a.tmps.getD t undef) x
 new:∀ t x,(∀ j∈dn,∀ o,l[j]? = some o→o.dst≠some t)→(∃ i o,i ∉ ef∧l[i]? = some o∧o.dst=some t∧listed.getD i false=true)→Eu e1 t=some x→entryOk w0 M w (a.tmps.getD t undef) x
 old:∀ t x,(∀ i o,l[i]? = some o→o.dst=some t→listed.getD i false=false)→Eu e t=some x→entryOk w0 M w (a.tmps.getD t undef) x
theorem Zp {l:List Oper} {ef:List Nat} {e e1:Env} {F:St→Prop} {T:Env→St→Prop} {M1:Mem} {w1:World} {ds:List Deferred} {ro:Option Nat} {m:Nat} {Q:Exit→Act→World→Prop} (hB:XF l ef=true)
  (hF:∀ s,F s→∃ c,X9 P w0 n true l (fun e' s'=>e'=e1∧s'=s) c (EI ef 0 l) e s)
  (hT:∀ ev s M a w,T ev s→Rel w0 n M ev s a w→Ext w0 M1 w1 M w→a.defers=ds→Q .normal a w) :
  ∀ fuel listed a w M k dn ev s,fuel=listed.toList.count false→Good P w0 n l ef F T k dn ev s→AInv w0 n l ef e e1 M1 w1 ds dn ev s listed a w M→wpAnyIn (FW ro) m P .any l.toArray Q fuel listed a w:=by
 -- what the z of the operations apart from the effects tells
 have z:∀ s,F s→∃ E C V,Trail P w0 n l (EI ef 0 l) e s E C V∧E l.length=e1:=by
  intro s hs
  obtain ⟨c,hc⟩:=hF s hs
  obtain ⟨E,C,V,h1,h2,_⟩:=WP c _ _ hc
  rw [ME] at h2
  exact ⟨E,C,V,h1,h2⟩
 have ah:∀ {i:Nat} {o:Oper},i ∉ ef→l[i]? = some o→(EI ef 0 l)[i]? = some o:=by
  intro i o hi ho
  rw [U5,ho]
  simp [hi]
 have D:∀ {i:Nat} {o:Oper} {t:Nat},(EI ef 0 l)[i]? = some o→o.dst=some t→i ∉ ef∧l[i]? = some o:=by
  intro i o t hi hd
  rw [U5] at hi
  cases hl:l[i]? with
  | none=>simp [hl] at hi
  | some p =>
   rw [hl] at hi
   simp only [Option.map_some,Nat.zero_add,Option.some.injEq] at hi
   by_cases c:i∈ef
   ·simp [c] at hi
    subst hi
    cases hd
   ·simp [c] at hi
    subst hi
    exact ⟨c,rfl⟩
 have aa:∀ (i j:Nat) (o p:Oper) (t:Nat),(EI ef 0 l)[i]? = some o→(EI ef 0 l)[j]? = some p→o.dst=some t→p.dst=some t→i=j:=by
  intro i j o p t hi hj h1 h2
  obtain ⟨a1,a2⟩:=D hi h1
  obtain ⟨b1,b2⟩:=D hj h2
  rcases ((GZ hB a2).2 j p t b2 h2).1 h1 with h | h
  ·exact h
  ·simp [V4,a1,b1] at h
 have ab:∀ s,F s→∀ t,(∀ i o,i ∉ ef→l[i]? = some o→o.dst≠some t)→Eu e1 t=Eu e t:=by
  intro s hs t ht
  obtain ⟨E,C,V,T',H⟩:=z s hs
  have:=(Pn T' aa t l.length (by rw [ME];exact Nat.le_refl _)).1 fun i o _ hi hd=>by
   obtain ⟨a1,a2⟩:=D hi hd
   exact ht i o a1 a2 hd
  rw [H] at this
  exact this
 intro fuel
 induction fuel with
 | zero =>
  intro listed a w M k dn ev s hf hg inv
  have q:∀ j,j<l.length→listed.getD j false=true:=by
   intro j hj
   cases hq:listed.getD j false with
   | true=>rfl
   | false =>
    exfalso
    have a4:j<listed.size:=by rw [inv.size];omega
    have:false∈listed.toList:=by
     have e1:listed[j]=false:=by simpa [a4] using hq
     rw [←e1];simp
    have:=List.count_pos_iff.2 this
    omega
  cases k with
  | zero=>exact hg.elim
  | succ k =>
  obtain ⟨g1,g2,_⟩:=hg
  have av:(ef.all fun i=>dn.contains i)=true:=by
   refine List.all_eq_true.2 fun i hi=>?_
   have c:i<l.length:=by simpa using List.all_eq_true.1 (Bool.and_eq_true_iff.1 hB).1 i hi
   simpa using (inv.eff i hi).1 (q i c)
  refine ⟨?_,hT ev s M a w (g2 av) ⟨inv.rel,inv.tmps,fun t x g=>?_⟩ inv.ext inv.defers⟩
  ·refine List.eq_nil_iff_forall_not_mem.2 fun i hi=>?_
   obtain ⟨U,o,ho,_⟩:=mem_ready.1 hi
   have ho':l[i]? = some o:=by simpa using ho
   have:=q i (Aj.1 ho').1
   obtain ⟨q1,q2⟩:=Zcx U
   obtain ⟨q3,q4⟩:=Zei this
   rw [q2] at q4;cases q4
  ·by_cases A:∃ j∈dn,∃ o,l[j]? = some o∧o.dst=some t
   ·exact inv.done t x A g
   ·have N:∀ j∈dn,∀ o,l[j]? = some o→o.dst≠some t:=fun j hj o ho hd=>A ⟨j,hj,o,ho,hd⟩
    rw [inv.evn t N] at g
    by_cases Bf:∃ i o,i ∉ ef∧l[i]? = some o∧o.dst=some t
    ·obtain ⟨i,o,b1,b2,b3⟩:=Bf
     exact inv.new t x N ⟨i,o,b1,b2,b3,q i (Aj.1 b2).1⟩ g
    ·rw [ab s g1 t fun i o b1 b2 b3=>Bf ⟨i,o,b1,b2,b3⟩] at g
     refine inv.old t x (fun i o ho hd=>?_) g
     by_cases c:i∈ef
     ·exact absurd hd (N i ((inv.eff i c).1 (q i (Aj.1 ho).1)) o ho)
     ·exact absurd ⟨i,o,c,ho,hd⟩ Bf
 | succ fuel ih =>
  intro listed a w M k dn ev s hf hg inv
  cases k with
  | zero=>exact hg.elim
  | succ k =>
  obtain ⟨g1,g2,g3⟩:=hg
  have ak:∃ j,j<l.length∧listed.getD j false=false∧∀ i,i<j→listed.getD i false=true:=by
   refine Vy fun q=>?_
   have:0<listed.toList.count false:=by omega
   have hm:=List.count_pos_iff.1 this
   obtain ⟨i,hi,H⟩:=List.mem_iff_getElem.1 hm
   have b:i<listed.size:=by simpa using hi
   have:=q i (by rw [←inv.size];exact b)
   simp only [Array.getD_eq_getD_getElem?,Array.getElem?_eq_getElem b,Option.getD_some] at this
   rw [Array.getElem_toList] at H
   rw [H] at this;cases this
  obtain ⟨k0,a0,a3,ay⟩:=ak
  have aw:k0<listed.size:=by rw [inv.size];omega
  have aq:l[k0]? = some l[k0]:=List.getElem?_eq_getElem a0
  have O:k0∈Region.ready .any l.toArray listed :=
   mem_ready.2 ⟨by simpa [aw] using a3,l[k0],by simp,fun ed H hb=>ay _ ((GZ hB aq).1 ed H hb)⟩
  refine ⟨fun h0=>absurd O (by rw [h0];simp),fun i hi=>?_⟩
  obtain ⟨U,o,ho,ae⟩:=mem_ready.1 hi
  have ho':l[i]? = some o:=by simpa using ho
  have ag:i<l.length:=(Aj.1 ho').1
  have b:i<listed.size:=by rw [inv.size];omega
  have ad:listed.getD i false=false:=by simpa [b] using U
  have K:∀ j,SC (JS l []) i j=true→listed.getD j false=true:=fun j hj=>Xq hB inv.closed j i o ho' ae hj
  have Z:fuel=(listed.setIfInBounds i true).toList.count false:=by
   have am:listed[i]=false:=by simpa [b] using U
   have a6:0<listed.toList.count false:=List.count_pos_iff.2 (by rw [←am];simp)
   rw [Array.toList_setIfInBounds,List.count_set (by simpa using b)]
   simp only [Array.getElem_toList,am]
   rw [Ah (show (false == false)=true from rfl),Ai (show ¬ (true == false)=true by decide)]
   omega
  have y:∀ (j:Nat) (oj:Oper),l[j]? = some oj→(listed.setIfInBounds i true).getD j false=true→∀ ed∈oj.after,Region.binds .any ed=true→(listed.setIfInBounds i true).getD ed.on false=true:=by
   intro j oj hj hl ed H hb
   rw [F4 b] at hl ⊢
   split
   ·rfl
   ·by_cases c:i=j
    ·subst c
     rw [ho'] at hj;cases hj
     exact ae ed H hb
    ·rw [Ai c] at hl
     exact inv.closed j oj hj hl ed H hb
  unfold wpOpIn
  simp only [ho]
  by_cases hie:i∈ef
  ·-- an effect
   have ar:dn.contains i=false:=by
    cases hq:dn.contains i with
    | false=>rfl
    | true=>have:=(inv.eff i hie).2 (by simpa using hq);rw [ad] at this;cases this
   obtain ⟨o2,q1,q2,q3,Post,q4,az⟩:=g3 i hie ar (by
    refine List.all_eq_true.2 fun j hj=>?_
    cases hq:SC (JS l []) i j with
    | false=>rfl
    | true=>simpa using (inv.eff j hj).1 (K j hq))
   rw [ho'] at q1;cases q1
   have J:Rel w0 n M (Eo true l o ev) s a w:=by
    refine ⟨inv.rel,inv.tmps,fun t x hs=>?_⟩
    simp only [Eo,if_true] at hs
    have hm:=Ou _ _ _ _ hs
    have g:=Kw _ _ _ _ hs
    by_cases A:∃ j∈dn,∃ o,l[j]? = some o∧o.dst=some t
    ·exact inv.done t x A g
    ·have N:∀ j∈dn,∀ o,l[j]? = some o→o.dst≠some t:=fun j hj o ho hd=>A ⟨j,hj,o,ho,hd⟩
     rw [inv.evn t N] at g
     by_cases Bf:∃ i o,i ∉ ef∧l[i]? = some o∧o.dst=some t
     ·obtain ⟨j,p,b1,b2,b3⟩:=Bf
      have hl:=((GZ hB ho').2 j p t b2 b3).2 hm
      have:SC (JS l []) i j=true:=by simpa [TA,hie,b1] using hl
      exact inv.new t x N ⟨j,p,b1,b2,b3,K j this⟩ g
     ·rw [ab s g1 t fun i o b1 b2 b3=>Bf ⟨i,o,b1,b2,b3⟩] at g
      refine inv.old t x (fun j p hp hd=>?_) g
      by_cases c:j∈ef
      ·cases hq:listed.getD j false with
       | false=>rfl
       | true=>exact absurd hd (N j ((inv.eff j c).1 hq) p hp)
      ·exact absurd ⟨j,p,c,hp,hd⟩ Bf
   have hw:Region.wanted o (yielded l.toArray a.tmps)=true:=by simp [Region.wanted,q2]
   rw [hw,Ah rfl]
   refine ZbY J ro m q4 Q _ fun v s' u w' M' aj g af hu=>?_
   have q5:=az v s' aj
   have keep:∀ t x,o.dst≠some t→entryOk w0 M w (a.tmps.getD t undef) x→entryOk w0 M' w' ((a.put o.dst u).tmps.getD t undef) x:=by
    intro t x f h1
    rw [MR a o.dst u t (by rw [inv.tmps];exact q3),Ai f]
    exact h1.mono g
   refine ih _ _ _ M' k (i::dn) _ s' Z q5 ⟨by simp [inv.size],y,fun j hj=>?_,fun j hj=>?_,af,by rw [TU];exact inv.tmps,by rw [M7];exact inv.defers,inv.ext.trans g,fun t ht=>?_,fun t x Y hx'=>?_,fun t x Y hN hx'=>?_,fun t x hO hx'=>?_⟩
   ·rw [F4 b]
    by_cases c:i=j
    ·subst c;simp
    ·rw [Ai c,inv.eff j hj];simp [Ne.symm c]
   ·rcases List.mem_cons.1 hj with rfl | hj
    ·exact hie
    ·exact inv.sub j hj
   ·have f:=ht i (List.mem_cons_self ..) o ho'
    have:Eu (MV ev o.dst true v) t=Eu ev t:=by
     cases hd:o.dst with
     | none=>rfl
     | some d=>rw [hd] at f;simp only [MV,Eu];rw [Ai (fun h=>f (by rw [h]))]
    rw [this]
    exact inv.evn t fun j hj=>ht j (List.mem_cons_of_mem _ hj)
   ·by_cases c:o.dst=some t
    ·rw [c] at hx'
     simp only [MV,Eu,if_true,Option.some.injEq] at hx'
     subst hx'
     rw [MR a o.dst u t (by rw [inv.tmps];exact q3),Ah c]
     simpa only [entryOk,if_true] using hu
    ·have:Eu (MV ev o.dst true v) t=Eu ev t:=by
      cases hd:o.dst with
      | none=>rfl
      | some d=>rw [hd] at c;simp only [MV,Eu];rw [Ai (fun h=>c (by rw [h]))]
     rw [this] at hx'
     refine keep t x c (inv.done t x ?_ hx')
     obtain ⟨j,hj,p,hp,hd⟩:=Y
     rcases List.mem_cons.1 hj with rfl | hj
     ·rw [ho'] at hp;cases hp;exact absurd hd c
     ·exact ⟨j,hj,p,hp,hd⟩
   ·have f:=Y i (List.mem_cons_self ..) o ho'
    refine keep t x f (inv.new t x (fun j hj=>Y j (List.mem_cons_of_mem _ hj)) ?_ hx')
    obtain ⟨j,p,b1,b2,b3,b4⟩:=hN
    rw [F4 b] at b4
    by_cases c:i=j
    ·subst c;exact absurd hie b1
    ·rw [Ai c] at b4;exact ⟨j,p,b1,b2,b3,b4⟩
   ·have f:o.dst≠some t:=fun hd=>by
     have:=hO i o ho' hd
     rw [F4 b,Ah rfl] at this;cases this
    refine keep t x f (inv.old t x (fun j p hp hd=>?_) hx')
    have:=hO j p hp hd
    rw [F4 b] at this
    by_cases c:i=j
    ·rw [Ah c] at this;cases this
    ·rwa [Ai c] at this
  ·-- one of the others
   obtain ⟨E,C,V,T',H⟩:=z s g1
   have ap:=ah hie ho'
   obtain ⟨t1,t2,t3,t4,t5⟩:=T'.step i o ap
   have r:∀ t j,j≤l.length→_:=fun t j hj=>Pn T' aa t j (by rw [ME];exact hj)
   have G:∀ j∈dn,∀ p,l[j]? = some p→SC (JS l []) j i=true→False:=by
    intro j hj p hp ax
    have au:=(inv.eff j (inv.sub j hj)).2 hj
    have:=Xq hB inv.closed i j p hp (inv.closed j p hp au) ax
    rw [ad] at this;cases this
   have J:Rel w0 n M (Eo true l o (E i)) s a w:=by
    refine ⟨inv.rel,inv.tmps,fun t x hs=>?_⟩
    simp only [Eo,if_true] at hs
    have hm:=Ou _ _ _ _ hs
    have g:=Kw _ _ _ _ hs
    have N:∀ j∈dn,∀ p,l[j]? = some p→p.dst≠some t:=by
     intro j hj p hp hd
     have hl:=((GZ hB ho').2 j p t hp hd).2 hm
     have hje:=inv.sub j hj
     exact G j hj p hp (by simpa [TA,hie,hje] using hl)
    by_cases Bf:∃ i o,i ∉ ef∧l[i]? = some o∧o.dst=some t
    ·obtain ⟨j,p,b1,b2,b3⟩:=Bf
     have hl:=((GZ hB ho').2 j p t b2 b3).2 hm
     have ao:j<i∧SC (JS l []) i j=true:=by simpa [TA,hie,b1] using hl
     have e2:=(r t i (Nat.le_of_lt ag)).2 j p ao.1 (ah b1 b2) b3
     have e3:=(r t l.length (Nat.le_refl _)).2 j p (by omega) (ah b1 b2) b3
     rw [e2] at g
     rw [H] at e3
     exact inv.new t x N ⟨j,p,b1,b2,b3,K j ao.2⟩ (e3.trans g)
    ·have:=(r t i (Nat.le_of_lt ag)).1 fun j p _ hj hd=>by
      obtain ⟨a1,a2⟩:=D hj hd
      exact Bf ⟨j,p,a1,a2,hd⟩
     rw [this] at g
     refine inv.old t x (fun j p hp hd=>?_) g
     by_cases c:j∈ef
     ·cases hq:listed.getD j false with
      | false=>rfl
      | true=>exact absurd hd (N j ((inv.eff j c).1 hq) p hp)
     ·exact absurd ⟨j,p,c,hp,hd⟩ Bf
   refine VG J ro m t2 (by rw [t4];exact t5) Q _ fun u w' M' g af hu=>?_
   rw [t4] at hu
   have keep:∀ t x,o.dst≠some t→entryOk w0 M w (a.tmps.getD t undef) x→entryOk w0 M' w' ((a.put o.dst u).tmps.getD t undef) x:=by
    intro t x f h1
    rw [MR a o.dst u t (by rw [inv.tmps];exact t3),Ai f]
    exact h1.mono g
   have a5:∀ t,o.dst=some t→∀ j∈dn,∀ p,l[j]? = some p→p.dst≠some t:=by
    intro t hd j hj p hp ai
    have hje:=inv.sub j hj
    rcases ((GZ hB ho').2 j p t hp ai).1 hd with h | h
    ·subst h;exact hie hje
    ·exact G j hj p hp (by simpa [V4,hie,hje] using h)
   refine ih _ _ _ M' (k+1) dn ev s Z ⟨g1,g2,g3⟩ ⟨by simp [inv.size],y,fun j hj=>?_,inv.sub,af,by rw [TU];exact inv.tmps,by rw [M7];exact inv.defers,inv.ext.trans g,inv.evn,fun t x Y hx'=>?_,fun t x Y hN hx'=>?_,fun t x hO hx'=>?_⟩
   ·rw [F4 b,Ai (fun (h:i=j)=>hie (h▸hj))]
    exact inv.eff j hj
   ·refine keep t x (fun hd=>?_) (inv.done t x Y hx')
    obtain ⟨j,hj,p,hp,ai⟩:=Y
    exact a5 t hd j hj p hp ai
   ·by_cases c:o.dst=some t
    ·rw [MR a o.dst u t (by rw [inv.tmps];exact t3),Ah c]
     have e3:=(r t l.length (Nat.le_refl _)).2 i o ag ap c
     rw [H,hx'] at e3
     cases e3
     exact hu
    ·refine keep t x c (inv.new t x Y ?_ hx')
     obtain ⟨j,p,b1,b2,b3,b4⟩:=hN
     rw [F4 b] at b4
     by_cases c':i=j
     ·subst c';rw [ho'] at b2;cases b2;exact absurd b3 c
     ·rw [Ai c'] at b4;exact ⟨j,p,b1,b2,b3,b4⟩
   ·have f:o.dst≠some t:=fun hd=>by
     have:=hO i o ho' hd
     rw [F4 b,Ah rfl] at this;cases this
    refine keep t x f (inv.old t x (fun j p hp hd=>?_) hx')
    have:=hO j p hp hd
    rw [F4 b] at this
    by_cases c:i=j
    ·rw [Ah c] at this;cases this
    ·rwa [Ai c] at this
def Conv (w0:World) (n nb:Nat) (e:Env) (s:St) (e':Env) (s':St):Prop:=∀ M a w,Rel w0 n M e s a w→∃ M',(∀ Ms ws,Ms.N=nb→Ext w0 Ms ws M w→Ext w0 Ms ws M' w)∧Rel w0 n M' e' s' a w
theorem G5 {M0:Mem} {W0:World} {ro:Option Nat} {Q:AQ} {e:Env} {st:St} (hm:P.follows .mixedOrders=true) (ef:List Nat) (L:List Nat) {id:Nat} {l:List Oper} (hB:XF l ef=true) (F:St→Prop) (k nb:Nat) {e1 e2:Env} {s2:St} (hnb:st.boxes.length=nb)
  (hF:∀ s,F s→∃ c,X9 P w0 n true l (fun e' s'=>e'=e1∧s'=s) c (EI ef 0 l) e s) (hG:Good P w0 n l ef F (fun ev s=>Conv w0 n nb ev s e2 s2) k [] e1 st) (hQ:Q .normal (EY L e2) s2):F3 P w0 n M0 W0 ro (.region id l.toArray true) Q e st:=by
 intro m M a w hr
 obtain ⟨d1,d2⟩:=hr.rel.st.drew
 refine wpIn_region_any hm (Zp (e:=e) (e1:=e1) (M1:=M) (w1:=w) (ds:=a.defers) hB hF (fun ev s q f g o b u hd=>?_) _ _ a _ M k [] e1 st ?_ hG ?_)
 ·obtain ⟨M2,r,p⟩:=o q f g b
  have d:=r M w (hr.rel.st.N.trans hnb) u
  refine ⟨M2,_,_,⟨p.sub (Dx L _),hr.ext.trans d,?_⟩,hQ⟩
  rw [hd]
  exact hr.marks.later d hr.rel.st
 ·simp
 ·have hnl:∀ j,(Array.replicate l.toArray.size false).getD j false=false:=fun j=>by
   by_cases c:j<l.length
   ·simp [Array.getD_eq_getD_getElem?,c]
   ·simp [Array.getD_eq_getD_getElem?,c]
  exact ⟨by simp,fun j _ _ hl=>(by rw [hnl] at hl;cases hl),fun i _=>(by rw [hnl];simp),fun _ h=>(nomatch h),d1,hr.rel.size,rfl,d2,fun _ _=>rfl,fun _ _ ⟨_,h,_⟩=>(nomatch h),
   fun _ _ _ ⟨i,_,_,_,_,h⟩=>(by rw [hnl] at h;cases h),fun t x _ hs=>(hr.rel.env t x hs).mono d2⟩
theorem GP (L:List Nat) {nb:Nat} {e e':Env} {s:St} (h:EY L e=e'):Conv w0 n nb e s e' s:=fun M _ w a=>⟨M,fun _ _ _ h=>h,by rw [←h];exact a.sub (Dx L e)⟩
def Zb8 (l:List Oper) (ef dn:List Nat):List Nat:=ef.filter fun i => !dn.contains i&&ef.all fun j => !SC (JS l []) i j||dn.contains j
theorem Good.mk {l:List Oper} {ef dn:List Nat} {F:St→Prop} {T:Env→St→Prop} {k:Nat} {ev:Env} {s:St} (rs:List Nat) (hr:Zb8 l ef dn=rs) (hF:F s) (hT:(ef.all fun i=>dn.contains i)=true→T ev s)
  (h:∀ i∈rs,∃ o,l[i]? = some o∧o.guard=none∧Nu n o.dst∧∃ Post:AV→St→Prop,Zs P w0 (Eo true l o ev) s o Post∧∀ v s',Post v s'→Good P w0 n l ef F T k (i::dn) (MV ev o.dst true v) s'):Good P w0 n l ef F T (k+1) dn ev s :=
 ⟨hF,hT,fun i a hd b=>h i (by rw [←hr];exact List.mem_filter.2 ⟨a,by rw [hd,b];rfl⟩)⟩
theorem MJ {l:List Oper} {ef dn:List Nat} {F:St→Prop} {T:Env→St→Prop} {k i:Nat} {ev:Env} {s:St} {o:Oper} {v:AV} {s':St} (ho:l[i]? = some o) (hg:o.guard=none) (hd:Nu n o.dst) (hs:KI P w0 (Eo true l o ev) s o v s')
  (hk:Good P w0 n l ef F T k (i::dn) (MV ev o.dst true v) s'):∃ o,l[i]? = some o∧o.guard=none∧Nu n o.dst∧∃ Post:AV→St→Prop,Zs P w0 (Eo true l o ev) s o Post∧∀ v s',Post v s'→Good P w0 n l ef F T k (i::dn) (MV ev o.dst true v) s' :=
 ⟨o,ho,hg,hd,fun r t=>r=v∧t=s',.inr ⟨v,s',hs,fun _ _ h=>h⟩,by rintro _ _ ⟨rfl,rfl⟩;exact hk⟩
theorem KH {l:List Oper} {ef dn:List Nat} {F:St→Prop} {T:Env→St→Prop} {k i:Nat} {ev:Env} {s:St} {o:Oper} {f:Operand} {args:Array Operand} {ts:Array TypeId} {Post:AV→St→Prop} (ho:l[i]? = some o) (hg:o.guard=none) (hd:Nu n o.dst) (hop:o.op = .call ⟨.value f,args,ts⟩)
  (h1:Ba (Eo true l o ev) true f) (h2:∀ x∈args.toList,Ba (Eo true l o ev) true x) (h3:Qb P w0 (AD (Eo true l o ev) f) (args.toList.map fun x=>argP (Eo true l o ev) (AD (Eo true l o ev) x)) s Post)
  (hk:∀ v s',Post v s'→Good P w0 n l ef F T k (i::dn) (MV ev o.dst true v) s'):∃ o,l[i]? = some o∧o.guard=none∧Nu n o.dst∧∃ Post:AV→St→Prop,Zs P w0 (Eo true l o ev) s o Post∧∀ v s',Post v s'→Good P w0 n l ef F T k (i::dn) (MV ev o.dst true v) s' :=
 ⟨o,ho,hg,hd,Post,.inl ⟨by rw [hop];rfl,by rw [hop];exact ⟨h1,h2,h3⟩⟩,hk⟩
end
def Tg {α:Type} (_:α):Prop:=True
theorem tg {α:Type} {a:α}:Tg a:=trivial
theorem cl {p:Prop} (h:p:=by first | (intros;omega) | (intros;simp_all;done) | (intros;simp only [Bool.or_eq_false_iff,Bool.or_eq_true,Bool.and_eq_true,Bool.and_eq_false_iff,decide_eq_true_eq,decide_eq_false_iff_not,bne_iff_ne] at *; omega)):p:=h
theorem pf {p:Prop} (h:p:=by first | exact List.prefix_append _ _ | exact List.prefix_refl _ | (rw [List.append_assoc];exact List.prefix_append _ _)):p:=h
theorem ev {p:Prop} (h:p:=by simp +decide only [go_sem,Nat.reduceAdd]):p:=h
theorem ef {p F:Prop} (f:F) (h:F→p:=by intro hs;first | rfl | (simp +decide only [go_sem,Nat.reduceAdd,hs];done)):p:=h f
theorem en {p F:Prop} (f:F) (h:F→p:=by intro hs;first | (simp +decide only [go_sem,Nat.reduceAdd,hs];done) | (simp +decide only [go_sem,Nat.reduceAdd,hs];rfl)):p:=h f
theorem ow {p:Prop} (h:p:=by (simp +decide only [go_sem,Nat.reduceAdd,JX])<;>(try (repeat' apply Ad))<;>first | omega | assumption):p:=h
theorem YB:(0:Nat)=0:=rfl
section
variable {P:Program} {w0:World} {n:Nat} {M0:Mem} {W0:World} {ro:Option Nat} {e:Env} {st:St} {Q:AQ}
theorem LF {c:Nat} {L:List Nat} (tc:Tg c) (tL:Tg L) {id:Nat} {l:List Oper} (h:X9 P w0 n false l (fun e' st'=>Q .normal (EY L e') st') c l e st):F3 P w0 n M0 W0 ro (.region id l.toArray false) Q e st:=Ax c L h
theorem Wg {L:List Nat} (t:Tg L) {c:Code} (h:F3 P w0 n M0 W0 ro c Q (EY L e) st):F3 P w0 n M0 W0 ro c Q e st:=Jf _ h (Dx _ _)
theorem QW {h c1 c2:Nat} {L:List Nat} (tt:Tg (h,c1,c2,L)) (hm:P.follows .mixedOrders=true) {id:Nat} {l:List Oper} (hB:Y5 l h=true)
  (hev:X9 P w0 n true l (fun e1 s1=>X9 P w0 n false l (fun e2 s2=>Q .normal (EY L e2) s2) c2 (l.drop h) e1 s1) c1 (l.take h) e st):F3 P w0 n M0 W0 ro (.region id l.toArray true) Q e st:=Zb6 hm h c1 c2 L hB hev
theorem HG {c d:Bool} {fv:AV} {args:List AV} {k:AV→St→Prop} (h:LH P w0 c d fv args st k):LH P w0 c d fv args st k:=h
theorem BN {β:Type} {F:Prop} {b:Bool} {X Y r:β} (h:(if b=true then X else Y)=r) (f:F) {c:Operand} {x y:Code} (ht:(b=true∧F)→X=r→F3 P w0 n M0 W0 ro x Q e st) (hf:(b=false∧F)→Y=r→F3 P w0 n M0 W0 ro y Q e st)
  (hc:Ba e true c:=by simp +decide only [go_sem,Nat.reduceAdd]) (hb:F→AD e c = .val (.bool b):=by intro hs;first | (simp +decide only [go_sem,Nat.reduceAdd,hs];done) | (simp +decide only [go_sem,Nat.reduceAdd,hs];rfl)):F3 P w0 n M0 W0 ro (.cond c x y) Q e st :=
 Di b hc (hb f) (fun q=>ht ⟨q,f⟩ (CP h q)) (fun q=>hf ⟨q,f⟩ (CO h q))
theorem td {B0 B bs X:List (List AV)} {Rw rows:List RowA} {L:List LoopA} {l:List (Nat × Nat × Own)} {c:Code} (hN:M0.N=B0.length) (hNR:M0.NR=Rw.length) (hNL:M0.NL=L.length) (hc:Calm B0.length Rw.length L.length ⟨B,Rw,L⟩) (ho:Owns Rw rows l)
  (h:F3 P w0 n M0 W0 ro c Q e ⟨B++bs,rows,L⟩) (hB:B.length=B0.length:=by first | rfl | simp only [List.length_set])
  (hbs:∀ cs∈bs,∀ x∈cs,Under (B0.length+bs.length) rows.length L.length x:=by (simp +decide only [go_sem,Nat.reduceAdd])<;>(try (repeat' apply Ad))<;>first | omega | assumption)
  (he:JX (B0.length+bs.length) rows.length L.length e:=by (simp +decide only [go_sem,Nat.reduceAdd,JX])<;>(try (repeat' apply Ad))<;>first | omega | assumption):F3 P w0 n M0 W0 ro c Q e ⟨B++(bs++X),rows,L⟩ :=
 AY hN hNR hNL hB hc ho hbs he h
end
section
variable {P:Program} {w0:World} {n:Nat} {M0:Mem} {W0:World} {ro:Option Nat} {e:Env} {st:St} {Q:AQ}
theorem T9 (t:TypeId) (hn:n≤1000000) {c:Code} (h:F3 P w0 n M0 W0 ro c Q ((1000000+t,false,.junk)::e) st):F3 P w0 n M0 W0 ro c Q e st :=
 OJ _ _ (fun M a w b=>⟨M,.refl _ _ _,b.st,b.size,fun s x hs=>by
  simp only [Eu] at hs
  by_cases q:1000000+t=s
  ·rw [Ah q] at hs
   cases hs
   have d:1000000≤s:=by rw [←q];exact Nat.le_add_right _ _
   simp only [entryOk,Bool.false_eq_true,if_false]
   rw [Array.getD_eq_getD_getElem?,Array.getElem?_eq_none (by rw [b.size];omega)]
   rfl
  ·rw [Ai q] at hs
   exact b.env s x hs⟩) h
end
theorem rg {F p q:Prop} (L:List Nat) (f:F) (k:q) (h:Tg L→F→q→p:=by
  intro tL hs hq
  apply An;intro K hK
  refine LF (c:=1) tg tL ?_
  rw [Ap];simp +decide only [go_sem,Nat.reduceAdd,hs]
  first | (refine hK _ _ ?_;exact hq) | ((repeat' apply Ad)<;>first | (refine hK _ _ ?_;exact hq) | (clear hq;exact cl))):p:=h tg f k
theorem rc {F p q:Prop} (c:Nat) (L:List Nat) (f:F) (k:q) (h:Tg c→Tg L→F→q→p:=by
  intro tc tL hs hq
  apply An;intro K hK
  refine LF tc tL ?_
  rw [Ap];simp +decide only [go_sem,Nat.reduceAdd,hs]
  first | (refine HG ?_;revert K;exact hq) | ((repeat' apply Ad)<;>first | (refine HG ?_;revert K;exact hq) | (clear hq;exact cl))):p:=h tg tg f k
theorem nc {F p q:Prop} (f:F) (k:q) (h:F→q→p:=by
  intro hs hq
  rw [Ap];simp +decide only [go_sem,Nat.reduceAdd,hs]
  first | (refine HG ?_;exact hq) | ((repeat' apply Ad)<;>first | (refine HG ?_;exact hq) | (clear hq;exact cl))):p:=h f k
theorem ne {F p q:Prop} (f:F) {K:Env→St→Prop} {A:Env→St→Prop} (hK:∀ e s,A e s→K e s) (k:q) (h:F→(∀ e s,A e s→K e s)→q→p:=by
  intro hs hK hq
  rw [Ap];simp +decide only [go_sem,Nat.reduceAdd,hs]
  first | (refine hK _ _ ?_;exact hq) | ((repeat' apply Ad)<;>first | (refine hK _ _ ?_;exact hq) | (clear hq;exact cl))):p:=h f hK k
theorem dg {F p q:Prop} (m c1 c2:Nat) (L:List Nat) (f:F) {P:Program} (hm:P.follows .mixedOrders=true) (k:q) (h:Tg (m,c1,c2,L)→F→P.follows .mixedOrders=true→q→p:=by
  intro tt hs hm hq
  apply An;intro K hK
  refine QW tt hm (by kernel_rfl) ?_
  rw [Ap];simp +decide only [go_sem,Nat.reduceAdd,hs]
  (repeat' with_reducible apply Ad)<;>first | (rw [Ap];simp +decide only [go_sem,Nat.reduceAdd,hs]) | (clear hq;exact cl)
  first | (refine hK _ _ ?_;exact hq) | ((repeat' apply Ad)<;>first | (refine hK _ _ ?_;exact hq) | (clear hq;exact cl))):p:=h tg f hm k
theorem sk {F p q:Prop} (L:List Nat) (f:F) {A K:Env→St→Prop} (hK:∀ e s,A e s→K e s) (k:q) (h:Tg L→F→(∀ e s,A e s→K e s)→q→p:=by
  intro tL hs hK hq
  refine Wg tL ?_
  apply Dj;simp +decide only [go_sem,Nat.reduceAdd]
  first | (refine hK _ _ ?_;exact hq) | ((repeat' apply Ad)<;>first | (refine hK _ _ ?_;exact hq) | (clear hq;exact cl))):p:=h tg f hK k
theorem sx {F p q:Prop} (L:List Nat) (f:F) {A K:Env→St→Prop} (hK:∀ e s,A e s→K e s) (k:q) (h:Tg L→F→(∀ e s,A e s→K e s)→q→p:=by
  intro tL hs hK hq
  refine Wg tL ?_
  apply LK;simp +decide only [go_sem,Nat.reduceAdd]
  first | (refine hK _ _ ?_;exact hq) | ((repeat' apply Ad)<;>first | (refine hK _ _ ?_;exact hq) | (clear hq;exact cl))):p:=h tg f hK k
theorem rl {F p q:Prop} (L:List Nat) (f:F) {A K:Env→St→Prop} (hK:∀ e s,A e s→K e s) (k:q) (h:Tg L→F→(∀ e s,A e s→K e s)→q→p:=by
  intro tL hs hK hq
  refine LF (c:=1) tg tL ?_
  rw [Ap];simp +decide only [go_sem,Nat.reduceAdd,hs]
  first | (refine hK _ _ ?_;exact hq) | ((repeat' apply Ad)<;>first | (refine hK _ _ ?_;exact hq) | (clear hq;exact cl))):p:=h tg f hK k
theorem rk {F p q:Prop} (c:Nat) (L:List Nat) (f:F) (k:q) (h:Tg c→Tg L→F→q→p:=by
  intro tc tL hs hq
  refine LF tc tL ?_
  rw [Ap];simp +decide only [go_sem,Nat.reduceAdd,hs]
  first | (refine HG ?_;exact hq) | ((repeat' apply Ad)<;>first | (refine HG ?_;exact hq) | (clear hq;exact cl))):p:=h tg tg f k
theorem hd {P:Program} {w0:World} {f:FuncId} {fn:Func} {c:Code} {n:Nat} {args:List AV} {B:List (List AV)} {Rw:List RowA} {L:List LoopA} {Post:AV→St→Prop} (rs:List ResultVar) (hf:P.funcs[f]? = some fn) (hn:fn.ntmps=n)
  (k:∀ (M0:Mem) (W0:World),M0.N=B.length→M0.NR=Rw.length→M0.NL=L.length→Calm B.length Rw.length L.length ⟨B,Rw,L⟩→(∀ x∈args,Under B.length Rw.length L.length x)→Owns Rw Rw []→(0:Nat)=0 →
   F3 P w0 n M0 W0 none c (Zfx P rs (finP ⟨B,Rw,L⟩ Post)) (AG 0 args) ⟨B,Rw,L⟩)
  (hb:fn.body=some c:=by rfl) (hrs:fn.results=rs.toArray:=by rfl) (hm:fn.name ≠ "runtime.NumGoroutine" := by decide) (ha:args.length≤n:=by exact Nat.le_of_ble_eq_true rfl):ACalls P w0 f args ⟨B,Rw,L⟩ Post :=
 ACalls.finP (FC (rs:=rs) hf hb hrs hn (Bl hf (by rw [hb];rfl) hm) ha fun M0 W0 d a b e g=>k M0 W0 d a b e g (Owns.none Rw) rfl)
theorem ix {α β:Type} {l:List α} {i:Int} {F:α→Option β} {r:β} (g:α→AV) (h:(B1 l i).bind F=some r):∃ x,0≤i∧i<l.length∧(l.map g).getD i.toNat .junk=g x∧F x=some r:=by
 obtain ⟨x,d,h⟩:=bind_some h
 obtain ⟨a,b,c⟩:=B9 d
 exact ⟨x,a,b,C5 c,h⟩
abbrev Ck (e:Env) (st:St) (B:Am) (Rw:Aq) (L:Ar) (e0:Env) (bs:Am) (ow:List (Nat × Nat × Own)) (c:Prop):Prop :=
 ∃ (X:Am) (rows:Aq),e=e0∧st=⟨B++(bs++X),rows,L⟩∧Owns Rw rows ow∧c
end Go.Ev
namespace Go.Proofs
open Go.Shelf
def Tryz.lays106_ren:Go.Shelf.Ren:=⟨fun | 106=>126 | 213=>203 | 265=>271 | n=>n,fun | 9=>9 | 3=>3 | n=>n,fun | n=>n⟩
theorem Tryz.lays106:Go.Proofs.Lays.n106 Tryz.prog Tryz.lays106_ren:={
 mixed:=by kernel_rfl
 f106:=Tryz.func126.trans (congrArg some (by kernel_rfl))
 f213:=Tryz.func203.trans (congrArg some (by kernel_rfl))
 f265:=Tryz.func271.trans (congrArg some (by kernel_rfl))
 t3:=Tryz.underlying3
 a3:=Tryz.isAgg3
 z3:=Tryz.sizeOf3
 v3:=Tryz.zeroValue3
 t9:=Tryz.underlying9
 a9:=Tryz.isAgg9
 z9:=Tryz.sizeOf9
 v9:=Tryz.zeroValue9 }
open Go.RowKit in
theorem Tryz.strings_Compare (a b:ByteArray) (w:World) :
  Calls Tryz.prog 126 #[.string a,.string b] w fun e w'=>e = .returned (.int .i64 (Lib.compareBytes a.data.toList b.data.toList))∧w'=w:=Any.strings_Compare Tryz.lays106 a b w
def Tryz.laysM171_ren:Go.Shelf.Ren:=⟨fun | 171=>134 | 243=>206 | 246=>272 | 283=>315 | 284=>316 | 285=>317 | 286=>318 | 129=>299 | 317=>344 | 318=>345 | 319=>346 | 320=>347 | 337=>364 | 338=>365 | n=>n,fun | 3=>3 | 9=>9 | 2=>2 | 4=>4 | 171=>315 | 0=>0 | 53=>301 | 37=>167 | 5=>5 | 173=>317 | 212=>339 | 51=>299 | 20=>20 | 213=>340 | 46=>231 | 232=>360 | 233=>361 | n=>n,fun | 17=>4 | 18=>7 | 19=>8 | n=>n⟩
theorem Tryz.laysM171:Go.Proofs.LaysM.n171 Tryz.prog Tryz.laysM171_ren:={
 mixed:=by kernel_rfl
 f129:=Tryz.func299.trans (congrArg some (by kernel_rfl))
 f171:=Tryz.func134.trans (congrArg some (by kernel_rfl))
 f243:=Tryz.func206.trans (congrArg some (by kernel_rfl))
 f246:=Tryz.func272.trans (congrArg some (by kernel_rfl))
 f283:=Tryz.func315.trans (congrArg some (by kernel_rfl))
 f284:=Tryz.func316.trans (congrArg some (by kernel_rfl))
 f285:=Tryz.func317.trans (congrArg some (by kernel_rfl))
 f286:=Tryz.func318.trans (congrArg some (by kernel_rfl))
 f317:=Tryz.func344.trans (congrArg some (by kernel_rfl))
 f318:=Tryz.func345.trans (congrArg some (by kernel_rfl))
 f319:=Tryz.func346.trans (congrArg some (by kernel_rfl))
 f320:=Tryz.func347.trans (congrArg some (by kernel_rfl))
 f337:=Tryz.func364.trans (congrArg some (by kernel_rfl))
 f338:=Tryz.func365.trans (congrArg some (by kernel_rfl))
 t0:=Tryz.underlying0
 a0:=Tryz.isAgg0
 z0:=Tryz.sizeOf0
 v0:=Tryz.zeroValue0
 t2:=Tryz.underlying2
 a2:=Tryz.isAgg2
 z2:=Tryz.sizeOf2
 v2:=Tryz.zeroValue2
 t3:=Tryz.underlying3
 a3:=Tryz.isAgg3
 z3:=Tryz.sizeOf3
 v3:=Tryz.zeroValue3
 t4:=Tryz.underlying4
 a4:=Tryz.isAgg4
 z4:=Tryz.sizeOf4
 v4:=Tryz.zeroValue4
 t5:=Tryz.underlying5
 a5:=Tryz.isAgg5
 z5:=Tryz.sizeOf5
 v5:=Tryz.zeroValue5
 t9:=Tryz.underlying9
 a9:=Tryz.isAgg9
 z9:=Tryz.sizeOf9
 v9:=Tryz.zeroValue9
 t20:=Tryz.underlying20
 a20:=Tryz.isAgg20
 z20:=Tryz.sizeOf20
 v20:=Tryz.zeroValue20
 t37:=Tryz.underlying167
 a37:=Tryz.isAgg167
 z37:=Tryz.sizeOf167
 v37:=Tryz.zeroValue167
 t46:=Tryz.underlying231
 a46:=Tryz.isAgg231
 z46:=Tryz.sizeOf231
 v46:=Tryz.zeroValue231
 t51:=Tryz.underlying299
 a51:=Tryz.isAgg299
 z51:=Tryz.sizeOf299
 v51:=Tryz.zeroValue299
 t53:=Tryz.underlying301
 a53:=Tryz.isAgg301
 z53:=Tryz.sizeOf301
 v53:=Tryz.zeroValue301
 t171:=Tryz.underlying315
 a171:=Tryz.isAgg315
 z171:=Tryz.sizeOf315
 v171:=Tryz.zeroValue315
 t173:=Tryz.underlying317
 a173:=Tryz.isAgg317
 z173:=Tryz.sizeOf317
 v173:=Tryz.zeroValue317
 t212:=Tryz.underlying339
 a212:=Tryz.isAgg339
 z212:=Tryz.sizeOf339
 v212:=Tryz.zeroValue339
 t213:=Tryz.underlying340
 a213:=Tryz.isAgg340
 z213:=Tryz.sizeOf340
 t232:=Tryz.underlying360
 a232:=Tryz.isAgg360
 z232:=Tryz.sizeOf360
 v232:=Tryz.zeroValue360
 t233:=Tryz.underlying361
 a233:=Tryz.isAgg361
 z233:=Tryz.sizeOf361
 v233:=Tryz.zeroValue361
 g17:=by kernel_rfl
 g18:=by kernel_rfl
 g19:=by kernel_rfl
 i0:=by kernel_rfl
 i2:=by kernel_rfl
 i3:=by kernel_rfl
 i4:=by kernel_rfl
 i5:=by kernel_rfl
 i9:=by kernel_rfl
 i20:=by kernel_rfl
 i37:=by kernel_rfl
 i46:=by kernel_rfl
 i51:=by kernel_rfl
 i53:=by kernel_rfl
 i171:=by kernel_rfl
 i173:=by kernel_rfl
 i212:=by kernel_rfl
 i232:=by kernel_rfl
 i233:=by kernel_rfl
 m17:=by kernel_rfl
 m18:=by kernel_rfl
 m19:=by kernel_rfl }
open Go.RowKit Go.Sort Go.Lib in
def Tryz.lays105_ren:Go.Shelf.Ren:=⟨fun | 105=>194 | 212=>262 | 99=>236 | 165=>263 | 166=>264 | 170=>265 | 169=>266 | 263=>310 | 264=>311 | 206=>285 | 240=>312 | 241=>313 | 276=>342 | 277=>343 | n=>n,fun | 9=>9 | 3=>3 | 4=>4 | 20=>20 | 0=>0 | 46=>231 | 109=>266 | 5=>5 | 72=>270 | 76=>249 | 51=>299 | 146=>309 | 53=>301 | 148=>311 | 70=>268 | 37=>167 | 75=>248 | 127=>313 | 164=>335 | 80=>242 | n=>n,fun | n=>n⟩
theorem Tryz.lays105:Go.Proofs.Lays.n105 Tryz.prog Tryz.lays105_ren:={
 mixed:=by kernel_rfl
 f99:=Tryz.func236.trans (congrArg some (by kernel_rfl))
 f105:=Tryz.func194.trans (congrArg some (by kernel_rfl))
 f165:=Tryz.func263.trans (congrArg some (by kernel_rfl))
 f166:=Tryz.func264.trans (congrArg some (by kernel_rfl))
 f169:=Tryz.func266.trans (congrArg some (by kernel_rfl))
 f170:=Tryz.func265.trans (congrArg some (by kernel_rfl))
 f206:=Tryz.func285.trans (congrArg some (by kernel_rfl))
 f212:=Tryz.func262.trans (congrArg some (by kernel_rfl))
 f240:=Tryz.func312.trans (congrArg some (by kernel_rfl))
 f241:=Tryz.func313.trans (congrArg some (by kernel_rfl))
 f263:=Tryz.func310.trans (congrArg some (by kernel_rfl))
 f264:=Tryz.func311.trans (congrArg some (by kernel_rfl))
 f276:=Tryz.func342.trans (congrArg some (by kernel_rfl))
 f277:=Tryz.func343.trans (congrArg some (by kernel_rfl))
 t0:=Tryz.underlying0
 a0:=Tryz.isAgg0
 z0:=Tryz.sizeOf0
 v0:=Tryz.zeroValue0
 t3:=Tryz.underlying3
 a3:=Tryz.isAgg3
 z3:=Tryz.sizeOf3
 v3:=Tryz.zeroValue3
 t4:=Tryz.underlying4
 a4:=Tryz.isAgg4
 z4:=Tryz.sizeOf4
 v4:=Tryz.zeroValue4
 t5:=Tryz.underlying5
 a5:=Tryz.isAgg5
 z5:=Tryz.sizeOf5
 v5:=Tryz.zeroValue5
 t9:=Tryz.underlying9
 a9:=Tryz.isAgg9
 z9:=Tryz.sizeOf9
 v9:=Tryz.zeroValue9
 t20:=Tryz.underlying20
 a20:=Tryz.isAgg20
 z20:=Tryz.sizeOf20
 v20:=Tryz.zeroValue20
 t37:=Tryz.underlying167
 a37:=Tryz.isAgg167
 z37:=Tryz.sizeOf167
 v37:=Tryz.zeroValue167
 t46:=Tryz.underlying231
 a46:=Tryz.isAgg231
 z46:=Tryz.sizeOf231
 v46:=Tryz.zeroValue231
 t51:=Tryz.underlying299
 a51:=Tryz.isAgg299
 z51:=Tryz.sizeOf299
 v51:=Tryz.zeroValue299
 t53:=Tryz.underlying301
 a53:=Tryz.isAgg301
 z53:=Tryz.sizeOf301
 v53:=Tryz.zeroValue301
 t70:=Tryz.underlying268
 a70:=Tryz.isAgg268
 z70:=Tryz.sizeOf268
 v70:=Tryz.zeroValue268
 t72:=Tryz.underlying270
 a72:=Tryz.isAgg270
 z72:=Tryz.sizeOf270
 v72:=Tryz.zeroValue270
 t75:=Tryz.underlying248
 a75:=Tryz.isAgg248
 z75:=Tryz.sizeOf248
 v75:=Tryz.zeroValue248
 t76:=Tryz.underlying249
 a76:=Tryz.isAgg249
 z76:=Tryz.sizeOf249
 v76:=Tryz.zeroValue249
 t109:=Tryz.underlying266
 a109:=Tryz.isAgg266
 z109:=Tryz.sizeOf266
 v109:=Tryz.zeroValue266
 t127:=Tryz.underlying313
 a127:=Tryz.isAgg313
 z127:=Tryz.sizeOf313
 v127:=Tryz.zeroValue313
 t146:=Tryz.underlying309
 a146:=Tryz.isAgg309
 z146:=Tryz.sizeOf309
 v146:=Tryz.zeroValue309
 t148:=Tryz.underlying311
 a148:=Tryz.isAgg311
 z148:=Tryz.sizeOf311
 v148:=Tryz.zeroValue311
 t164:=Tryz.underlying335
 a164:=Tryz.isAgg335
 z164:=Tryz.sizeOf335
 v164:=Tryz.zeroValue335 }
theorem Tryz.Builder_Extra_105:Builder.Extra Tryz.prog Tryz.lays105_ren:={
 sizeBuilder:=by kernel_rfl
 liesBuilder:=by kernel_rfl
 t5:=Tryz.underlying5
 a5:=Tryz.isAgg5
 z5:=Tryz.sizeOf5
 v5:=Tryz.zeroValue5
 infoByte:=by kernel_rfl
 cellsByte:=by kernel_rfl
 sizeByte:=by kernel_rfl
 neB5:=by decide }
open Go.RowKit Go.Lib in
theorem Tryz.strings_Repeat (s:ByteArray) (c:Nat) (w:World) (hc:c≤9223372036854775807) (hlen:s.size*c≤140737488355328) :
  Calls Tryz.prog 194 #[.string s,.int .i64 c] w fun e w'=>e = .returned (.string ⟨(Lib.repeatL s.data.toList c).toArray⟩)∧Below w.heap.size w w':=Any.strings_Repeat Tryz.lays105 Tryz.Builder_Extra_105 s c w hc hlen
def Tryz.laysValid_ren:Go.Shelf.Ren:=⟨fun | 196=>222 | 259=>279 | n=>n,fun | 9=>9 | 4=>4 | 3=>3 | 5=>5 | 12=>12 | 119=>279 | 0=>0 | 46=>231 | 139=>282 | 138=>281 | 53=>301 | n=>n,fun | 3=>2 | 4=>3 | n=>n⟩
theorem Tryz.laysValid:Go.Proofs.Lays.n196 Tryz.prog Tryz.laysValid_ren:={
 mixed:=by kernel_rfl
 f196:=Tryz.func222.trans (congrArg some (by kernel_rfl))
 f259:=Tryz.func279.trans (congrArg some (by kernel_rfl))
 t0:=Tryz.underlying0
 a0:=Tryz.isAgg0
 z0:=Tryz.sizeOf0
 v0:=Tryz.zeroValue0
 t3:=Tryz.underlying3
 a3:=Tryz.isAgg3
 z3:=Tryz.sizeOf3
 v3:=Tryz.zeroValue3
 t4:=Tryz.underlying4
 a4:=Tryz.isAgg4
 z4:=Tryz.sizeOf4
 v4:=Tryz.zeroValue4
 t5:=Tryz.underlying5
 a5:=Tryz.isAgg5
 z5:=Tryz.sizeOf5
 v5:=Tryz.zeroValue5
 t9:=Tryz.underlying9
 a9:=Tryz.isAgg9
 z9:=Tryz.sizeOf9
 v9:=Tryz.zeroValue9
 t12:=Tryz.underlying12
 a12:=Tryz.isAgg12
 z12:=Tryz.sizeOf12
 v12:=Tryz.zeroValue12
 t46:=Tryz.underlying231
 a46:=Tryz.isAgg231
 z46:=Tryz.sizeOf231
 v46:=Tryz.zeroValue231
 t53:=Tryz.underlying301
 a53:=Tryz.isAgg301
 z53:=Tryz.sizeOf301
 v53:=Tryz.zeroValue301
 t119:=Tryz.underlying279
 a119:=Tryz.isAgg279
 z119:=Tryz.sizeOf279
 t138:=Tryz.underlying281
 a138:=Tryz.isAgg281
 z138:=Tryz.sizeOf281
 v138:=Tryz.zeroValue281
 t139:=Tryz.underlying282
 a139:=Tryz.isAgg282
 z139:=Tryz.sizeOf282
 v139:=Tryz.zeroValue282
 g3:=by kernel_rfl
 g4:=by kernel_rfl }
end Go.Proofs
