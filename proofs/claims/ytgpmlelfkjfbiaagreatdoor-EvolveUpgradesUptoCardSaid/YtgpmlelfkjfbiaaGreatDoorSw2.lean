/-
  Part 2 of the proof: rules and walks that the claim's last text uses.
-/
import Derived.Attr
import Derived.Ground.Names2Prog
import Derived.Ground.NamesProg
import Derived.Ground.SlgnProg
import Derived.Ground.SlsfProg
import Derived.OrdersIn
import Derived.RangeFuncIn
import Derived.Shelf.LaysM
import Derived.Shelf.Small.Bits
import Derived.Shelf.Small.Strs
import Derived.Shelf.Strconv.Itoa0
import Derived.Shelf.Strconv.Itoa1
import Derived.Shelf.Strconv.Itoa2
import Derived.Shelf.Strconv.Itoa3
import Derived.Shelf.Strings.Repeat
import Derived.Shelf.Unicode.DecodeSlow
import Derived.Shelf.Unicode.ValidAny
import Derived.StillTail
import Derived.Test.YtgpmlelfkjfbiaaGreatDoorProg
import Derived.Test.YtgpmlelfkjfbiaaGreatDoorSw1
set_option linter.unusedSimpArgs false
set_option linter.unusedVariables false
set_option maxRecDepth 100000
set_option maxHeartbeats 4000000
namespace Go.Ev
open Go Go.RowKit
def Marked (W0:World) (ds:List Deferred) (w:World):Prop :=
 ∃ Ds:List Nat,Ds.Nodup∧ds=Ds.map (fun D=>{ target := .collected D,args := #[] })∧∀ D∈Ds,W0.heap.size≤D∧w.heap[D]? = some (.deferred (some []))
abbrev AQ:=Exit→Env→St→Prop
structure At (w0:World) (n:Nat) (M0:Mem) (W0:World) (e:Env) (st:St) (a:Act) (w:World) (M:Mem):Prop where
 rel:Rel w0 n M e st a w
 ext:Ext w0 M0 W0 M w
 marks:Marked W0 a.defers w
def ZCT (w0:World) (n:Nat) (M0:Mem) (W0:World) (Q:AQ) (x:Exit) (a':Act) (w':World):Prop :=
 ∃ M' e' st',At w0 n M0 W0 e' st' a' w' M'∧Q x e' st'
def awp (P:Program) (w0:World) (n:Nat) (M0:Mem) (W0:World) (ro:Option Nat) (c:Code) (Q:AQ) (e:Env) (st:St):Prop :=
 ∀ m M a w,At w0 n M0 W0 e st a w M→c.wpIn (FW ro) m P (ZCT w0 n M0 W0 Q) a w
def ZtL (K:Env→St→Prop) (Q:AQ):AQ
 | .normal,e,st=>K e st
 | x,e,st=>Q x e st
def Zpn (id:Nat) (Q:AQ):AQ
 | .exit i,e,st=>if i=id then Q .normal e st else Q (.exit i) e st
 | x,e,st=>Q x e st
section
variable {P:Program} {w0:World} {n:Nat} {M0:Mem} {W0:World} {ro:Option Nat} {Q:AQ} {e:Env} {st:St}
theorem ZxZ {c:Code} {Q':AQ} (h:awp P w0 n M0 W0 ro c Q e st) (hq:∀ x e s,Q x e s→Q' x e s):awp P w0 n M0 W0 ro c Q' e st :=
 fun m M a w hr=>wpIn_mono (h m M a w hr) fun _ _ _ ⟨M',e',s',h1,h3⟩=>⟨M',e',s',h1,hq _ _ _ h3⟩
theorem At.sub {M:Mem} {a:Act} {w:World} {e':Env} (h:At w0 n M0 W0 e st a w M) (hs:ZBf e' e):At w0 n M0 W0 e' st a w M:=⟨h.rel.sub hs,h.ext,h.marks⟩
theorem Marked.later {M M':Mem} {ds:List Deferred} {w w':World} (h:Marked W0 ds w) (hx:Ext w0 M w M' w') (hl:RelSt w0 M st w):Marked W0 ds w':=by
 obtain ⟨Ds,h1,h2,h3⟩:=h
 refine ⟨Ds,h1,h2,fun D hD=>⟨(h3 D hD).1,hx.objs D _ (h3 D hD).2 rfl fun k hk e=>?_⟩⟩
 have a:k<st.loops.length:=by rw [←hl.loop.NL];exact hk
 obtain ⟨_,r,hr,_⟩:=hl.loop.record k _ (List.getElem?_eq_getElem a)
 rw [e,(h3 D hD).2] at hr
 cases hr
theorem ZcR {c:Code} (e':Env) (h:awp P w0 n M0 W0 ro c Q e' st) (hs:ZBf e' e):awp P w0 n M0 W0 ro c Q e st:=fun m M a w hr=>h m M a w (hr.sub hs)
theorem Zaf (c:Nat) (L:List Nat) {id:Nat} {l:List Oper} (h:evK P w0 n false l (fun e' st'=>Q .normal (Zdg L e') st') c l e st):awp P w0 n M0 W0 ro (.region id l.toArray false) Q e st:=by
 intro m M a w hr
 refine wpIn_region_lit (Zm5 ro m false l _ _ c l e st a w M hr.rel h fun e' st' a' w' M' k1 k2 k3 k4=>⟨M',_,_,⟨k2.sub (ZaW L _),hr.ext.trans k3,?_⟩,k1⟩)
 rw [k4]
 exact hr.marks.later k3 hr.rel.st
theorem Za4 (h:Q .normal e st):awp P w0 n M0 W0 ro .skip Q e st:=fun _ M _ _ hr=>wpIn_skip ⟨M,e,st,hr,h⟩
theorem Ziw {id:Nat} (h:Q (.exit id) e st):awp P w0 n M0 W0 ro (.exit id) Q e st:=fun _ M _ _ hr=>wpIn_exit ⟨M,e,st,hr,h⟩
theorem ZaO (h:Q .ret e st):awp P w0 n M0 W0 ro .ret Q e st:=fun _ M _ _ hr=>wpIn_ret ⟨M,e,st,hr,h⟩
theorem Zaa {x y:Code} (h:∀ K:Env→St→Prop,(∀ e s,awp P w0 n M0 W0 ro y Q e s→K e s)→awp P w0 n M0 W0 ro x (ZtL K Q) e st):awp P w0 n M0 W0 ro (.seq x y) Q e st:=by
 intro m M a w hr
 refine wpIn_seq (wpIn_mono (h (awp P w0 n M0 W0 ro y Q) (fun _ _ h=>h) m M a w hr) ?_)
 rintro ex a' w' ⟨M',e',s',h1,h3⟩
 cases ex with
 | normal=>exact h3 m M' a' w' h1
 | _=>exact ⟨M',e',s',h1,h3⟩
theorem Zak {x y:Code} (I:Env→St→Prop) (hx:∀ K:Env→St→Prop,(∀ e s,I e s→K e s)→awp P w0 n M0 W0 ro x (ZtL K Q) e st) (hy:∀ e s,I e s→awp P w0 n M0 W0 ro y Q e s):awp P w0 n M0 W0 ro (.seq x y) Q e st :=
 Zaa fun K hK=>ZxZ (hx I fun _ _ h=>h) fun ex e s h=>by
  cases ex with
  | normal=>exact hK e s (hy e s h)
  | _=>exact h
theorem Zad {id:Nat} {c:Code} (h:awp P w0 n M0 W0 ro c (Zpn id Q) e st):awp P w0 n M0 W0 ro (.block id c) Q e st:=by
 intro m M a w hr
 refine wpIn_block (wpIn_mono (h m M a w hr) ?_)
 rintro ex a' w' ⟨M',e',s',h1,h3⟩
 cases ex with
 | exit i =>
  simp only [Zpn] at h3
  simp only [Exit.inBlock]
  split at h3<;>rename_i hc
  ·
   rw [if_pos hc];exact ⟨M',e',s',h1,h3⟩
  ·
   rw [if_neg hc];exact ⟨M',e',s',h1,h3⟩
 | _=>exact ⟨M',e',s',h1,h3⟩
theorem ZaQ {c:Operand} {x y:Code} (b:Bool) (hc:ZaT e true c) (hb:Zav e c = .val (.bool b)) (ht:b=true→awp P w0 n M0 W0 ro x Q e st) (hf:b=false→awp P w0 n M0 W0 ro y Q e st):awp P w0 n M0 W0 ro (.cond c x y) Q e st:=by
 intro m M a w hr
 have hv:=Zbv hr.rel hc
 rw [hb] at hv
 have ev:a.eval c = .bool b:=hv.val_inv.1
 exact wpIn_cond_split ev (fun h=>ht h m M a w hr) (fun h=>hf h m M a w hr)
theorem ZiZ (p:Nat→Prop) (h:∃ k,p k):∃ k,p k∧∀ m,p m→k≤m:=by
 obtain ⟨k,hk⟩:=h
 induction k using Nat.strongRecOn with
 | _ k ih =>
  by_cases c:∃ m,m<k∧p m
  ·
   obtain ⟨m,h1,h2⟩:=c
   exact ih m h1 h2
  ·
   exact ⟨k,hk,fun m hm=>by
    by_cases c':m<k
    ·
     exact absurd ⟨m,c',hm⟩ c
    ·
     omega⟩
theorem Zao {c:Code} (I:Nat→Env→St→Prop) (k0:Nat) (h0:I k0 e st) (round:∀ k e s,I k e s→∀ K:Env→St→Prop,(∀ k' e' s',k'<k→I k' e' s'→K e' s')→awp P w0 n M0 W0 ro c (ZtL K Q) e s):awp P w0 n M0 W0 ro (.loop c) Q e st:=by
 intro m M a w hr
 let J:Nat→Act→World→Prop:=fun k a' w'=>∃ M' e' s',At w0 n M0 W0 e' s' a' w' M'∧I k e' s'
 let μ:Act→World→Nat:=fun a' w'=>by
  classical exact if h:∃ k,J k a' w' then Classical.choose (ZiZ (fun k=>J k a' w') h) else 0
 have hμ:∀ a' w' k,J k a' w'→J (μ a' w') a' w'∧μ a' w'≤k:=by
  intro a' w' k hk
  have b:∃ k,J k a' w':=⟨k,hk⟩
  have:=Classical.choose_spec (ZiZ (fun k=>J k a' w') b)
  have e:μ a' w'=Classical.choose (ZiZ (fun k=>J k a' w') b):=by simp only [μ,dif_pos b]
  rw [e]
  exact ⟨this.1,this.2 k hk⟩
 refine wpIn_loop (fun a' w'=>∃ k,J k a' w') μ ⟨k0,M,e,st,hr,h0⟩ ?_
 rintro a1 w1 ⟨k,hk⟩
 obtain ⟨⟨M1,e1,s1,r1,i1⟩,_⟩:=hμ a1 w1 k hk
 refine wpIn_mono (round _ e1 s1 i1 (fun e' s'=>∃ k',k'<_∧I k' e' s') (fun k' _ _ h1 h2=>⟨k',h1,h2⟩) m M1 a1 w1 r1) ?_
 rintro ex a' w' ⟨M',e',s',h1,h3⟩
 cases ex with
 | normal =>
  obtain ⟨k',d,hI⟩:=h3
  have hJ:J k' a' w':=⟨M',e',s',h1,hI⟩
  exact ⟨⟨k',hJ⟩,Nat.lt_of_le_of_lt (hμ a' w' k' hJ).2 d⟩
 | _=>exact ⟨M',e',s',h1,h3⟩
def Own.under (nr:Nat):Own→Prop
 | .row id=>id<nr
 | _=>True
inductive Under (nb nr nl:Nat):AV→Prop
 | val (v:Value):Under nb nr nl (.val v)
 | list {xs:List AV} {o:Own} (h:∀ x∈xs,Under nb nr nl x) (ho:o.under nr):Under nb nr nl (.list xs o)
 | elem {x:AV} {k:Nat} (h:Under nb nr nl x):Under nb nr nl (.elem x k)
 | box {l k:Nat} (h:l<nb):Under nb nr nl (.box l k)
 | clo {f:FuncId} {xs:List AV} (h:∀ x∈xs,Under nb nr nl x):Under nb nr nl (.clo f xs)
 | agg {xs:List AV} (h:∀ x∈xs,Under nb nr nl x):Under nb nr nl (.agg xs)
 | tup {xs:List AV} (h:∀ x∈xs,Under nb nr nl x):Under nb nr nl (.tup xs)
 | yld {k:Nat} (h:k<nl):Under nb nr nl (.yld k)
 | vec {id ver o n:Nat} (h:id<nr):Under nb nr nl (.vec id ver o n)
 | vel {id ver o:Nat} (h:id<nr):Under nb nr nl (.vel id ver o)
theorem Zva {nb nr nl:Nat} (v:Value):Under nb nr nl (.val v)↔True:=iff_true_intro (.val v)
theorem ZoY {nb nr nl:Nat} {xs:List AV} {o:Own}:Under nb nr nl (.list xs o)↔(∀ x∈xs,Under nb nr nl x)∧o.under nr:=⟨fun h=>by cases h with | list a b=>exact ⟨a,b⟩,fun h => .list h.1 h.2⟩
theorem ZoO {nb nr nl:Nat} {x:AV} {k:Nat}:Under nb nr nl (.elem x k)↔Under nb nr nl x:=⟨fun h=>by cases h;assumption,.elem⟩
theorem Zri {nb nr nl l k:Nat}:Under nb nr nl (.box l k)↔l<nb:=⟨fun h=>by cases h;assumption,.box⟩
theorem ZnM {nb nr nl:Nat} {f:FuncId} {xs:List AV}:Under nb nr nl (.clo f xs)↔∀ x∈xs,Under nb nr nl x:=⟨fun h=>by cases h;assumption,.clo⟩
theorem Zrb {nb nr nl:Nat} {xs:List AV}:Under nb nr nl (.agg xs)↔∀ x∈xs,Under nb nr nl x:=⟨fun h=>by cases h;assumption,.agg⟩
theorem ZrB {nb nr nl:Nat} {xs:List AV}:Under nb nr nl (.tup xs)↔∀ x∈xs,Under nb nr nl x:=⟨fun h=>by cases h;assumption,.tup⟩
theorem Zrg {nb nr nl k:Nat}:Under nb nr nl (.yld k)↔k<nl:=⟨fun h=>by cases h;assumption,.yld⟩
theorem Zqy {nb nr nl id ver o n:Nat}:Under nb nr nl (.vec id ver o n)↔id<nr:=⟨fun h=>by cases h;assumption,.vec⟩
theorem Zrz {nb nr nl id ver o:Nat}:Under nb nr nl (.vel id ver o)↔id<nr:=⟨fun h=>by cases h;assumption,.vel⟩
def Mem.cut (M:Mem) (nb nr nl:Nat):Mem:={ M with N:=nb,NR:=nr,NL:=nl }
theorem R.cut {M:Mem} {w:World} {v:Value} {x:AV} {nb nr nl:Nat} (h:R w0 M w v x) (hu:Under nb nr nl x):R w0 (M.cut nb nr nl) w v x:=by
 induction h with
 | flat h=>exact .flat h
 | agg hl h1 _ ih=>exact .agg hl h1 fun i a b=>ih i a b (Zrb.1 hu _ (List.getElem_mem _))
 | tup hl _ ih=>exact .tup hl fun i a b=>ih i a b (ZrB.1 hu _ (List.getElem_mem _))
 | nil ho=>exact .nil ho
 | emp ho=>exact .emp ho
 | @list b off cap xs o sz us hc hm hcell _ ho ih =>
  obtain ⟨h1,h2⟩:=ZoY.1 hu
  refine .list sz us hc hm hcell (fun i hi=>ih i hi (h1 _ (List.getElem_mem _))) ?_
  cases o with
  | none=>trivial
  | full=>exact ho
  | seed=>exact ho
  | row id=>exact ⟨h2,ho.2⟩
 | elem u k hcell _ ih=>exact .elem u k hcell (ih (ZoO.1 hu))
 | box _=>exact .box (M:=M.cut nb nr nl) (Zri.1 hu)
 | clo hl _ ih=>exact .clo hl fun i a b=>ih i a b (ZnM.1 hu _ (List.getElem_mem _))
 | yld _=>exact .yld (M:=M.cut nb nr nl) (Zrg.1 hu)
 | vec hi hv h=>exact .vec (M:=M.cut nb nr nl) (Zqy.1 hu) hv h
 | vel hi hv h=>exact .vel (M:=M.cut nb nr nl) (Zrz.1 hu) hv h
theorem R.under {M:Mem} {w:World} {v:Value} {x:AV} (h:R w0 M w v x):Under M.N M.NR M.NL x:=by
 have a:∀ {cs:Array Value} {xs:List AV},cs.size=xs.length→(∀ i (_:i<cs.size) (h2:i<xs.length),Under M.N M.NR M.NL xs[i])→∀ x∈xs,Under M.N M.NR M.NL x:=by
  intro cs xs hl h x hx
  obtain ⟨i,hi,rfl⟩:=List.mem_iff_getElem.1 hx
  exact h i (hl▸hi) hi
 induction h with
 | flat h=>exact .val _
 | agg hl h1 _ ih=>exact .agg (a hl ih)
 | tup hl _ ih=>exact .tup (a hl ih)
 | nil ho=>exact .list (fun _ h=>by cases h) (by rename_i o;cases o<;>first | trivial | exact absurd rfl (ho _))
 | emp ho=>exact .list (fun _ h=>by cases h) (by rename_i o;cases o<;>first | trivial | exact absurd rfl (ho _))
 | @list b off cap xs o sz us hc hm hcell _ ho ih =>
  refine .list (fun x hx=>?_) ?_
  ·
   obtain ⟨i,hi,rfl⟩:=List.mem_iff_getElem.1 hx
   exact ih i hi
  ·
   cases o with
   | row id=>exact ho.1
   | _=>trivial
 | elem u k hcell _ ih=>exact .elem ih
 | box h=>exact .box h
 | clo hl _ ih=>exact .clo (a hl ih)
 | yld h=>exact .yld h
 | vec hi _ _=>exact .vec hi
 | vel hi _ _=>exact .vel hi
def Zlc (nb nr nl:Nat):Env→Prop
 | []=>True
 | (_,c,v)::e=>(c=true→Under nb nr nl v)∧Zlc nb nr nl e
theorem Zoz {nb nr nl:Nat}:∀ {e:Env} {s:Nat} {x:Bool × AV},Zlc nb nr nl e→ZfS e s=some x→x.1=true→Under nb nr nl x.2
 | (k,c,v)::e,s,x,h,hl,ht=>by
  simp only [ZfS] at hl
  by_cases q:k=s
  ·
   rw [if_pos q] at hl;cases hl;exact h.1 ht
  ·
   rw [if_neg q] at hl;exact Zoz h.2 hl ht
def St.cut (s:St) (nb nr nl:Nat):St:=⟨s.boxes.take nb,s.rows.take nr,s.loops.take nl⟩
def RowA.cells:RowA→List AV
 | .vec _ _ cs=>cs
 | _=>[]
structure Calm (nb nr nl:Nat) (s:St):Prop where
 rows:∀ r∈s.rows,∀ x∈r.cells,Under nb nr nl x
 boxes:∀ cs∈s.boxes,∀ x∈cs,Under nb nr nl x
 loops:∀ la∈s.loops,∀ k x,ZfS la.e k=some x→x.1=true→Under nb nr nl x.2
theorem RelSt.calm {M:Mem} {w:World} (h:RelSt w0 M st w):Calm st.boxes.length st.rows.length st.loops.length st where
 rows:=by
  intro r hr x hx
  obtain ⟨l,hl,rfl⟩:=List.mem_iff_getElem.1 hr
  have hk:=h.row l _ (List.getElem?_eq_getElem hl)
  cases hrow:st.rows[l] with
  | vec ver sz cs =>
   rw [hrow] at hk hx
   obtain ⟨_,_,_,_,_,_,_,c,_,_,_,a,_,hR⟩:=hk
   obtain ⟨i,hi,rfl⟩:=List.mem_iff_getElem.1 hx
   have b:i<cs.length:=hi
   have:=(hR i (by omega) b).under
   rwa [h.N,h.NR,h.loop.NL] at this
  | _=>rw [hrow] at hx;cases hx
 boxes:=by
  intro cs e x hx
  obtain ⟨l,hl,rfl⟩:=List.mem_iff_getElem.1 e
  obtain ⟨_,_,c,_,_,a,_,hR⟩:=h.box l _ (List.getElem?_eq_getElem hl)
  obtain ⟨i,hi,rfl⟩:=List.mem_iff_getElem.1 hx
  have:=(hR i (a▸hi) hi).under
  rwa [h.N,h.NR,h.loop.NL] at this
 loops:=by
  intro la d k x hx ht
  obtain ⟨l,hl,rfl⟩:=List.mem_iff_getElem.1 d
  obtain ⟨_,r,_,_,_,_,_,_,_,he⟩:=h.loop.record l _ (List.getElem?_eq_getElem hl)
  have:=he k x hx
  unfold entryOk at this
  rw [if_pos ht] at this
  have:=this.under
  rwa [h.N,h.NR,h.loop.NL] at this
theorem entryOk.cut {M:Mem} {w:World} {nb nr nl:Nat} {v:Value} {x:Bool × AV} (h:entryOk w0 M w v x) (hu:x.1=true→Under nb nr nl x.2):entryOk w0 (M.cut nb nr nl) w v x:=by
 unfold entryOk at *
 split
 ·
  rename_i c;rw [if_pos c] at h;exact h.cut (hu c)
 ·
  rename_i c;rw [if_neg c] at h;exact h
theorem RelSt.cut {M:Mem} {w:World} (h:RelSt w0 M st w) {nb nr nl:Nat} (h1:nb≤st.boxes.length) (h2:nr≤st.rows.length) (h3:nl≤st.loops.length) (hc:Calm nb nr nl (st.cut nb nr nl)) :
  RelSt w0 (M.cut nb nr nl) (st.cut nb nr nl) w where
 below:=h.below
 N:=by simp [Mem.cut,St.cut];omega
 NR:=by simp [Mem.cut,St.cut];omega
 top:=h.top
 inj:=fun l l' k k' e=>h.inj l l' (by have:=h.N;simp only [Mem.cut] at k;omega) (by have:=h.N;simp only [Mem.cut] at k';omega) e
 box:=fun l cs hl=>by
  simp only [St.cut] at hl
  have f:l<nb:=by
   have:=(List.getElem?_eq_some_iff.1 hl).1
   simp at this;omega
  have a:cs∈st.boxes.take nb:=List.mem_of_getElem? hl
  rw [List.getElem?_take_of_lt f] at hl
  obtain ⟨a1,a2,c,ty,a3,a4,a5,a6⟩:=h.box l cs hl
  exact ⟨a1,a2,c,ty,a3,a4,a5,fun i b1 b2=>(a6 i b1 b2).cut (hc.boxes cs a _ (List.getElem_mem _))⟩
 row:=fun id x hk=>by
  simp only [St.cut] at hk
  have g:id<nr:=by
   have:=(List.getElem?_eq_some_iff.1 hk).1
   simp at this;omega
  have a:x∈st.rows.take nr:=List.mem_of_getElem? hk
  rw [List.getElem?_take_of_lt g] at hk
  have d:=h.row id x hk
  have b:nb≤M.N:=by have:=h.N;omega
  cases x with
  | grow n sz =>
   obtain ⟨a1,a2,a3,a4,a5,a6,a7,a8⟩:=d
   exact ⟨a1,a2,a3,a4,fun l hl=>a5 l (Nat.lt_of_lt_of_le hl b),a6,a7,a8⟩
  | vec v sz cs =>
   obtain ⟨a1,a2,a3,a4,a5,a6,a7,c,ty,a8,a9,b1,b2,b3⟩:=d
   exact ⟨a1,a2,a3,a4,fun l hl=>a5 l (Nat.lt_of_lt_of_le hl b),a6,a7,c,ty,a8,a9,b1,b2,fun i h1 h2=>(b3 i h1 h2).cut (hc.rows _ a _ (List.getElem_mem _))⟩
  | dead v =>
   obtain ⟨a1,a2,a3,a4⟩:=d
   exact ⟨a1,a2,fun l hl=>a3 l (Nat.lt_of_lt_of_le hl b),a4⟩
 rowinj:=fun i j hi hj e=>h.rowinj i j (by have:=h.NR;simp only [Mem.cut] at hi;omega) (by have:=h.NR;simp only [Mem.cut] at hj;omega) e
 loop:={
  NL:=by simp [Mem.cut,St.cut];omega
  inj:=fun i j hi hj e=>h.loop.inj i j (by have:=h.loop.NL;simp only [Mem.cut] at hi;omega) (by have:=h.loop.NL;simp only [Mem.cut] at hj;omega) e
  record:=fun k la hk=>by
   simp only [St.cut] at hk
   have m:k<nl:=by
    have:=(List.getElem?_eq_some_iff.1 hk).1
    simp at this;omega
   have a:la∈st.loops.take nl:=List.mem_of_getElem? hk
   rw [List.getElem?_take_of_lt m] at hk
   obtain ⟨a1,r,a2,a3,a4,a5,a6,a7,a8,a9⟩:=h.loop.record k la hk
   exact ⟨a1,r,a2,a3,a4,a5,a6,a7,a8,fun s x hs=>(a9 s x hs).cut (hc.loops la a s x hs)⟩ }
theorem Ext.cut {M1:Mem} {w1 w2:World} {M2:Mem} (h:Ext w0 M1 w1 M2 w2) {nb nr nl:Nat} (h1:M1.N≤nb) (h2:M1.NR≤nr) (h3:M1.NL≤nl) (h4:nl≤M2.NL):Ext w0 M1 w1 (M2.cut nb nr nl) w2 :=
 ⟨h1,h.bx,h2,h.rows,h.cell,h.size,h3,h.lb,fun k a b=>h.lnew k a (Nat.lt_of_lt_of_le b h4),h.objs⟩
theorem Rel.cut {M:Mem} {a:Act} {w:World} (h:Rel w0 n M e st a w) {nb nr nl:Nat} (h1:nb≤st.boxes.length) (h2:nr≤st.rows.length) (h3:nl≤st.loops.length) (hc:Calm nb nr nl (st.cut nb nr nl)) (he:Zlc nb nr nl e) :
  Rel w0 n (M.cut nb nr nl) e (st.cut nb nr nl) a w :=
 ⟨h.st.cut h1 h2 h3 hc,h.size,fun s x hs=>(h.env s x hs).cut (Zoz he hs)⟩
theorem Zpr {c:Code} (nb nr nl:Nat) (h1:nb≤st.boxes.length) (h2:nr≤st.rows.length) (h3:nl≤st.loops.length) (k1:M0.N≤nb) (k2:M0.NR≤nr) (k3:M0.NL≤nl) (hc:Calm nb nr nl (st.cut nb nr nl)) (he:Zlc nb nr nl e)
  (h:awp P w0 n M0 W0 ro c Q e (st.cut nb nr nl)):awp P w0 n M0 W0 ro c Q e st :=
 fun m M a w hr=>h m _ a w ⟨hr.rel.cut h1 h2 h3 hc he,hr.ext.cut k1 k2 k3 (by rw [hr.rel.st.loop.NL];exact h3),hr.marks⟩
end
section
variable {P:Program} {w0:World} {n:Nat} {M:Mem} {e:Env} {st:St} {a:Act} {w:World}
def ZrW (P:Program) (e:Env) (st:St):ResultVar→Prop
 | .tmp t=>ZaT e true (.tmp t)
 | .cell t ty=>(Zcl P e true st (.load ty (.tmp t))).1
def ZAE (P:Program) (e:Env) (st:St):ResultVar→AV
 | .tmp t=>(Zav e (.tmp t)).pub
 | .cell t ty=>(Zcl P e true st (.load ty (.tmp t))).2.1.pub
def Zy2:List AV→AV
 | [x]=>x
 | l => .tup l
def ZzT (P:Program) (rs:List ResultVar) (Post:AV→St→Prop):AQ:=fun x e st =>
 match x with
 | .normal | .ret=>(∀ r∈rs,ZrW P e st r)∧Post (Zy2 (rs.map (ZAE P e st))) st
 | _=>False
theorem ZoN (h:Rel w0 n M e st a w) (t:TypeId) (x:Operand) (hob:(Zcl P e true st (.load t x)).1) :
  ∃ v,(do loadVar t (← asAddr (a.eval x)):Sem Value).run P w = .ok v w∧R w0 M w v (Zcl P e true st (.load t x)).2.1:=by
 unfold Zcl at hob ⊢
 cases ht:tyT P t with
 | none=>simp [ht] at hob
 | some p =>
  obtain ⟨sz,ag⟩:=p
  simp only [ht] at hob ⊢
  obtain ⟨hx,hr,g,h1⟩:=hob
  obtain ⟨b,o,ev,c,hc⟩:=ZsU h.st (Zbv h hx) hr
  rw [ev]
  have d:∀ j,j<sz→∃ u,w.cell? ⟨b,o+Zfb (Zav e x)+j,none⟩=some u∧∀ hj,R w0 M w u ((Za7 st (Zav e x))[Zfb (Zav e x)+j]'hj):=by
   intro j hj
   obtain ⟨u,h2,h3⟩:=hc (Zfb (Zav e x)+j) (by omega)
   exact ⟨u,by rw [←h2,Nat.add_assoc],fun _=>h3⟩
  let f:Nat→Value:=fun j=>((w.cell? ⟨b,o+Zfb (Zav e x)+j,none⟩).getD undef)
  have hf:∀ j,j<sz→w.cell? ⟨b,o+Zfb (Zav e x)+j,none⟩=some (f j):=fun j hj=>by
   obtain ⟨u,hu,_⟩:=d j hj
   simp [f,hu]
  refine ⟨if ag then .agg ((List.range sz).map f).toArray else f 0,?_,(Zna c g h1 (fun j hj=>?_))⟩
  ·
   simp only [asAddr,Sem.run_bind,Sem.run_pure,Result.andThen_ok]
   exact Zmb ht hf h1
  ·
   by_cases hjs:j<sz
   ·
    obtain ⟨u,hu,hR⟩:=d j hjs
    have:f j=u:=by simp [f,hu]
    rw [this]
    exact hR hj
   ·
    obtain ⟨u,hu,hR⟩:=hc (Zfb (Zav e x)+j) hj
    have:f j=u:=by simp [f,Nat.add_assoc,hu]
    rw [this]
    exact hR
theorem Zkq {α:Type} (f:α→Sem Value) (g:α→Value):∀ (l:List α),(∀ x∈l,(f x).run P w = .ok (g x) w)→(l.mapM f).run P w = .ok (l.map g) w
 | [],_=>by simp
 | x::l,h=>by simp [h x (by simp),Zkq f g l (fun y hy=>h y (by simp [hy]))]
theorem Zo2 {V:ResultVar→AV} (rs:List ResultVar) (g:ResultVar→Value) (hg:∀ r∈rs,R w0 M w (g r) (V r)) :
  R w0 M w (if h:(rs.map g).toArray.size=1 then (rs.map g).toArray[0] else .tuple (rs.map g).toArray) (Zy2 (rs.map V)):=by
 match rs,hg with
 | [],_=>exact .tup rfl (fun i h1 _=>absurd h1 (by simp))
 | [r],hg=>exact (hg r (by simp))
 | r::r'::l,hg =>
  have:¬ ((List.map g (r::r'::l)).toArray.size=1):=by simp
  rw [dif_neg this]
  refine .tup (by simp) (fun i h1 h2=>?_)
  have hi:i<(r::r'::l).length:=by simpa using h2
  have e1:(List.map g (r::r'::l)).toArray[i]=g (r::r'::l)[i]:=by rw [List.getElem_toArray,List.getElem_map]
  have e2:(List.map V (r::r'::l))[i]'h2=V (r::r'::l)[i]:=by rw [List.getElem_map]
  have:=(hg (r::r'::l)[i] (List.getElem_mem _))
  rw [←e1,←e2] at this
  exact this
theorem ZuI (h:Rel w0 n M e st a w) {fn:Func} {rs:List ResultVar} (hfn:fn.results=rs.toArray) (hrs:∀ r∈rs,ZrW P e st r) :
  ∃ v,(results fn a.tmps).run P w = .ok v w∧R w0 M w v (Zy2 (rs.map (ZAE P e st))):=by
 let f:ResultVar→Sem Value:=fun
  | .tmp t=>pure (a.tmps.getD t undef)
  | .cell b t=>do loadVar t (← asAddr (a.tmps.getD b undef))
 have c:∀ r∈rs,∃ v,(f r).run P w = .ok v w∧R w0 M w v (ZAE P e st r):=by
  intro r hr
  have:=hrs r hr
  cases r with
  | tmp t=>exact ⟨_,rfl,(Zbv h (x := .tmp t) this).pub⟩
  | cell b t =>
   obtain ⟨v,h1,h2⟩:=ZoN h t (.tmp b) this
   exact ⟨v,h1,h2.pub⟩
 classical
 let g:ResultVar→Value:=fun r=>if hr:r∈rs then Classical.choose (c r hr) else undef
 have hg:∀ r∈rs,(f r).run P w = .ok (g r) w∧R w0 M w (g r) (ZAE P e st r):=by
  intro r hr
  have:=Classical.choose_spec (c r hr)
  have e:g r=Classical.choose (c r hr):=by simp only [g,dif_pos hr]
  rw [e];exact this
 have hm:(fn.results.mapM f).run P w = .ok ((rs.map g).toArray) w:=by
  rw [hfn,Array.mapM_eq_mapM_toList]
  simp only [Sem.run_map,Zkq f g rs (fun r hr=>(hg r hr).1),Result.andThen_ok]
 have d:(results fn a.tmps).run P w = .ok (if h:(rs.map g).toArray.size=1 then (rs.map g).toArray[0] else .tuple (rs.map g).toArray) w:=by
  unfold results
  simp only [Sem.run_bind]
  refine Eq.trans (congrArg (fun x=>Result.andThen x _) hm) ?_
  simp only [Result.andThen_ok,Sem.run_pure]
 refine ⟨_,d,?_⟩
 exact Zo2 rs g fun r hr=>(hg r hr).2
def Zaq:Nat→List AV→Env
 | _,[]=>[]
 | k,x::l=>(k,true,x)::Zaq (k+1) l
theorem Zll:∀ (l:List AV) (k s:Nat) (x:Bool × AV),ZfS (Zaq k l) s=some x→∃ i,s=k+i∧∃ y,l[i]? = some y∧x=(true,y)
 | [],_,_,_,h=>by cases h
 | y::l,k,s,x,h=>by
  simp only [Zaq,ZfS] at h
  by_cases c:k=s
  ·
   rw [if_pos c] at h;cases h;exact ⟨0,c.symm,y,rfl,rfl⟩
  ·
   rw [if_neg c] at h
   obtain ⟨i,h1,z,h2,h3⟩:=Zll l (k+1) s x h
   exact ⟨i+1,by omega,z,h2,h3⟩
theorem R.same {M:Mem} {w w':World} (hs:∀ (b off:Nat) (v:Value),w.cell? ⟨b,off,none⟩=some v→w'.cell? ⟨b,off,none⟩=some v) {v:Value} {x:AV} (h:R w0 M w v x):R w0 M w' v x:=by
 induction h with
 | flat h=>exact .flat h
 | agg hl h1 _ ih=>exact .agg hl h1 ih
 | tup hl _ ih=>exact .tup hl ih
 | nil ho=>exact .nil ho
 | emp ho=>exact .emp ho
 | @list b off cap xs o sz us hc hm hcell _ ho ih =>
  refine .list sz us hc hm (fun i hi=>⟨(hcell i hi).1,fun j hj=>⟨((hcell i hi).2 j hj).1,?_⟩⟩) ih ho
  obtain ⟨v,hv⟩:=Zk0 (u:=us i) (j:=j) (by rw [(hcell i hi).1];exact hj)
  exact (hs _ _ _ ((((hcell i hi).2 j hj).2).trans hv)).trans hv.symm
 | @elem b off x u k hcell _ ih =>
  refine .elem u k (fun j hj=>⟨(hcell j hj).1,?_⟩) ih
  obtain ⟨v,hv⟩:=Zk0 (u:=u) (j:=j) hj
  exact (hs _ _ _ ((hcell j hj).2.trans hv)).trans hv.symm
 | box hl=>exact .box hl
 | clo hl _ ih=>exact .clo hl ih
 | yld hk=>exact .yld hk
 | vec hi hv h=>exact .vec hi hv h
 | vel hi hv h=>exact .vel hi hv h
theorem Zkm {w:World} {D:Nat} {o o':Obj} (hD:w.heap[D]? = some o) (ho:o.isCells=false) {b off:Nat} {v:Value} (h:w.cell? ⟨b,off,none⟩=some v):(w.putObj D o').cell? ⟨b,off,none⟩=some v:=by
 by_cases c:b=D
 ·
  subst c
  unfold World.cell? at h
  simp only [hD] at h
  cases o with
  | cells c ty fz=>simp [Obj.isCells] at ho
  | _=>simp at h
 ·
  unfold World.cell? at h ⊢
  simp only [World.putObj_heap_other c] at h ⊢
  exact h
theorem entryOk.same {M:Mem} {w w':World} (hs:∀ (b off:Nat) (v:Value),w.cell? ⟨b,off,none⟩=some v→w'.cell? ⟨b,off,none⟩=some v) {v:Value} {x:Bool × AV} (h:entryOk w0 M w v x):entryOk w0 M w' v x:=by
 unfold entryOk at *
 split
 ·
  rename_i c;rw [if_pos c] at h;exact h.same hs
 ·
  rename_i c;rw [if_neg c] at h;exact h
theorem RowOk.same {M:Mem} {w w':World} {id:Nat} {x:RowA} (h:RowOk w0 M w id x) (hs:∀ (b off:Nat) (v:Value),w.cell? ⟨b,off,none⟩=some v→w'.cell? ⟨b,off,none⟩=some v)
  (hc:∀ {b:Nat} {c:Array Value} {ty:TypeId},w.heap[b]? = some (.cells c ty (0,0))→w'.heap[b]? = some (.cells c ty (0,0))) (hz:w.heap.size≤w'.heap.size):RowOk w0 M w' id x:=by
 cases x with
 | grow n sz =>
  obtain ⟨a1,a2,a3,a4,a5,a6,a7,c,ty,a8,a9⟩:=h
  exact ⟨a1,a2,a3,a4,a5,a6,a7,c,ty,hc a8,a9⟩
 | vec v sz cs =>
  obtain ⟨a1,a2,a3,a4,a5,a6,a7,c,ty,a8,a9,b1,b2,b3⟩:=h
  exact ⟨a1,a2,a3,a4,a5,a6,a7,c,ty,hc a8,a9,b1,b2,fun i h1 h2=>(b3 i h1 h2).same hs⟩
 | dead v =>
  obtain ⟨a1,a2,a3,a4⟩:=h
  exact ⟨a1,a2,a3,Nat.lt_of_lt_of_le a4 hz⟩
theorem Below.putObj {B D:Nat} {x y:World} (h:Below B x y) (hD:B≤D) (o:Obj):Below B x (y.putObj D o) :=
 h.trans ⟨rfl,rfl,rfl,by simp,fun k hk=>World.putObj_heap_other (by omega)⟩
theorem RelSt.putObj {M:Mem} {w:World} (h:RelSt w0 M st w) {D:Nat} {o:Obj} (o':Obj) (hD:w.heap[D]? = some o) (ho:o.isCells=false) (h0:w0.heap.size≤D) (hl:∀ k,k<M.NL→M.lb k≠D):RelSt w0 M st (w.putObj D o'):=by
 have hs:∀ (b a:Nat) (v:Value),w.cell? ⟨b,a,none⟩=some v→(w.putObj D o').cell? ⟨b,a,none⟩=some v:=fun b a v=>Zkm hD ho
 have hc:∀ {b:Nat} {c:Array Value} {ty:TypeId},w.heap[b]? = some (.cells c ty (0,0))→(w.putObj D o').heap[b]? = some (.cells c ty (0,0)):=by
  intro b c ty hb
  rw [World.putObj_heap_other (fun e=>by subst e;rw [hD] at hb;cases hb;cases ho)]
  exact hb
 refine ⟨Below.putObj h.below h0 _,h.N,h.NR,fun b hb=>h.top b (by simpa using hb),h.inj,fun l cs d=>?_,fun id x hk=>(h.row id x hk).same hs hc (by simp),h.rowinj,⟨h.loop.NL,h.loop.inj,fun k la hk=>?_⟩⟩
 ·
  obtain ⟨a1,a2,c,ty,a3,a4,a5,a6⟩:=h.box l cs d
  exact ⟨a1,a2,c,ty,hc a3,a4,a5,fun i b1 b2=>(a6 i b1 b2).same hs⟩
 ·
  have g:k<M.NL:=by rw [h.loop.NL];exact (List.getElem?_eq_some_iff.1 hk).1
  obtain ⟨a1,r,a2,a3,a4,a5,a6,a7,a8,a9⟩:=h.loop.record k la hk
  exact ⟨a1,r,by rw [World.putObj_heap_other (hl k g)];exact a2,a3,a4,a5,a6,a7,a8,fun s x f=>(a9 s x f).same hs⟩
theorem Zjq {M0:Mem} {W0:World} {fn:Func} {RR:Ending→World→Prop} {m:Nat} {tmps:Array Value}:∀ (Ds:List Nat) (M:Mem) (w:World),Ds.Nodup→(∀ D∈Ds,W0.heap.size≤D∧w.heap[D]? = some (.deferred (some []))) →
  W0.heap.size≥w0.heap.size→RelSt w0 M st w→Ext w0 M0 W0 M w →
  (∀ w',RelSt w0 M st w'→Ext w0 M0 W0 M w'→(∀ v x,R w0 M w v x→R w0 M w' v x)→∃ v,(results fn tmps).run P w' = .ok v w'∧RR (.returned v) w') →
  LeavesInM (FW none) m P fn tmps RR (Ds.map fun D=>{ target := .collected D,args := #[] }) .returning w
 | [],M,w,_,_,_,hr,hx,hk=>hk w hr hx fun _ _ h=>h
 | D::Ds,M,w,hn,hD,hw,hr,hx,hk=>by
  obtain ⟨d1,d2⟩:=hD D (by simp)
  have l:∀ k,k<M.NL→M.lb k≠D:=by
   intro k j e
   have d:k<st.loops.length:=by rw [←hr.loop.NL];exact j
   obtain ⟨_,r,hr',_⟩:=hr.loop.record k _ (List.getElem?_eq_getElem d)
   rw [e,d2] at hr'
   cases hr'
  have hs:∀ (b c:Nat) (v:Value),w.cell? ⟨b,c,none⟩=some v→(w.putObj D (.deferred none)).cell? ⟨b,c,none⟩=some v:=fun b c v=>Zkm d2 rfl
  have i:Ext w0 M0 W0 M (w.putObj D (.deferred none)) :=
   ⟨hx.N,hx.bx,hx.NR,hx.rows,fun b c v h1 h2=>let ⟨a,b'⟩:=hx.cell b c v h1 h2;⟨hs _ _ _ a,b'⟩,by have:=hx.size;simpa using this,hx.NL,hx.lb,hx.lnew,fun b o h1 h2 h3=>by
    have hb:b<W0.heap.size:=(Array.getElem?_eq_some_iff.1 h1).1
    rw [World.putObj_heap_other (by omega)]
    exact hx.objs b o h1 h2 h3⟩
  refine ⟨by simp,.inl ⟨D,_,rfl,run_takeDeferred d2,?_⟩⟩
  have f:=List.nodup_cons.1 hn
  refine Zjq Ds M _ f.2 (fun E hE=>?_) hw (hr.putObj _ d2 rfl (by omega) l) i (fun w' k1 k2 k3=>hk w' k1 k2 fun v x h=>k3 v x (h.same hs))
  obtain ⟨e1,e2⟩:=hD E (List.mem_cons_of_mem _ hE)
  have g:E≠D:=fun e=>f.1 (by rw [←e];exact hE)
  exact ⟨e1,by rw [World.putObj_heap_other g];exact e2⟩
theorem ZcZ {f:FuncId} {fn:Func} {c:Code} {args:List AV} {rs:List ResultVar} {Post:AV→St→Prop} (hf:P.funcs[f]? = some fn) (hb:fn.body=some c) (hrs:fn.results=rs.toArray) (hn:fn.ntmps=n)
  (hen:ZiW P f) (ha:args.length≤n)
  (h:∀ (M0:Mem) (W0:World),M0.N=st.boxes.length→M0.NR=st.rows.length→M0.NL=st.loops.length→Calm st.boxes.length st.rows.length st.loops.length st→(∀ x∈args,Under st.boxes.length st.rows.length st.loops.length x) →
   awp P w0 n M0 W0 none c (ZzT P rs Post) (Zaq 0 args) st):ACalls P w0 f args st Post:=by
 refine ⟨hen,fun M w a b d=>?_⟩
 have k:a.size=args.length:=d.1
 have hu:∀ x∈args,Under st.boxes.length st.rows.length st.loops.length x:=by
  intro x hx
  obtain ⟨i,hi,rfl⟩:=List.mem_iff_getElem.1 hx
  have:=(d.get (i:=i) (Array.getElem?_eq_getElem (by omega)) (List.getElem?_eq_getElem hi)).under
  rwa [b.N,b.NR,b.loop.NL] at this
 have j:Rel w0 n M (Zaq 0 args) st { tmps:=a++Array.replicate (fn.ntmps-a.size) undef,defers:=[] } w:=by
  refine ⟨b,by simp;omega,fun s x hs=>?_⟩
  obtain ⟨i,h1,y,h2,rfl⟩:=Zll _ _ _ _ hs
  have hi:i<args.length:=(List.getElem?_eq_some_iff.1 h2).1
  have hs':s=i:=by omega
  subst hs'
  simp only [entryOk,if_true]
  have e1:(a++Array.replicate (fn.ntmps-a.size) undef).getD s undef=a[s]'(by omega):=by
   simp [Array.getD_eq_getD_getElem?,Array.getElem?_append_left (show s<a.size by omega),Array.getElem?_eq_getElem (show s<a.size by omega)]
  rw [e1]
  exact d.get (Array.getElem?_eq_getElem (by omega)) h2
 refine ZmI (n:=0) (callsIn_of_wp_marks hf hb trivial (wpIn_mono (h M w b.N b.NR b.loop.NL b.calm hu 0 M _ w ⟨j,.refl _ _ _,[],by simp⟩) ?_))
 rintro ex a' w' ⟨M',e',s',h1,h3⟩
 have e:∀ (hr:∀ r∈rs,ZrW P e' s' r) (hp:Post (Zy2 (rs.map (ZAE P e' s'))) s'),
   LeavesInM (FW none) 0 P fn a'.tmps (Comes' w0 M w Post) a'.defers .returning w':=by
  intro hr hp
  obtain ⟨Ds,m1,m2,m3⟩:=h1.marks
  rw [m2]
  refine Zjq Ds M' w' m1 m3 b.base_le h1.rel.st h1.ext fun w2 k1 k2 k3=>?_
  have g:Rel w0 n M' e' s' a' w2:=⟨k1,h1.rel.size,fun s x hs=>by
   have:=h1.rel.env s x hs
   unfold entryOk at *
   split
   ·
    rename_i c;rw [if_pos c] at this;exact k3 _ _ this
   ·
    rename_i c;rw [if_neg c] at this;exact this⟩
  obtain ⟨v,q1,q2⟩:=ZuI g hrs hr
  exact ⟨v,q1,v,M',_,s',rfl,hp,k2,k1,q2⟩
 cases ex with
 | normal=>exact e h3.1 h3.2
 | ret=>exact e h3.1 h3.2
 | _=>exact h3.elim
def finA (st:St) (Post:AV→St→Prop) (r:AV) (s:St):Prop :=
 st.boxes.length≤s.boxes.length∧st.rows.length≤s.rows.length∧st.loops.length≤s.loops.length∧Calm st.boxes.length st.rows.length st.loops.length (s.cut st.boxes.length st.rows.length st.loops.length) ∧
  Under st.boxes.length st.rows.length st.loops.length r∧Post r (s.cut st.boxes.length st.rows.length st.loops.length)
theorem ACalls.fin {f:FuncId} {args:List AV} {Post:AV→St→Prop} (h:ACalls P w0 f args st (finA st Post)):ACalls P w0 f args st Post:=by
 refine ⟨h.1,fun M w b a c=>(h.2 M w b a c).mono ?_⟩
 rintro en w' ⟨v,M',r,d,h1,⟨b1,b2,b3,b4,b5,b6⟩,h3,h4,h5⟩
 exact ⟨v,M'.cut st.boxes.length st.rows.length st.loops.length,r,_,h1,b6,h3.cut (by have:=a.N;omega) (by have:=a.NR;omega) (by have:=a.loop.NL;omega) (by rw [h4.loop.NL];exact b3),h4.cut b1 b2 b3 b4,h5.cut b5⟩
theorem Zvj {f:FuncId} {fn:Func} {c:Code} (hf:P.funcs[f]? = some fn) (hb:fn.body=some c) (hn:fn.name ≠ "runtime.NumGoroutine"):ZiW P f:=by
 intro a w
 simp [callFunc,hf,hb,hn]
end
section
variable {P:Program} {w0:World} {n:Nat}
def Zxp (P:Program) (w0:World) (e1:Env) (c:Bool) (st:St) (o:Oper) (v:AV):Prop :=
 match o.op with
 | .call ⟨.value f,args,_⟩=>c=true→ZaT e1 true f∧(∀ x∈args.toList,ZaT e1 true x)∧Zl1 P w0 (Zav e1 f) (args.toList.map fun x=>argP e1 (Zav e1 x)) st fun r s=>r=v∧s=st
 | op=>(c=true→(Zcl P e1 c st op).1)∧(Zcl P e1 c st op).2.1=v∧(Zcl P e1 c st op).2.2=st
theorem ZmL {e1:Env} {c:Bool} {st:St} {o:Oper} {v:AV} (hc:¬ Zi1 o.op=true) :
  Zxp P w0 e1 c st o v=((c=true→(Zcl P e1 c st o.op).1)∧(Zcl P e1 c st o.op).2.1=v∧(Zcl P e1 c st o.op).2.2=st):=by
 obtain ⟨h,op,d,g,a,b⟩:=o
 cases op with
 | call cc =>
  obtain ⟨callee,e,ts⟩:=cc
  cases callee with
  | value f=>exact absurd rfl hc
  | _=>rfl
 | _=>rfl
theorem Znc {M:Mem} {e1:Env} {st:St} {a:Act} {w:World} (h:Rel w0 n M e1 st a w) (ro:Option Nat) (m:Nat) {all:List Oper} {o:Oper} {v:AV} (hg:Zi9 all e1 o.guard) (hv:Zxp P w0 e1 (ZcV all e1 o.guard) st o v)
  (Q:Exit→Act→World→Prop) (K:Act→World→Prop) (hK:∀ u w' M',Ext w0 M w M' w'→RelSt w0 M' st w'→entryOk w0 M' w' u (ZcV all e1 o.guard,v)→K (a.put o.dst u) w') :
  if Region.wanted o (yielded all.toArray a.tmps) then o.wpIn (FW ro) m P a w K Q else (∀ f,o.about P w a.eval=some f→(FW ro).fn f)∧K (a.put o.dst undef) w:=by
 rw [Zke h hg]
 cases hcc:ZcV all e1 o.guard with
 | true =>
  rw [hcc] at hv hK
  rw [if_pos rfl]
  by_cases hc:Zi1 o.op=true
  ·
   obtain ⟨dst,op,d,i,c,guard⟩:=o
   cases op<;>try cases hc
   rename_i cc
   obtain ⟨callee,e,ts⟩:=cc
   cases callee<;>try cases hc
   rename_i f
   obtain ⟨b1,b2,b3⟩:=hv rfl
   refine ZhM h ro m b1 b2 b3 Q _ (fun r s hp u w' M' hx b hu=>?_)
   obtain ⟨rfl,rfl⟩:=hp
   exact hK u w' M' hx b hu
  ·
   rw [ZmL hc] at hv
   obtain ⟨b1,b2,b3⟩:=hv
   refine ZmG h ro m o (b1 rfl) Q _ (fun u w' M' hx b hu=>?_)
   rw [b3] at b
   rw [b2] at hu
   exact hK u w' M' hx b hu
 | false =>
  rw [hcc] at hK
  rw [if_neg (by simp)]
  exact ⟨fun g _=>ZtJ ro g,hK undef w M (.refl _ _ _) h.st rfl⟩
structure Trail (P:Program) (w0:World) (n:Nat) (all os:List Oper) (e:Env) (st:St) (E:Nat→Env) (C:Nat→Bool) (V:Nat→AV):Prop where
 zero:E 0=e
 step:∀ j o,os[j]? = some o→E (j+1)=ZnV (E j) o.dst (C j) (V j)∧Zi9 all (ZfA true all o (E j)) o.guard∧ZkL n o.dst∧ZcV all (ZfA true all o (E j)) o.guard=C j ∧
  Zxp P w0 (ZfA true all o (E j)) (C j) st o (V j)
theorem ZoP {all os:List Oper} {e:Env} {st:St} {o:Oper} {E:Nat→Env} {C:Nat→Bool} {V:Nat→AV} {v:AV} (hg:Zi9 all (ZfA true all o e) o.guard) (hd:ZkL n o.dst)
  (ho:Zxp P w0 (ZfA true all o e) (ZcV all (ZfA true all o e) o.guard) st o v) (T:Trail P w0 n all os (ZnV e o.dst (ZcV all (ZfA true all o e) o.guard) v) st E C V) :
  Trail P w0 n all (o::os) e st (fun | 0=>e | j+1=>E j) (fun | 0=>ZcV all (ZfA true all o e) o.guard | j+1=>C j) (fun | 0=>v | j+1=>V j):=by
 refine ⟨rfl,fun j q hq=>?_⟩
 cases j with
 | zero =>
  simp only [List.getElem?_cons_zero,Option.some.injEq] at hq
  subst hq
  exact ⟨T.zero,hg,hd,rfl,ho⟩
 | succ j =>
  simp only [List.getElem?_cons_succ] at hq
  exact T.step j q hq
theorem Zpq {all:List Oper} {st:St} {KK:Env→St→Prop}:∀ (c:Nat) (os:List Oper) (e:Env),evK P w0 n true all KK c os e st→∃ E C V,Trail P w0 n all os e st E C V∧KK (E os.length) st
 | 0,_,_,h=>h.elim
 | c+1,os,e,h=>by
  have i:∀ (os:List Oper) (e:Env),evS P w0 n true all (evK P w0 n true all KK c) KK os e st→∃ E C V,Trail P w0 n all os e st E C V∧KK (E os.length) st:=by
   intro os
   induction os with
   | nil=>exact fun e h=>⟨fun _=>e,fun _=>false,fun _ => .junk,⟨rfl,fun j o hh=>by simp at hh⟩,h⟩
   | cons o os ih =>
    intro e h
    by_cases hc:Zi1 o.op=true
    ·
     obtain ⟨r,op,m,q,k,l⟩:=o
     cases op<;>try cases hc
     rename_i cc
     obtain ⟨callee,p,ts⟩:=cc
     cases callee<;>try cases hc
     rename_i f
     simp only [evS] at h
     obtain ⟨hg,hd,h1,hk⟩:=h
     rcases hk with ⟨v,k1,k2⟩ | ⟨hf,_⟩
     ·
      obtain ⟨E,C,V,T,b⟩:=Zpq c os _ k2
      exact ⟨_,_,_,ZoP hg hd (fun g=>⟨(h1 g).1,(h1 g).2,k1 g⟩) T,b⟩
     ·
      cases hf
    ·
     rw [Zqk hc] at h
     obtain ⟨hg,hd,h1,h0,a⟩:=h
     have d:=h0 (.inr rfl)
     simp only at d
     rw [d] at a
     obtain ⟨E,C,V,T,b⟩:=ih _ a
     exact ⟨_,_,_,ZoP hg hd (by rw [ZmL hc];exact ⟨h1,rfl,d⟩) T,b⟩
  exact i os e h
theorem ZjK {all os:List Oper} {e:Env} {st:St} {E:Nat→Env} {C:Nat→Bool} {V:Nat→AV} (T:Trail P w0 n all os e st E C V)
  (uniq:∀ (i j:Nat) (o p:Oper) (s:Nat),os[i]? = some o→os[j]? = some p→o.dst=some s→p.dst=some s→i=j) (s:Nat):∀ j,j≤os.length →
  ((∀ i o,i<j→os[i]? = some o→o.dst≠some s)→ZfS (E j) s=ZfS e s)∧(∀ i o,i<j→os[i]? = some o→o.dst=some s→ZfS (E j) s=some (C i,V i))
 | 0,_=>⟨fun _=>by rw [T.zero],fun i o h=>absurd h (by omega)⟩
 | j+1,hj=>by
  obtain ⟨g,f⟩:=ZjK T uniq s j (by omega)
  have ho:os[j]? = some os[j]:=List.getElem?_eq_getElem (by omega)
  have b:=(T.step j _ ho).1
  have a:os[j].dst≠some s→ZfS (E (j+1)) s=ZfS (E j) s:=by
   intro a
   rw [b]
   cases hd:os[j].dst with
   | none=>rfl
   | some d =>
    rw [hd] at a
    simp only [ZnV,ZfS]
    rw [if_neg (fun h=>a (by rw [h]))]
  refine ⟨fun h=>?_,fun i o hi hio hd=>?_⟩
  ·
   rw [a (h j _ (by omega) ho)]
   exact g fun i o hi=>h i o (by omega)
  ·
   by_cases c:i=j
   ·
    subst c
    rw [ho] at hio
    cases hio
    rw [b,hd]
    simp only [ZnV,ZfS,if_true]
   ·
    rw [a (fun h=>c (uniq i j o _ s hio ho hd h))]
    exact f i o (by omega) hio hd
theorem Zj5 {F:Fence} {m:Nat} {md:Region.Mode} {ops:Array Oper} {Q':Exit→Act→World→Prop}:∀ (l:List Oper) (k:Nat) (listed:Array Bool) (a:Act) (w:World),(∀ j,l[j]? = ops[k+j]?) →
  Region.seqB md ops l.length k listed=true→wpListIn F m P ops Q' l a w→wpAnyIn F m P md ops Q' l.length listed a w
 | [],_,_,_,_,_,hB,h=>⟨by simpa [Region.seqB] using hB,h⟩
 | o::l,k,listed,a,w,hl,hB,h=>by
  have h0:ops[k]? = some o:=by simpa using (hl 0).symm
  simp only [List.length_cons,Region.seqB,Bool.and_eq_true,decide_eq_true_eq] at hB
  refine ⟨fun h1=>(by rw [hB.1] at h1;cases h1),fun i hi=>?_⟩
  rw [hB.1] at hi
  have hik:i=k:=by simpa using hi
  subst hik
  have hw:wpOpIn F m P ops Q' i (wpListIn F m P ops Q' l) a w:=by unfold wpOpIn;simp only [h0];exact h
  exact wpOpIn_mono (fun a' w' h'=>Zj5 l (i+1) _ a' w' (fun j=>by have:=hl (j+1);simpa [Nat.add_assoc,Nat.add_comm 1 j] using this) hB.2 h') hw
def Ztt (o:Oper) (j:Nat):Bool:=o.after.any fun e=>Region.binds .any e&&e.on == j
theorem ZnU {o:Oper} {j:Nat} (h:Ztt o j=true):∃ e∈o.after,Region.binds .any e=true∧e.on=j:=by
 obtain ⟨e,he,hb⟩:=Array.any_eq_true'.1 h
 simp only [Bool.and_eq_true,beq_iff_eq] at hb
 exact ⟨e,he,hb.1,hb.2⟩
def ZBO (l:List Oper) (i j:Nat) (o p:Oper):Bool :=
 match p.dst with
 | some s=>(decide (i=j)||o.dst != some s)&&(!(Zqs l o).contains s||(decide (j<i)&&Ztt o j))
 | none=>true
def ZCn (l:List Oper) (h:Nat):Bool :=
 (List.range h).all fun i=>match l[i]? with
  | some o=>(o.after.toList.all fun e => !Region.binds .any e||decide (e.on<i))&&(List.range h).all fun j=>match l[j]? with
   | some p=>ZBO l i j o p
   | none=>true
  | none=>true
def ZDo (l:List Oper) (h:Nat):Bool :=
 (List.range (l.length-h)).all fun k=>(List.range (h+k)).all fun j=>(List.range (h+k+1)).any fun q=>decide (j<q)&&(match l[q]? with | some o=>Ztt o j | none=>false)
def ZuW (l:List Oper) (h:Nat):Bool :=
 decide (h≤l.length)&&ZCn l h&&ZDo l h&&Region.seqB .any l.toArray (l.length-h) h (Array.replicate h true++Array.replicate (l.length-h) false)
theorem Zli {l:List Oper} {h:Nat} (hB:ZCn l h=true) {i:Nat} {o:Oper} (hi:i<h) (ho:l[i]? = some o) :
  (∀ e∈o.after,Region.binds .any e=true→e.on<i)∧∀ j p s,j<h→l[j]? = some p→p.dst=some s→(o.dst=some s→i=j)∧(s∈Zqs l o→j<i∧Ztt o j=true):=by
 have h1:=List.all_eq_true.1 hB i (List.mem_range.2 hi)
 simp only [ho,Bool.and_eq_true] at h1
 refine ⟨fun e he hb=>?_,fun j p s hj hp hs=>?_⟩
 ·
  have:=List.all_eq_true.1 h1.1 e (by simpa using he)
  simpa [hb] using this
 ·
  have h2:=List.all_eq_true.1 h1.2 j (List.mem_range.2 hj)
  simp only [hp,ZBO,hs,Bool.and_eq_true,Bool.or_eq_true,decide_eq_true_eq,bne_iff_ne,Bool.not_eq_true'] at h2
  refine ⟨fun hd=>h2.1.resolve_right (fun c=>c hd),fun hm=>?_⟩
  rcases h2.2 with h3 | h3
  ·
   have:(Zqs l o).contains s=true:=by simpa using hm
   rw [h3] at this;cases this
  ·
   exact h3
theorem Zum {listed:Array Bool} {i:Nat} (h:listed.getD i true=false):∃ hi:i<listed.size,listed[i]=false:=by
 by_cases c:i<listed.size
 ·
  exact ⟨c,by simpa [c] using h⟩
 ·
  simp [Array.getD_eq_getD_getElem?,Array.getElem?_eq_none (Nat.le_of_not_lt c)] at h
theorem ZuH {listed:Array Bool} {i:Nat} (h:listed.getD i false=true):∃ hi:i<listed.size,listed[i]=true:=by
 by_cases c:i<listed.size
 ·
  exact ⟨c,by simpa [c] using h⟩
 ·
  simp [Array.getD_eq_getD_getElem?,Array.getElem?_eq_none (Nat.le_of_not_lt c)] at h
theorem Zdq {listed:Array Bool} {i j:Nat} (hi:i<listed.size) (b:Bool):(listed.setIfInBounds i true).getD j b=if i=j then true else listed.getD j b:=by
 by_cases c:i=j
 ·
  subst c;simp [hi]
 ·
  rw [if_neg c]
  simp [Array.getElem?_setIfInBounds_ne c]
structure DInv (w0:World) (n:Nat) (l:List Oper) (h:Nat) (e:Env) (st:St) (C:Nat→Bool) (V:Nat→AV) (M1:Mem) (w1:World) (ds:List Deferred) (listed:Array Bool) (a:Act) (w:World) (M:Mem):Prop where
 size:listed.size=l.length
 tail:∀ t,h≤t→t<l.length→listed.getD t true=false
 closed:∀ j oj,l[j]? = some oj→listed.getD j false=true→∀ e∈oj.after,Region.binds .any e=true→listed.getD e.on false=true
 rel:RelSt w0 M st w
 tmps:a.tmps.size=n
 defers:a.defers=ds
 ext:Ext w0 M1 w1 M w
 old:∀ s x,(∀ i o,i<h→l[i]? = some o→o.dst≠some s)→ZfS e s=some x→entryOk w0 M w (a.tmps.getD s undef) x
 new:∀ i o s,i<h→l[i]? = some o→o.dst=some s→listed.getD i false=true→entryOk w0 M w (a.tmps.getD s undef) (C i,V i)
theorem Znd {listed:Array Bool} {h:Nat} (hn:¬ ∀ j,j<h→listed.getD j false=true):∃ j,j<h∧listed.getD j false=false∧∀ i,i<j→listed.getD i false=true:=by
 induction h with
 | zero=>exact absurd (fun j hj=>absurd hj (by omega)) hn
 | succ h ih =>
  by_cases c:∀ j,j<h→listed.getD j false=true
  ·
   refine ⟨h,by omega,?_,c⟩
   cases hq:listed.getD h false with
   | false=>rfl
   | true =>
    exact absurd (fun j hj=>by
     by_cases e:j=h
     ·
      exact e▸hq
     ·
      exact c j (by omega)) hn
  ·
   obtain ⟨j,h1,h2,h3⟩:=ih c
   exact ⟨j,by omega,h2,h3⟩
theorem Zx8 {l:List Oper} {h:Nat} {e:Env} {st:St} {E:Nat→Env} {C:Nat→Bool} {V:Nat→AV} {M1:Mem} {w1:World} {ds:List Deferred} {ro:Option Nat} {m:Nat} {Q:Exit→Act→World→Prop}
  (T:Trail P w0 n l (l.take h) e st E C V) (hB:ZuW l h=true)
  (hend:∀ a w M,Rel w0 n M (E h) st a w→Ext w0 M1 w1 M w→a.defers=ds→wpListIn (FW ro) m P l.toArray Q (l.drop h) a w) :
  ∀ fuel listed a w M,fuel=listed.toList.count false→DInv w0 n l h e st C V M1 w1 ds listed a w M→wpAnyIn (FW ro) m P .any l.toArray Q fuel listed a w:=by
 simp only [ZuW,Bool.and_eq_true,decide_eq_true_eq] at hB
 obtain ⟨⟨⟨a9,hH⟩,hT⟩,hS⟩:=hB
 have a8:(l.take h).length=h:=by simp;omega
 have b:∀ j,j<h→(l.take h)[j]? = l[j]? := fun j hj=>List.getElem?_take_of_lt hj
 have am:∀ {j:Nat} {o:Oper},(l.take h)[j]? = some o→j<h:=fun {j o} hj=>by
  have:=(List.getElem?_eq_some_iff.1 hj).1;omega
 have ak:∀ (i j:Nat) (o p:Oper) (s:Nat),(l.take h)[i]? = some o→(l.take h)[j]? = some p→o.dst=some s→p.dst=some s→i=j:=by
  intro i j o p s hi hj hs a3
  have a1:=am hi
  have a2:=am hj
  rw [b _ a1] at hi
  rw [b _ a2] at hj
  exact ((Zli hH a1 hi).2 j p s a2 hj a3).1 hs
 have f:∀ s j,j≤h→_:=fun s j hj=>ZjK T ak s j (by omega)
 have ah:∀ (listed:Array Bool) (a:Act) (w:World) (M:Mem) (fuel:Nat),fuel=listed.toList.count false→DInv w0 n l h e st C V M1 w1 ds listed a w M→(∀ j,j<h→listed.getD j false=true) →
   wpAnyIn (FW ro) m P .any l.toArray Q fuel listed a w:=by
  intro listed a w M fuel hf inv g
  have hl:listed=Array.replicate h true++Array.replicate (l.length-h) false:=by
   apply Array.ext
   ·
    simp [inv.size];omega
   ·
    intro i h1 h2
    by_cases c:i<h
    ·
     have:=g i c
     simp only [Array.getD_eq_getD_getElem?,Array.getElem?_eq_getElem h1,Option.getD_some] at this
     rw [this,Array.getElem_append_left (by simpa using c)]
     simp
    ·
     have:=inv.tail i (by omega) (by rw [←inv.size];exact h1)
     simp only [Array.getD_eq_getD_getElem?,Array.getElem?_eq_getElem h1,Option.getD_some] at this
     rw [this,Array.getElem_append_right (by simpa using c)]
     simp
  have a5:fuel=(l.drop h).length:=by
   rw [hf,hl]
   simp [List.count_append,List.count_replicate]
  have z:Rel w0 n M (E h) st a w:=by
   refine ⟨inv.rel,inv.tmps,fun s x hs=>?_⟩
   by_cases c:∃ j p,j<h∧l[j]? = some p∧p.dst=some s
   ·
    obtain ⟨j,p,hj,hp,hd⟩:=c
    have:=(f s h (Nat.le_refl _)).2 j p hj (by rw [b _ hj];exact hp) hd
    rw [this] at hs
    cases hs
    exact inv.new j p s hj hp hd (g j hj)
   ·
    have:=(f s h (Nat.le_refl _)).1 (fun j p hj hp hd=>c ⟨j,p,hj,by rw [←b _ hj];exact hp,hd⟩)
    rw [this] at hs
    exact inv.old s x (fun j p hj hp hd=>c ⟨j,p,hj,hp,hd⟩) hs
  rw [a5]
  refine Zj5 (l.drop h) h listed a w (fun j=>by simp [List.getElem?_drop]) ?_ (hend a w M z inv.ext inv.defers)
  rw [hl,List.length_drop]
  exact hS
 have ae:∀ (listed:Array Bool) (t:Nat) (o:Oper),(∀ j oj,l[j]? = some oj→listed.getD j false=true→∀ e∈oj.after,Region.binds .any e=true→listed.getD e.on false=true) →
   l[t]? = some o→h≤t→(∀ e∈o.after,Region.binds .any e=true→listed.getD e.on false=true)→∀ d j,j+d+1=t→listed.getD j false=true:=by
  intro listed t o az ho ht r d
  induction d using Nat.strongRecOn with
  | _ d ih =>
   intro j hj
   have bc:t<l.length:=(List.getElem?_eq_some_iff.1 ho).1
   have h1:=List.all_eq_true.1 (List.all_eq_true.1 hT (t-h) (List.mem_range.2 (by omega))) j (List.mem_range.2 (by omega))
   obtain ⟨q,hq,h2⟩:=List.any_eq_true.1 h1
   have bd:q≤t:=by have:=List.mem_range.1 hq;omega
   simp only [Bool.and_eq_true,decide_eq_true_eq] at h2
   obtain ⟨ba,h3⟩:=h2
   cases hoq:l[q]? with
   | none=>simp [hoq] at h3
   | some oq =>
    simp only [hoq] at h3
    obtain ⟨ed,af,ag,ad⟩:=ZnU h3
    by_cases c:q=t
    ·
     subst c
     rw [ho] at hoq;cases hoq
     exact ad▸r ed af ag
    ·
     have:=ih (t-q-1) (by omega) q (by omega)
     exact ad▸az q oq hoq this ed af ag
 intro fuel
 induction fuel with
 | zero =>
  intro listed a w M hf inv
  refine ah listed a w M 0 hf inv (fun j hj=>?_)
  cases hq:listed.getD j false with
  | true=>rfl
  | false =>
   exfalso
   have ar:j<listed.size:=by rw [inv.size];omega
   have:false∈listed.toList:=by
    have e1:listed[j]=false:=by simpa [ar] using hq
    rw [←e1];simp
   have:=List.count_pos_iff.2 this
   omega
 | succ fuel ih =>
  intro listed a w M hf inv
  by_cases g:∀ j,j<h→listed.getD j false=true
  ·
   exact ah listed a w M _ hf inv g
  ·
   obtain ⟨k,au,ao,a0⟩:=Znd g
   have a4:k<listed.size:=by rw [inv.size];omega
   have aq:l[k]? = some l[k]:=List.getElem?_eq_getElem (by omega)
   have ab:k∈Region.ready .any l.toArray listed:=by
    refine mem_ready.2 ⟨by simpa [a4] using ao,l[k],by simp,fun ed he hb=>a0 _ ((Zli hH au aq).1 ed he hb)⟩
   refine ⟨fun h0=>absurd ab (by rw [h0];simp),fun i hi=>?_⟩
   obtain ⟨ay,o,ho,r⟩:=mem_ready.1 hi
   have u:l[i]? = some o:=by simpa using ho
   have bb:i<l.length:=(List.getElem?_eq_some_iff.1 u).1
   have ai:i<h:=by
    refine Nat.lt_of_not_le fun ap=>?_
    have:=ae listed i o inv.closed u ap r (i-k-1) k (by omega)
    rw [ao] at this;cases this
   obtain ⟨t1,t2,t3,t4,t5⟩:=T.step i o (by rw [b _ ai];exact u)
   have y:=Zli hH ai u
   have z:Rel w0 n M (ZfA true l o (E i)) st a w:=by
    refine ⟨inv.rel,inv.tmps,fun s x hs=>?_⟩
    simp only [ZfA,if_true] at hs
    have hm:=Zjc _ _ _ _ hs
    have hl:=ZgN _ _ _ _ hs
    by_cases c:∃ j p,j<h∧l[j]? = some p∧p.dst=some s
    ·
     obtain ⟨j,p,hj,hp,hd⟩:=c
     obtain ⟨aw,hw⟩:=(y.2 j p s hj hp hd).2 hm
     obtain ⟨ed,af,ag,ad⟩:=ZnU hw
     have a6:listed.getD j false=true:=ad▸r ed af ag
     have:=(f s i (by omega)).2 j p aw (by rw [b _ hj];exact hp) hd
     rw [this] at hl
     cases hl
     exact inv.new j p s hj hp hd a6
    ·
     have:=(f s i (by omega)).1 (fun j p hj hp hd=>c ⟨j,p,by omega,by rw [←b _ (by omega)];exact hp,hd⟩)
     rw [this] at hl
     exact inv.old s x (fun j p hj hp hd=>c ⟨j,p,hj,hp,hd⟩) hl
   unfold wpOpIn
   simp only [ho]
   have aa:i<listed.size:=by rw [inv.size];omega
   refine Znc z ro m t2 (by rw [t4];exact t5) Q _ fun v w' M' hx av hv=>?_
   rw [t4] at hv
   refine ih _ _ _ M' ?_ ?_
   ·
    have aj:listed[i]=false:=by simpa [aa] using ay
    have a7:0<listed.toList.count false:=List.count_pos_iff.2 (by rw [←aj];simp)
    rw [Array.toList_setIfInBounds,List.count_set (by simpa using aa)]
    simp only [Array.getElem_toList,aj]
    rw [if_pos (show (false == false)=true from rfl),if_neg (show ¬ (true == false)=true by decide)]
    omega
   ·
    have keep:∀ s x,o.dst≠some s→entryOk w0 M w (a.tmps.getD s undef) x→entryOk w0 M' w' ((a.put o.dst v).tmps.getD s undef) x:=by
     intro s x ax h1
     rw [ZiA a o.dst v s (by rw [inv.tmps];exact t3),if_neg ax]
     exact h1.mono hx
    refine ⟨by simp [inv.size],fun t h1 h2=>?_,fun j oj hj hl ed he hb=>?_,av,by rw [Zms];exact inv.tmps,by rw [ZhB];exact inv.defers,inv.ext.trans hx,fun s x h1 h2=>?_,fun j p s hj hp hd hl=>?_⟩
    ·
     rw [Zdq aa,if_neg (by omega)];exact inv.tail t h1 h2
    ·
     rw [Zdq aa] at hl ⊢
     split
     ·
      rfl
     ·
      by_cases c:i=j
      ·
       subst c
       rw [u] at hj;cases hj
       exact r ed he hb
      ·
       rw [if_neg c] at hl
       exact inv.closed j oj hj hl ed he hb
    ·
     exact keep s x (h1 i o ai u) (inv.old s x h1 h2)
    ·
     by_cases c:i=j
     ·
      subst c
      rw [u] at hp;cases hp
      rw [ZiA a o.dst v s (by rw [inv.tmps];exact t3),if_pos hd]
      exact hv
     ·
      rw [Zdq aa,if_neg c] at hl
      refine keep s _ (fun hs=>c ((y.2 j p s hj hp hd).1 hs)) (inv.new j p s hj hp hd hl)
theorem Zxb {M0:Mem} {W0:World} {ro:Option Nat} {Q:AQ} {e:Env} {st:St} (hm:P.follows .mixedOrders=true) (h:Nat) (c1 c2:Nat) (L:List Nat) {id:Nat} {l:List Oper} (hB:ZuW l h=true)
  (hev:evK P w0 n true l (fun e1 s1=>evK P w0 n false l (fun e2 s2=>Q .normal (Zdg L e2) s2) c2 (l.drop h) e1 s1) c1 (l.take h) e st):awp P w0 n M0 W0 ro (.region id l.toArray true) Q e st:=by
 intro m M a w hr
 obtain ⟨E,C,V,T,h2⟩:=Zpq _ _ _ hev
 have i:h≤l.length:=by
  simp only [ZuW,Bool.and_eq_true,decide_eq_true_eq] at hB;exact hB.1.1.1
 have d:(l.take h).length=h:=by simp;omega
 rw [d] at h2
 obtain ⟨d1,d2⟩:=hr.rel.st.drew
 refine wpIn_region_any hm (Zx8 T hB (M1:=M) (w1:=w) (ds:=a.defers) (fun a1 w1 M1 g b f=>?_) _ _ a _ M (by simp) ?_)
 ·
  refine Zm5 ro m false l _ _ c2 _ _ st a1 w1 M1 g h2 fun e2 s2 a2 w2 M2 k2 r2 x2 q2=>⟨M2,_,_,⟨r2.sub (ZaW L _),hr.ext.trans (b.trans x2),?_⟩,k2⟩
  rw [q2,f]
  exact hr.marks.later (b.trans x2) hr.rel.st
 ·
  exact ⟨by simp,fun t _ ht=>by simp [Array.getD_eq_getD_getElem?,ht],fun j _ _ hl=>by
   exfalso
   by_cases c:j<l.length
   ·
    simp [Array.getD_eq_getD_getElem?,c] at hl
   ·
    simp [Array.getD_eq_getD_getElem?,c] at hl,d1,hr.rel.size,rfl,d2,fun s x _ hs=>(hr.rel.env s x hs).mono d2,fun j _ _ _ _ _ hl=>by
   exfalso
   by_cases c:j<l.length
   ·
    simp [Array.getD_eq_getD_getElem?,c] at hl
   ·
    simp [Array.getD_eq_getD_getElem?,c] at hl⟩
end
def St.ext (s X:St):St:=⟨s.boxes++X.boxes,s.rows++X.rows,s.loops++X.loops⟩
def St.push (s:St) (la:LoopA):St:={ s with loops:=s.loops++[la] }
def St.like (s t:St):Prop:=s.boxes.length=t.boxes.length∧t.rows.length≤s.rows.length∧s.loops.length=t.loops.length
def ZBb (P:Program) (w0:World) (gf:FuncId) (caps:List AV) (items:List (List AV)) (Fr:St→Prop):Prop :=
 ∀ (k:Nat) (J:Nat→St→Prop) (Jx:St→Prop),(∀ i s,J i s→Fr s∧k<s.loops.length) →
  (∀ i s x X,X.rows=[]→J i s→items[i]? = some x→Zq9 P w0 k x (s.ext X) fun r s'=>∃ t,s'=t.ext X∧t.like s∧((r = .val (.bool true)∧J (i+1) t)∨(r = .val (.bool false)∧Jx t))) →
  ∀ s,J 0 s→ACalls P w0 gf (.yld k::caps) s fun _ s'=>∃ t X,X.rows=[]∧s'=St.ext t X∧(J items.length t∨Jx t)
def Ztx:Env→List Nat→List AV→Env
 | e,p::ps,x::xs=>Ztx ((p,true,x)::e) ps xs
 | e,_,_=>e
section
variable {P:Program} {w0:World} {n:Nat} {M:Mem} {e:Env} {st:St} {a:Act} {w:World}
theorem Rel.bind:∀ (ps:List Nat) (vs:List Value) (xs:List AV) (e:Env) (a:Act),Rel w0 n M e st a w→ps.length=xs.length→(∀ p∈ps,p<n)→vs.length=xs.length→(∀ (i:Nat) (v:Value) (x:AV),vs[i]? = some v→xs[i]? = some x→R w0 M w v x) →
  Rel w0 n M (Ztx e ps xs) st { tmps:=(ps.zip vs).foldl (fun t (p,v)=>t.setIfInBounds p v) a.tmps,defers:=a.defers } w
 | [],[],[],_,_,h,_,_,_,_=>h
 | p::ps,v::vs,x::xs,e,a,h,h1,h2,h3,h4=>by
  simp only [List.zip_cons_cons,List.foldl_cons,Ztx]
  have hp:p<n:=h2 p (by simp)
  have:=h.put (M':=M) (w':=w) (st':=st) (.refl _ _ _) h.st (dst:=some p) hp (c:=true) (v:=v) (r:=x) (h4 0 v x rfl rfl)
  exact Rel.bind ps vs xs _ (a.put (some p) v) this (by simpa using h1) (fun q hq=>h2 q (by simp [hq])) (by simpa using h3) (fun i u y hu hy=>h4 (i+1) u y hu hy)
 | [],_::_,[],_,_,_,_,_,h,_=>by simp at h
 | [],_,_::_,_,_,_,h,_,_,_=>by simp at h
 | _::_,_,[],_,_,_,h,_,_,_=>by simp at h
 | _::_,[],_::_,_,_,_,_,_,h,_=>by simp at h
theorem RelSt.setLoop (h:RelSt w0 M st w) {k:Nat} {la:LoopA} (hk:st.loops[k]? = some la) (s:LoopState) (p:Option Code) {r:Loop} (hr:w.heap[M.lb k]? = some (.loop r)) :
  RelSt w0 M { st with loops:=st.loops.set k { la with st:=s,pend:=p } } (w.putObj (M.lb k) (.loop { r with state:=s,pending:=p }))∧Ext w0 M w M (w.putObj (M.lb k) (.loop { r with state:=s,pending:=p })):=by
 have g:k<st.loops.length:=(List.getElem?_eq_some_iff.1 hk).1
 have f:k<M.NL:=by rw [h.loop.NL];exact g
 have n:M.lb k<w.heap.size:=(Array.getElem?_eq_some_iff.1 hr).1
 obtain ⟨g0,r0,g1,g2,g3,g4,g5,g6,g7,g8⟩:=h.loop.record k la hk
 rw [hr] at g1
 cases g1
 generalize ho':Obj.loop { r with state:=s,pending:=p }=o'
 have hs:∀ (b a:Nat) (v:Value),w.cell? ⟨b,a,none⟩=some v→(w.putObj (M.lb k) o').cell? ⟨b,a,none⟩=some v:=fun b a v=>Zkm hr rfl
 have hc:∀ {b:Nat} {c:Array Value} {ty:TypeId},w.heap[b]? = some (.cells c ty (0,0))→(w.putObj (M.lb k) o').heap[b]? = some (.cells c ty (0,0)):=by
  intro b c ty hb
  rw [World.putObj_heap_other (fun e=>by subst e;rw [hr] at hb;cases hb)]
  exact hb
 refine ⟨⟨Below.putObj h.below g0 _,h.N,h.NR,fun b hb=>h.top b (by simpa using hb),h.inj,fun l cs t=>?_,fun id x hm=>(h.row id x hm).same hs hc (by simp),h.rowinj,⟨by simp [h.loop.NL],h.loop.inj,fun j lj hj=>?_⟩⟩,
  ⟨Nat.le_refl _,fun _ _=>rfl,Nat.le_refl _,fun _ _=>⟨Nat.le_refl _,fun _=>⟨rfl,rfl,rfl⟩⟩,fun b a v h1 h2=>⟨hs b a v h2,h1⟩,by simp,Nat.le_refl _,fun _ _=>rfl,fun _ _ _=>by omega,fun b o h1 _ h3=>?_⟩⟩
 ·
  obtain ⟨a1,a2,c,ty,a3,a4,a5,a6⟩:=h.box l cs t
  exact ⟨a1,a2,c,ty,hc a3,a4,a5,fun i b1 b2=>(a6 i b1 b2).same hs⟩
 ·
  by_cases q:j=k
  ·
   subst q
   rw [List.getElem?_set_self g] at hj
   cases hj
   exact ⟨g0,{ r with state:=s,pending:=p },by rw [←ho'];exact World.putObj_heap_same n,rfl,rfl,g4,g5,g6,g7,fun s x d=>(g8 s x d).same hs⟩
  ·
   rw [List.getElem?_set_ne (Ne.symm q)] at hj
   have m:j<M.NL:=by rw [h.loop.NL];exact (List.getElem?_eq_some_iff.1 hj).1
   obtain ⟨a1,r,a2,a3,a4,a5,a6,a7,a8,a9⟩:=h.loop.record j lj hj
   exact ⟨a1,r,by rw [World.putObj_heap_other (fun e=>q (h.loop.inj j k m f e))];exact a2,a3,a4,a5,a6,a7,a8,fun s x d=>(a9 s x d).same hs⟩
 ·
  rw [World.putObj_heap_other (fun e=>h3 k f e.symm)]
  exact h1
def Mem.newLoop (M:Mem) (b:Nat):Mem:={ M with NL:=M.NL+1,lb:=fun k=>if k=M.NL then b else M.lb k }
theorem Rel.newLoop (h:Rel w0 n M e st a w) (fn:FuncId) (ps:Array Tmp) (asg body:Code) :
  RelSt w0 (M.newLoop (w.heap.size+1)) (st.push ⟨e,n,ps,asg,body,.ready,none⟩) ((w.alloc (.deferred (some []))).alloc (.loop { state := .ready,pending:=none,fn,tmps:=a.tmps,params:=ps,assign:=asg,body,defers:=w.heap.size })) ∧
  Ext w0 M w (M.newLoop (w.heap.size+1)) ((w.alloc (.deferred (some []))).alloc (.loop { state := .ready,pending:=none,fn,tmps:=a.tmps,params:=ps,assign:=asg,body,defers:=w.heap.size })):=by
 generalize hr:({ state := .ready,pending:=none,fn,tmps:=a.tmps,params:=ps,assign:=asg,body,defers:=w.heap.size }:Loop)=r
 have m:KeepsObj w ((w.alloc (.deferred (some []))).alloc (.loop r)):=(KeepsObj.alloc _ _).trans (KeepsObj.alloc _ _)
 have u:∀ (b p:Nat) (v:Value),w.cell? ⟨b,p,none⟩=some v→((w.alloc (.deferred (some []))).alloc (.loop r)).cell? ⟨b,p,none⟩=some v:=by
  intro b p v hv
  have g:=World.block_lt_of_cell? w _ hv
  rw [World.cell?_alloc_lt _ _ _ (by simp;exact Nat.lt_succ_of_lt g),World.cell?_alloc_lt _ _ _ g]
  exact hv
 have f:∀ k,k<M.NL→(M.newLoop (w.heap.size+1)).lb k=M.lb k:=fun k hk=>by simp [Mem.newLoop];omega
 have d:(M.newLoop (w.heap.size+1)).lb M.NL=w.heap.size+1:=by simp [Mem.newLoop]
 have hx:Ext w0 M w (M.newLoop (w.heap.size+1)) ((w.alloc (.deferred (some []))).alloc (.loop r)) :=
  ⟨Nat.le_refl _,fun _ _=>rfl,Nat.le_refl _,fun _ _=>⟨Nat.le_refl _,fun _=>⟨rfl,rfl,rfl⟩⟩,fun b p v h1 h2=>⟨u b p v h2,h1⟩,by simp;omega,Nat.le_succ _,f,fun k h1 h2=>by
   have:k=M.NL:=by simp only [Mem.newLoop] at h2;omega
   rw [this,d];omega,fun b o h1 h2 _=>m b o h1 h2⟩
 have hh:∀ {b:Nat},b<w.heap.size→((w.alloc (.deferred (some []))).alloc (.loop r)).heap[b]? = w.heap[b]? := fun {b} hb=>by
  rw [Za1 _ _ (by simp;omega),Za1 _ _ hb]
 refine ⟨⟨(h.st.below.alloc h.st.base_le _).alloc (by have:=h.st.base_le;simp;omega) _,h.st.N,h.st.NR,fun b hb=>h.st.top b (by simp at hb;omega),h.st.inj,fun l cs hl=>?_,fun id x hm=>(h.st.row id x hm).keep hx rfl rfl rfl rfl rfl (h.st.row id x hm).ne (hh (h.st.row id x hm).lt),h.st.rowinj,⟨by simp [Mem.newLoop,St.push,h.st.loop.NL],fun k k' hk t q=>?_,fun k la hk=>?_⟩⟩,hx⟩
 ·
  obtain ⟨a1,a2,c,ty,a3,a4,a5,a6⟩:=h.st.box l cs hl
  exact ⟨a1,a2,c,ty,by rw [show (M.newLoop (w.heap.size+1)).bx l=M.bx l from rfl,hh (Array.getElem?_eq_some_iff.1 a3).1];exact a3,a4,a5,fun i b1 b2=>(a6 i b1 b2).mono hx⟩
 ·
  have g:∀ j,j<M.NL→M.lb j<w.heap.size:=fun j hj=>by
   obtain ⟨_,r,q,_⟩:=h.st.loop.record j _ (List.getElem?_eq_getElem (by rw [←h.st.loop.NL];exact hj))
   exact (Array.getElem?_eq_some_iff.1 q).1
  simp only [Mem.newLoop] at hk t
  by_cases c:k=M.NL
  ·
   by_cases c':k'=M.NL
   ·
    omega
   ·
    subst c
    rw [d,f k' (by omega)] at q
    have:=g k' (by omega)
    omega
  ·
   by_cases c':k'=M.NL
   ·
    subst c'
    rw [d,f k (by omega)] at q
    have:=g k (by omega)
    omega
   ·
    rw [f k (by omega),f k' (by omega)] at q
    exact h.st.loop.inj k k' (by omega) (by omega) q
 ·
  simp only [St.push] at hk
  by_cases c:k=st.loops.length
  ·
   subst c
   simp only [List.getElem?_concat_length,Option.some.injEq] at hk
   subst hk
   rw [←h.st.loop.NL,d]
   refine ⟨by have:=h.st.base_le;omega,r,?_,?_⟩
   ·
    have:=World.alloc_heap_new (w.alloc (.deferred (some []))) (.loop r)
    rwa [World.size_alloc] at this
   ·
    have et:r.tmps=a.tmps:=by rw [←hr]
    exact ⟨by rw [←hr],by rw [←hr],by rw [←hr],by rw [←hr],by rw [←hr],by rw [et];exact h.size,fun s x hs=>by rw [et];exact (h.env s x hs).mono hx⟩
  ·
   have t:k<st.loops.length:=by
    have:=(List.getElem?_eq_some_iff.1 hk).1
    simp at this;omega
   rw [List.getElem?_append_left t] at hk
   obtain ⟨a1,r',a2,a3,a4,a5,a6,a7,a8,a9⟩:=h.st.loop.record k la hk
   rw [f k (by rw [h.st.loop.NL];exact t)]
   exact ⟨a1,r',m _ _ a2 rfl,a3,a4,a5,a6,a7,a8,fun s x hs=>(a9 s x hs).mono hx⟩
def ZuG (I:Exit→St→Prop) (s1 X:St) (la:LoopA):AQ:=fun x _ s =>
 ∃ t b,s=⟨t.boxes++X.boxes++b,t.rows,(s1.loops++[la])++X.loops⟩∧t.like s1∧t.loops=s1.loops∧I x t ∧
  (b=[]∨Calm (s1.boxes.length+X.boxes.length) t.rows.length s.loops.length ⟨t.boxes++X.boxes,t.rows,s.loops⟩)
def Zrp:Exit→Option (Option Code)
 | .normal=>some none
 | .ret=>some (some .ret)
 | .exit id=>some (some (.exit id))
 | _=>none
theorem Zv5 {M0:Mem} {W0:World} {I:Exit→St→Prop} {s1 X:St} (hX:X.rows=[]) {la:LoopA} {Post:AV→St→Prop} {x:Exit} {jump:Option Code}
  (h0:RelSt w0 M0 ((s1.push { la with st := .ready,pend:=none }).ext X) W0) (hx0:Ext w0 M0 W0 M w) {e':Env} {s':St} (hr:RelSt w0 M s' w) (hq:ZuG I s1 X { la with st := .busy,pend:=none } x e' s')
  (hpost:∀ t,t.like s1→t.loops=s1.loops→I x t→Post (.val (.bool jump.isNone)) ((t.push { la with st:=if jump.isNone then .ready else .done,pend:=jump }).ext X)) :
  ∃ v w',(Instr.endRound (M0.lb s1.loops.length) jump).run P w = .ok v w'∧Comes' w0 M0 W0 Post (.returned v) w':=by
 obtain ⟨t,b,rfl,t1,t2,t3,t4⟩:=hq
 have hk:((s1.loops++[{ la with st := .busy,pend:=none }])++X.loops)[s1.loops.length]? = some { la with st := .busy,pend:=none }:=by
  rw [List.getElem?_append_left (by simp),List.getElem?_concat_length]
 obtain ⟨_,h,g1,_⟩:=hr.loop.record _ _ hk
 have e:s1.loops.length<M0.NL:=by rw [h0.loop.NL];simp [St.ext,St.push]
 rw [←hx0.lb _ e]
 obtain ⟨r1,r2⟩:=hr.setLoop hk (if jump.isNone then .ready else .done) jump g1
 refine ⟨_,_,run_endRound jump g1,?_⟩
 have hL:((s1.loops++[{ la with st := .busy,pend:=none }])++X.loops).set s1.loops.length { la with st:=if jump.isNone then .ready else .done,pend:=jump }=(s1.loops++[{ la with st:=if jump.isNone then .ready else .done,pend:=jump }])++X.loops:=by
  rw [List.set_append_left _ _ (by simp),List.set_append_right _ _ (by simp)]
  simp
 simp only at r1
 rw [hL] at r1
 have f:=hx0.trans r2
 have hd:M0.N=s1.boxes.length+X.boxes.length∧M0.NR=s1.rows.length∧M0.NL=s1.loops.length+1+X.loops.length:=by
  refine ⟨by rw [h0.N];simp [St.ext,St.push],by rw [h0.NR];simp [St.ext,St.push,hX],by rw [h0.loop.NL];simp [St.ext,St.push];omega⟩
 obtain ⟨l1,l2,l3⟩:=t1
 have hP:=hpost t ⟨l1,l2,l3⟩ t2 t3
 have g:(t.push { la with st:=if jump.isNone then .ready else .done,pend:=jump }).ext X=⟨t.boxes++X.boxes,t.rows,(s1.loops++[{ la with st:=if jump.isNone then .ready else .done,pend:=jump }])++X.loops⟩:=by
  simp only [St.push,St.ext,t2,hX,List.append_nil]
 rw [g] at hP
 have c:∀ M' w',R w0 M' w' (.bool jump.isNone) (.val (.bool jump.isNone)):=fun _ _ => .flat rfl
 rcases t4 with rfl | t4
 ·
  simp only [List.append_nil] at r1
  exact ⟨_,M,_,_,rfl,hP,f,r1,c _ _⟩
 ·
  refine ⟨_,M.cut (s1.boxes.length+X.boxes.length) t.rows.length (s1.loops.length+1+X.loops.length),_,_,rfl,hP,f.cut (by omega) (by omega) (by omega) (by rw [r1.loop.NL];simp;omega),?_,c _ _⟩
  have d:=r1.cut (nb:=s1.boxes.length+X.boxes.length) (nr:=t.rows.length) (nl:=s1.loops.length+1+X.loops.length) (by simp;omega) (by simp) (by simp;omega)
  have e1:List.take (s1.boxes.length+X.boxes.length) (t.boxes++X.boxes++b)=t.boxes++X.boxes:=List.take_left' (by simp;omega)
  have e2:List.take t.rows.length t.rows=t.rows:=List.take_length
  have e3:∀ a,List.take (s1.loops.length+1+X.loops.length) (s1.loops++[a]++X.loops)=s1.loops++[a]++X.loops:=fun a=>List.take_of_length_le (by simp;omega)
  simp only [St.cut,e1,e2,e3] at d
  have e4:(s1.loops++[{ la with st:=LoopState.busy,pend:=none }]++X.loops).length=s1.loops.length+1+X.loops.length:=by simp;omega
  refine d ⟨?_,?_,fun a hla k y hy ht=>?_⟩
  ·
   have:=t4.rows
   simp only [e4] at this
   exact this
  ·
   have:=t4.boxes
   simp only [e4] at this
   exact this
  ·
   have q:=t4.loops
   simp only [e4] at q
   simp only [List.mem_append,List.mem_singleton] at hla q
   rcases hla with (hla | rfl) | hla
   ·
    exact q a (.inl (.inl hla)) k y hy ht
   ·
    exact q { la with st := .busy,pend:=none } (.inl (.inr rfl)) k y hy ht
   ·
    exact q a (.inr hla) k y hy ht
structure RoundAt (M0:Mem) (s:St):Prop where
 N:M0.N=s.boxes.length
 NR:M0.NR=s.rows.length
 NL:M0.NL=s.loops.length
 calm:Calm s.boxes.length s.rows.length s.loops.length s
theorem RoundAt.turn {M0:Mem} {s X:St} {la la':LoopA} (h:RoundAt M0 ((s.push la).ext X)) (he:la'.e=la.e):RoundAt M0 ((s.push la').ext X) where
 N:=h.N
 NR:=h.NR
 NL:=by rw [h.NL];simp [St.ext,St.push]
 calm:=by
  have el:((s.push la').ext X).loops.length=((s.push la).ext X).loops.length:=by simp [St.ext,St.push]
  rw [el]
  refine ⟨h.calm.rows,h.calm.boxes,fun l hl k x hx ht=>?_⟩
  have a:l∈s.loops∨l=la'∨l∈X.loops:=by simpa [St.ext,St.push,or_assoc] using hl
  rcases a with q | rfl | q
  ·
   exact h.calm.loops l (by simp [St.ext,St.push,q]) k x hx ht
  ·
   rw [he] at hx
   exact h.calm.loops la (by simp [St.ext,St.push]) k x hx ht
  ·
   exact h.calm.loops l (by simp [St.ext,St.push,q]) k x hx ht
theorem Zvl {la:LoopA} {s1 X:St} (hX:X.rows=[]) {I:Exit→St→Prop} {x:List AV} {Post:AV→St→Prop} (hlen:x.length=la.ps.size) (hps:∀ p∈la.ps.toList,p<la.n)
  (hbody:∀ (M0:Mem) (W0:World) (l:Nat),RoundAt M0 ((s1.push { la with st := .ready,pend:=none }).ext X)→RoundAt M0 ((s1.push { la with st := .busy,pend:=none }).ext X)→awp P w0 la.n M0 W0 (some l) la.asg (ZtL (fun e' s'=>s'.loops=((s1.push { la with st := .ready,pend:=none }).ext X).loops ∧
   awp P w0 la.n M0 W0 (some l) la.body (ZuG I s1 X { la with st := .busy,pend:=none }) e' { s' with loops:=((s1.push { la with st := .busy,pend:=none }).ext X).loops }) (fun _ _ _=>False))
   (Ztx la.e la.ps.toList x) ((s1.push { la with st := .ready,pend:=none }).ext X))
  (hI:∀ ex s,I ex s→(Zrp ex).isSome=true)
  (hpost:∀ ex jump t,Zrp ex=some jump→t.like s1→t.loops=s1.loops→I ex t→Post (.val (.bool jump.isNone)) ((t.push { la with st:=if jump.isNone then .ready else .done,pend:=jump }).ext X)) :
  Zq9 P w0 s1.loops.length x ((s1.push { la with st := .ready,pend:=none }).ext X) Post:=by
 intro M w d c f
 have hk:((s1.push { la with st := .ready,pend:=none }).ext X).loops[s1.loops.length]? = some { la with st := .ready,pend:=none }:=by
  simp only [St.ext,St.push]
  rw [List.getElem?_append_left (by simp),List.getElem?_concat_length]
 obtain ⟨_,r,g1,g2,g3,g4,g5,g6,g7,g8⟩:=c.loop.record _ _ hk
 simp only at g2 g3 g4 g5 g6 g7 g8
 have hy:=run_yield (P:=P) (args:=d) g1 (by rw [g4,f.1,hlen])
 refine ⟨_,_,_,_,hy,fun m=>roundIn_of_wpIn (F:=Fence.wide) trivial ?_⟩
 rw [g5,g6]
 have j:Rel w0 la.n M la.e ((s1.push { la with st := .ready,pend:=none }).ext X) { tmps:=r.tmps,defers:=[] } w:=⟨c,g7,g8⟩
 have q:=Rel.bind la.ps.toList d.toList x la.e _ j (by simp [hlen]) hps (by simp [f.1]) (fun i v y hv hy=>f.get (by rw [←Array.getElem?_toList];exact hv) hy)
 have z:(r.params.zip d).foldl (fun tmps (t,a)=>tmps.setIfInBounds t a) r.tmps=(la.ps.toList.zip d.toList).foldl (fun t (p,v)=>t.setIfInBounds p v) r.tmps:=by
  rw [g4,←Array.foldl_toList,Array.toList_zip]
 rw [z]
 refine wpIn_mono (hbody M w (M.lb s1.loops.length) ⟨c.N,c.NR,c.loop.NL,c.calm⟩ (RoundAt.turn (la:={ la with st := .ready,pend:=none }) ⟨c.N,c.NR,c.loop.NL,c.calm⟩ rfl) m M _ w ⟨q,.refl _ _ _,[],by simp⟩) ?_
 rintro ex a1 w1 ⟨M1,e1,s',h1,h2⟩
 cases ex with
 | normal =>
  obtain ⟨u,hb⟩:=h2
  have h:s'.loops[s1.loops.length]? = some { la with st := .ready,pend:=none }:=by rw [u];exact hk
  obtain ⟨_,r1,k1,k2,_⟩:=h1.rel.st.loop.record _ _ h
  have aa:s1.loops.length<M.NL:=by rw [c.loop.NL];simp [St.ext,St.push]
  have g:=h1.ext.lb _ aa
  rw [g] at k1
  refine ⟨_,run_beginRound k1 k2,?_⟩
  obtain ⟨z1,z2⟩:=h1.rel.st.setLoop h .busy none (by rw [g];exact k1)
  rw [g] at z1 z2
  have k:r1.pending=none:=by
   obtain ⟨_,ae,k1',_,ab,_⟩:=h1.rel.st.loop.record _ _ h
   rw [g,k1] at k1'
   cases k1'
   exact ab
  have er:({ r1 with state:=LoopState.busy,pending:=none }:Loop)={ r1 with state:=LoopState.busy }:=by rw [←k]
  rw [er] at z1 z2
  have eL:{ s' with loops:=s'.loops.set s1.loops.length { la with st := .busy,pend:=none } }={ s' with loops:=((s1.push { la with st := .busy,pend:=none }).ext X).loops }:=by
   rw [u]
   simp only [St.ext,St.push]
   rw [List.set_append_left _ _ (by simp),List.set_append_right _ _ (by simp)]
   simp
  simp only at z1
  rw [eL] at z1
  have ad:At w0 la.n M w e1 { s' with loops:=((s1.push { la with st := .busy,pend:=none }).ext X).loops } a1 (w1.putObj (M.lb s1.loops.length) (.loop { r1 with state := .busy })) M1 :=
   ⟨⟨z1,h1.rel.size,fun s x hs=>(h1.rel.env s x hs).mono z2⟩,h1.ext.trans z2,h1.marks.later z2 h1.rel.st⟩
  refine wpIn_mono (hb m M1 a1 _ ad) ?_
  rintro ex a2 w2 ⟨M2,e2,s2,h3,h4⟩
  have o:=hI ex
  have fin:∀ jump,Zrp ex=some jump→∃ v w',(Instr.endRound (M.lb s1.loops.length) jump).run P w2 = .ok v w'∧Comes' w0 M w Post (.returned v) w':=fun jump hj =>
   Zv5 hX (jump:=jump) c h3.ext h3.rel.st h4 (fun t t1 t2 t3=>hpost ex jump t hj t1 t2 t3)
  obtain ⟨t,b,q1,q2,q3,q4,q5⟩:=h4
  have:=o t q4
  cases ex with
  | normal=>exact fin _ rfl
  | ret=>exact fin _ rfl
  | exit id=>exact fin _ rfl
  | _=>simp [Zrp] at this
 | _=>exact h2.elim
theorem ZmJ {M0:Mem} {W0:World} {Q:AQ} {g:Operand} {ps:Array Tmp} {asg body:Code} {gf:FuncId} {caps:List AV} (items:List (List AV)) (Fr:St→Prop) (I:Nat→St→Prop) (Ix:Exit→St→Prop)
  (hg:ZaT e true g) (hgv:Zav e g = .clo gf caps) (hit:ZBb P w0 gf caps items Fr) (hlen:∀ x∈items,x.length=ps.size) (hps:∀ p∈ps.toList,p<n)
  (hFr:∀ i s la,I i s→s.like st→s.loops=st.loops→Fr (s.push la)) (h0:I 0 st) (hIx:∀ ex s,Ix ex s→ex = .ret∨∃ id,ex = .exit id)
  (hbody:∀ (i:Nat) (s1 X:St) (x:List AV) (M0:Mem) (W0:World) (l:Nat) (la la':LoopA),X.rows=[]→I i s1→s1.like st→s1.loops=st.loops→items[i]? = some x→RoundAt M0 ((s1.push la').ext X) →
   ∀ K:Env→St→Prop,(∀ e' s',s'.loops=((s1.push la).ext X).loops→(∀ KQ:AQ,(∀ ex e s,ZuG (fun ex s=>match ex with | .normal=>I (i+1) s | _=>Ix ex s) s1 X la' ex e s→KQ ex e s)→awp P w0 n M0 W0 (some l) body KQ e' { s' with loops:=((s1.push la').ext X).loops })→K e' s') →
   awp P w0 n M0 W0 (some l) asg (ZtL K (fun _ _ _=>False)) (Ztx e ps.toList x) ((s1.push la).ext X))
  (hdone:∀ s la X,X.rows=[]→I items.length s→s.like st→s.loops=st.loops→Q .normal e ((s.push la).ext X))
  (hleft:∀ ex s la X,X.rows=[]→Ix ex s→s.like st→s.loops=st.loops→Q ex e ((s.push la).ext X)):awp P w0 n M0 W0 none (.rangeFunc g ps asg body) Q e st:=by
 intro m M a w hr
 refine wpIn_rangeFunc fun fn _=>?_
 obtain ⟨n1,n2⟩:=hr.rel.newLoop fn ps asg body
 obtain ⟨cs,ao,z⟩:=Zsm (hgv▸Zbv hr.rel hg)
 generalize hW1:((w.alloc (.deferred (some []))).alloc (.loop { state := .ready,pending:=none,fn,tmps:=a.tmps,params:=ps,assign:=asg,body,defers:=w.heap.size }))=W1 at n1 n2
 generalize hM1:M.newLoop (w.heap.size+1)=M1 at n1 n2
 have ak:M.NL=st.loops.length:=hr.rel.st.loop.NL
 have u:M1.lb st.loops.length=w.heap.size+1:=by rw [←hM1,←ak];simp [Mem.newLoop]
 have ad:∀ k,k<st.loops.length→M1.lb k<w.heap.size:=fun k hk=>by
  obtain ⟨_,r,q,_⟩:=hr.rel.st.loop.record k _ (List.getElem?_eq_getElem hk)
  rw [n2.lb k (by omega)]
  exact (Array.getElem?_eq_some_iff.1 q).1
 have aq:M1.NL=st.loops.length+1:=by rw [n1.loop.NL];simp [St.push]
 have o:W1.heap[w.heap.size]? = some (.deferred (some [])):=by
  rw [←hW1];exact (Za1 _ _ (by simp)).trans (World.alloc_heap_new w _)
 let la0:LoopA:=⟨e,n,ps,asg,body,.ready,none⟩
 let J:Nat→St→Prop:=fun i s=>∃ s1,I i s1∧s1.like st∧s1.loops=st.loops∧s=s1.push la0
 let Jx:St→Prop:=fun s=>∃ ex c s1,Zrp ex=some (some c)∧Ix ex s1∧s1.like st∧s1.loops=st.loops∧s=s1.push { la0 with st := .done,pend:=some c }
 have f:=hit st.loops.length J Jx (fun i s ⟨s1,j1,j2,j3,j4⟩=>⟨by rw [j4];exact hFr i s1 la0 j1 j2 j3,by rw [j4];simp [St.push,j3]⟩)
  (fun i s x X hX ⟨s1,j1,j2,j3,j4⟩ hx=>by
   subst j4
   have:=Zvl hX (P:=P) (w0:=w0) (la:=la0) (s1:=s1) (X:=X) (I:=fun ex s=>match ex with | .normal=>I (i+1) s | _=>Ix ex s) (x:=x)
    (Post:=fun r s'=>∃ t,s'=t.ext X∧t.like (s1.push la0)∧((r = .val (.bool true)∧J (i+1) t)∨(r = .val (.bool false)∧Jx t)))
    (hlen x (List.mem_of_getElem? hx)) hps (fun M0 W0 l _ am=>hbody i s1 X x M0 W0 l _ _ hX j1 j2 j3 hx am _ (fun e' s' h1 h2=>⟨h1,h2 _ (fun _ _ _ h=>h)⟩))
    (fun ex s h=>by
     cases ex with
     | normal=>rfl
     | ret=>rfl
     | exit id=>rfl
     | _=>rcases hIx _ s h with h | ⟨id,h⟩<;>cases h)
    (fun ex ar t hj t1 t2 t3=>by
     refine ⟨_,rfl,⟨t1.1,t1.2.1,by simp [St.push,t2]⟩,?_⟩
     have like':t.like st:=⟨t1.1.trans j2.1,Nat.le_trans j2.2.1 t1.2.1,t1.2.2.trans j2.2.2⟩
     cases ex with
     | normal=>cases hj;exact .inl ⟨rfl,t,t3,like',t2.trans j3,rfl⟩
     | ret=>cases hj;exact .inr ⟨rfl,.ret,.ret,t,rfl,t3,like',t2.trans j3,rfl⟩
     | exit id=>cases hj;exact .inr ⟨rfl,.exit id,.exit id,t,rfl,t3,like',t2.trans j3,rfl⟩
     | _=>cases hj)
   rw [j3] at this
   exact this)
  (st.push la0) ⟨st,h0,⟨rfl,Nat.le_refl _,rfl⟩,rfl,rfl⟩
 have ab:RowR w0 M1 W1 (#[.func (.yield (w.heap.size+1)) #[] #[]]++cs) (.yld st.loops.length::caps):=by
  have e1:RowR w0 M1 W1 #[.func (.yield (w.heap.size+1)) #[] #[]] [.yld st.loops.length]:=by
   refine ⟨rfl,fun i h1 h2=>?_⟩
   have:i=0:=by simp at h2;exact h2
   subst this
   have:=R.yld (w0:=w0) (M:=M1) (w:=W1) (k:=st.loops.length) (by omega)
   rw [u] at this
   exact this
  have e2:RowR w0 M1 W1 cs caps:=⟨z.1,fun i h1 h2=>(z.2 i h1 h2).mono n2⟩
  exact e1.append e2
 refine ⟨w.heap.size+1,[{ target := .collected w.heap.size,args := #[] }],W1,{ target := .fn (.func gf) cs,args := #[.func (.yield (w.heap.size+1)) #[] #[]] },W1,gf,
  #[.func (.yield (w.heap.size+1)) #[] #[]]++cs,W1,?_,?_,?_,?_,fun q=>ZpB none q m,?_⟩
 ·
  rw [←hW1];exact run_enterLoop_outer _ _ _ _ _
 ·
  simp only [resolve,ao]
  simp [go_sem]
 ·
  intro f' _;exact ZtJ none f'
 ·
  simp [invoke,go_sem,f.1 _ W1]
 ·
  refine Zoe ((f.2 M1 W1 _ n1 ab).mono ?_)
  rintro en w3 ⟨v,M3,r,s3,rfl,hp,x3,r3,_⟩
  have ai:M3.lb st.loops.length=w.heap.size+1:=(x3.lb _ (by omega)).trans u
  have d:∀ (s1 X:St) (p:Option Code) (b:LoopState),b ≠ .busy→s3=(s1.push { la0 with st:=b,pend:=p }).ext X→s1.loops=st.loops →
    ∃ w4,(Instr.endLoop (w.heap.size+1)).run P w3 = .ok p w4∧At w0 n M0 W0 e ((s1.push { la0 with st := .exhausted,pend:=p }).ext X) { a with defers:=[{ target := .collected w.heap.size,args := #[] }]++a.defers } w4 M3:=by
   intro s1 X p b ae hs3 af
   subst hs3
   have hk:((s1.push { la0 with st:=b,pend:=p }).ext X).loops[st.loops.length]? = some { la0 with st:=b,pend:=p }:=by
    simp [St.push,St.ext,af]
   obtain ⟨_,aa,g1,g2,g3,_⟩:=r3.loop.record _ _ hk
   simp only at g2 g3
   obtain ⟨z1,z2⟩:=r3.setLoop hk .exhausted p g1
   rw [ai] at g1 z1 z2
   have j:=run_endLoop (P:=P) g1 (by rw [g2];exact ae)
   have er:({ aa with state:=LoopState.exhausted,pending:=p }:Loop)={ aa with state:=LoopState.exhausted }:=by rw [←g3]
   rw [er] at z1 z2
   have j:=j.trans (congrArg (fun q=>Result.ok q _) g3)
   have eL:{ ((s1.push { la0 with st:=b,pend:=p }).ext X) with loops:=((s1.push { la0 with st:=b,pend:=p }).ext X).loops.set st.loops.length { la0 with st := .exhausted,pend:=p } }=(s1.push { la0 with st := .exhausted,pend:=p }).ext X:=by
    simp only [St.push,St.ext,af,List.append_assoc]
    rw [List.set_append_right _ _ (by simp)]
    simp
   simp only at z1
   have hx:Ext w0 M w M3 (w3.putObj (w.heap.size+1) (.loop { aa with state := .exhausted })):=n2.trans (x3.trans z2)
   refine ⟨_,j,⟨⟨?_,hr.rel.size,fun s x hs=>(hr.rel.env s x hs).mono hx⟩,hr.ext.trans hx,?_⟩⟩
   ·
    rw [←eL];exact z1
   ·
    obtain ⟨Ds,d1,d2,d3⟩:=hr.marks.later hx hr.rel.st
    obtain ⟨Ds',au,ap,aj⟩:=hr.marks
    have ag:Ds'=Ds:=by
     rw [ap] at d2
     have ah:Function.Injective (fun D=>({ target := .collected D,args := #[] }:Deferred)):=fun x y h=>by simpa using h
     exact List.map_inj_right (fun x y h=>ah h) |>.1 d2
    refine ⟨w.heap.size::Ds,List.nodup_cons.2 ⟨fun hm=>?_,d1⟩,by simp [d2],fun D hD=>?_⟩
    ·
     have:=(aj _ (ag▸hm)).2
     have:=(Array.getElem?_eq_some_iff.1 this).1
     omega
    ·
     rcases List.mem_cons.1 hD with rfl | hD
     ·
      refine ⟨hr.ext.size,?_⟩
      rw [World.putObj_heap_other (by omega)]
      refine x3.objs _ _ o rfl fun k hk=>?_
      by_cases c:k=st.loops.length
      ·
       subst c;omega
      ·
       have:=ad k (by omega)
       omega
     ·
      exact d3 D hD
  obtain ⟨t,X,hX,rfl,hp⟩:=hp
  rcases hp with ⟨s1,j1,j2,j3,rfl⟩ | ⟨ex,c,s1,j0,j1,j2,j3,rfl⟩
  ·
   obtain ⟨w4,q1,q2⟩:=d s1 X none .ready (by simp) rfl j3
   exact ⟨none,w4,q1,M3,e,_,q2,hdone s1 _ X hX j1 j2 j3⟩
  ·
   obtain ⟨w4,q1,q2⟩:=d s1 X (some c) .done (by simp) rfl j3
   refine ⟨some c,w4,q1,?_⟩
   have hq:=hleft ex s1 { la0 with st := .exhausted,pend:=some c } X hX j1 j2 j3
   cases ex with
   | ret=>cases j0;exact wpIn_ret ⟨M3,e,_,q2,hq⟩
   | exit id=>cases j0;exact wpIn_exit ⟨M3,e,_,q2,hq⟩
   | _=>cases j0
end
attribute [go_sem] ZpQ eqCell.eq_1 eqCell.eq_2 eqCell.eq_3 ZjE ZrL Zhx argP ZfA Zqs ZyZ Op.operands Call.operands Array.toList_append Option.toArray evS Zi9 ZkL ZcV Zcl ZaT Zav ZfS ZnV Zdg ZtL Zpn ZzT ZrW ZAE Zy2 ZiV Zk9 Zlt Znh Zh8 ZqF Zdn Zmk inK Own.under Zaq Zlc St.ext St.push St.cut Ztx Zn1 nth evBin.eq_1 evBin.eq_2 evBin.eq_3 evBin.eq_4 evBin.eq_5 evBin.eq_6 evBin.eq_7 evBin.eq_8 evBin.eq_9 evBin.eq_10 evBin.eq_11 evBin.eq_12 evBin.eq_13 evBin.eq_14 evBin.eq_15 evBin.eq_16 evBin.eq_17 evBin.eq_18 evBin.eq_19 evBB.eq_1 evBB.eq_2 evUn.eq_1 evUn.eq_2
@[go_sem] theorem Zwr (v:Value):Zfm (.val v:AV)=true:=rfl
@[go_sem] theorem Zwg (xs:List AV) (o:Own):Zfm (.list xs o:AV)=false:=rfl
@[go_sem] theorem ZvI (x:AV) (k:Nat):Zfm (.elem x k:AV)=false:=rfl
@[go_sem] theorem Zwt (l k:Nat):Zfm (.box l k:AV)=false:=rfl
@[go_sem] theorem ZwB (f:FuncId) (cs:List AV):Zfm (.clo f cs:AV)=false:=rfl
@[go_sem] theorem ZwA (cs:List AV):Zfm (.agg cs:AV)=false:=rfl
@[go_sem] theorem Zwk (vs:List AV):Zfm (.tup vs:AV)=false:=rfl
@[go_sem] theorem ZwD (k:Nat):Zfm (.yld k:AV)=false:=rfl
@[go_sem] theorem Zws (id ver o n:Nat):Zfm (.vec id ver o n:AV)=false:=rfl
@[go_sem] theorem Zww (id ver o:Nat):Zfm (.vel id ver o:AV)=false:=rfl
@[go_sem] theorem Zwz (v:Value):ZgY (.val v:AV)=v:=rfl
@[go_sem] theorem ZAj (xs:List AV) (o:Own):isB (.list xs o:AV)=false:=rfl
@[go_sem] theorem ZzZ (x:AV) (k:Nat):isB (.elem x k:AV)=false:=rfl
@[go_sem] theorem ZAw (l k:Nat):isB (.box l k:AV)=false:=rfl
@[go_sem] theorem ZA7 (f:FuncId) (cs:List AV):isB (.clo f cs:AV)=false:=rfl
@[go_sem] theorem ZAA (cs:List AV):isB (.agg cs:AV)=false:=rfl
@[go_sem] theorem ZA6 (vs:List AV):isB (.tup vs:AV)=false:=rfl
@[go_sem] theorem ZAv (k:Nat):isB (.yld k:AV)=false:=rfl
@[go_sem] theorem ZA0 (id ver o n:Nat):isB (.vec id ver o n:AV)=false:=rfl
@[go_sem] theorem ZA1 (id ver o:Nat):isB (.vel id ver o:AV)=false:=rfl
@[go_sem] theorem ZxR (xs:List AV) (o:Own):ZeK (.list xs o:AV)=false:=rfl
@[go_sem] theorem ZxT (x:AV) (k:Nat):ZeK (.elem x k:AV)=false:=rfl
@[go_sem] theorem Zza (l k:Nat):ZeK (.box l k:AV)=false:=rfl
@[go_sem] theorem ZyM (f:FuncId) (cs:List AV):ZeK (.clo f cs:AV)=false:=rfl
@[go_sem] theorem Zy6 (cs:List AV):ZeK (.agg cs:AV)=false:=rfl
@[go_sem] theorem ZyO (vs:List AV):ZeK (.tup vs:AV)=false:=rfl
@[go_sem] theorem ZyE (k:Nat):ZeK (.yld k:AV)=false:=rfl
@[go_sem] theorem Zyr (id ver o n:Nat):ZeK (.vec id ver o n:AV)=false:=rfl
@[go_sem] theorem Zzh (id ver o:Nat):ZeK (.vel id ver o:AV)=false:=rfl
@[go_sem] theorem Zxi (xs:List AV) (o:Own):Zmp (.list xs o:AV)=false:=rfl
@[go_sem] theorem ZxW (x:AV) (k:Nat):Zmp (.elem x k:AV)=false:=rfl
@[go_sem] theorem Zzm (l k:Nat):Zmp (.box l k:AV)=false:=rfl
@[go_sem] theorem Zzf (f:FuncId) (cs:List AV):Zmp (.clo f cs:AV)=false:=rfl
@[go_sem] theorem ZyW (cs:List AV):Zmp (.agg cs:AV)=false:=rfl
@[go_sem] theorem Zzk (vs:List AV):Zmp (.tup vs:AV)=false:=rfl
@[go_sem] theorem Zzj (k:Nat):Zmp (.yld k:AV)=false:=rfl
@[go_sem] theorem Zy4 (id ver o n:Nat):Zmp (.vec id ver o n:AV)=false:=rfl
@[go_sem] theorem Zy3 (id ver o:Nat):Zmp (.vel id ver o:AV)=false:=rfl
@[go_sem] theorem ZzY (b:Bool):isB (.val (.bool b))=true:=rfl
@[go_sem] theorem ZAQ (k:IntKind) (n:Int):isB (.val (.int k n))=false:=rfl
@[go_sem] theorem ZA3 (s:ByteArray):isB (.val (.string s))=false:=rfl
@[go_sem] theorem ZyN:isB (.val undef)=false:=rfl
@[go_sem] theorem ZB1 (b:Bool):ZiN (.val (.bool b))=b:=rfl
@[go_sem] theorem ZCw (k:IntKind) (n:Int):ZeK (.val (.int k n))=true:=rfl
@[go_sem] theorem ZBd (k:IntKind) (n:Int):ZaF (.val (.int k n))=n:=rfl
@[go_sem] theorem ZAT (k:IntKind) (n:Int):ZiH (.val (.int k n))=k:=rfl
@[go_sem] theorem ZCG (s:ByteArray):Zmp (.val (.string s))=true:=rfl
@[go_sem] theorem ZCD (s:ByteArray):ZAn (.val (.string s))=s:=rfl
@[go_sem] theorem ZBc (n:Int):Zsx (.val (.int .u8 n))=(0≤n∧n≤255):=rfl
@[go_sem] theorem Zwq (xs:List AV) (o:Own):ZaN (.list xs o:AV)=xs:=rfl
@[go_sem] theorem ZxG (v:Value):Zb5 (.val v:AV)=false:=rfl
@[go_sem] theorem Zwh (xs:List AV) (o:Own):Zb5 (.list xs o:AV)=true:=rfl
@[go_sem] theorem Zwn (x:AV) (k:Nat):Zb5 (.elem x k:AV)=false:=rfl
@[go_sem] theorem Zyh (l k:Nat):Zb5 (.box l k:AV)=false:=rfl
@[go_sem] theorem ZwG (f:FuncId) (cs:List AV):Zb5 (.clo f cs:AV)=false:=rfl
@[go_sem] theorem Zxn (cs:List AV):Zb5 (.agg cs:AV)=false:=rfl
@[go_sem] theorem Zyd (vs:List AV):Zb5 (.tup vs:AV)=false:=rfl
@[go_sem] theorem ZwP (k:Nat):Zb5 (.yld k:AV)=false:=rfl
@[go_sem] theorem Zyc (id ver o n:Nat):Zb5 (.vec id ver o n:AV)=false:=rfl
@[go_sem] theorem ZxH (id ver o:Nat):Zb5 (.vel id ver o:AV)=false:=rfl
@[go_sem] theorem Zze (v:Value):Zfb (.val v:AV)=0:=rfl
@[go_sem] theorem ZwT (xs:List AV) (o:Own):Zfb (.list xs o:AV)=0:=rfl
@[go_sem] theorem Zxg (x:AV) (k:Nat):Zfb (.elem x k:AV)=k:=rfl
@[go_sem] theorem ZyG (l k:Nat):Zfb (.box l k:AV)=k:=rfl
@[go_sem] theorem Zzn (f:FuncId) (cs:List AV):Zfb (.clo f cs:AV)=0:=rfl
@[go_sem] theorem ZyC (cs:List AV):Zfb (.agg cs:AV)=0:=rfl
@[go_sem] theorem ZyS (vs:List AV):Zfb (.tup vs:AV)=0:=rfl
@[go_sem] theorem Zyz (k:Nat):Zfb (.yld k:AV)=0:=rfl
@[go_sem] theorem Zyx (id ver o n:Nat):Zfb (.vec id ver o n:AV)=0:=rfl
@[go_sem] theorem Zzc (id ver o:Nat):Zfb (.vel id ver o:AV)=o:=rfl
@[go_sem] theorem ZyX (v:Value):ZmH (.val v:AV)=false:=rfl
@[go_sem] theorem Zxu (xs:List AV) (o:Own):ZmH (.list xs o:AV)=false:=rfl
@[go_sem] theorem ZwI (x:AV) (k:Nat):ZmH (.elem x k:AV)=false:=rfl
@[go_sem] theorem Zyp (l k:Nat):ZmH (.box l k:AV)=true:=rfl
@[go_sem] theorem Zy5 (f:FuncId) (cs:List AV):ZmH (.clo f cs:AV)=false:=rfl
@[go_sem] theorem ZyI (cs:List AV):ZmH (.agg cs:AV)=false:=rfl
@[go_sem] theorem ZyT (vs:List AV):ZmH (.tup vs:AV)=false:=rfl
@[go_sem] theorem Zzp (k:Nat):ZmH (.yld k:AV)=false:=rfl
@[go_sem] theorem Zzr (id ver o n:Nat):ZmH (.vec id ver o n:AV)=false:=rfl
@[go_sem] theorem ZyL (id ver o:Nat):ZmH (.vel id ver o:AV)=true:=rfl
@[go_sem] theorem Zw3 (v:Value):ZbS (.val v:AV)=true:=rfl
@[go_sem] theorem Zwl (xs:List AV) (o:Own):ZbS (.list xs o:AV)=true:=rfl
@[go_sem] theorem ZwC (x:AV) (k:Nat):ZbS (.elem x k:AV)=true:=rfl
@[go_sem] theorem Zxl (l k:Nat):ZbS (.box l k:AV)=true:=rfl
@[go_sem] theorem ZwV (f:FuncId) (cs:List AV):ZbS (.clo f cs:AV)=true:=rfl
@[go_sem] theorem Zx3 (cs:List AV):ZbS (.agg cs:AV)=true:=rfl
@[go_sem] theorem ZxJ (vs:List AV):ZbS (.tup vs:AV)=false:=rfl
@[go_sem] theorem Zx9 (k:Nat):ZbS (.yld k:AV)=true:=rfl
@[go_sem] theorem Zyb (id ver o n:Nat):ZbS (.vec id ver o n:AV)=true:=rfl
@[go_sem] theorem Zxa (id ver o:Nat):ZbS (.vel id ver o:AV)=true:=rfl
@[go_sem] theorem Zyl (v:Value):Zf2 (.val v:AV)=false:=rfl
@[go_sem] theorem Zwy (xs:List AV) (o:Own):Zf2 (.list xs o:AV)=false:=rfl
@[go_sem] theorem ZwE (x:AV) (k:Nat):Zf2 (.elem x k:AV)=false:=rfl
@[go_sem] theorem ZxI (l k:Nat):Zf2 (.box l k:AV)=false:=rfl
@[go_sem] theorem Zw7 (f:FuncId) (cs:List AV):Zf2 (.clo f cs:AV)=false:=rfl
@[go_sem] theorem ZxB (cs:List AV):Zf2 (.agg cs:AV)=true:=rfl
@[go_sem] theorem ZwK (vs:List AV):Zf2 (.tup vs:AV)=false:=rfl
@[go_sem] theorem Zw2 (k:Nat):Zf2 (.yld k:AV)=false:=rfl
@[go_sem] theorem ZwS (id ver o n:Nat):Zf2 (.vec id ver o n:AV)=false:=rfl
@[go_sem] theorem ZxD (id ver o:Nat):Zf2 (.vel id ver o:AV)=false:=rfl
@[go_sem] theorem Zwa (v:Value):AV.cells (.val v:AV)=[.val v]:=rfl
@[go_sem] theorem ZuD (xs:List AV) (o:Own):AV.cells (.list xs o:AV)=[.list xs o]:=rfl
@[go_sem] theorem ZuA (x:AV) (k:Nat):AV.cells (.elem x k:AV)=[.elem x k]:=rfl
@[go_sem] theorem Zvb (l k:Nat):AV.cells (.box l k:AV)=[.box l k]:=rfl
@[go_sem] theorem ZuX (f:FuncId) (cs:List AV):AV.cells (.clo f cs:AV)=[.clo f cs]:=rfl
@[go_sem] theorem ZgW (cs:List AV):AV.cells (.agg cs:AV)=cs:=rfl
@[go_sem] theorem Zvv (vs:List AV):AV.cells (.tup vs:AV)=[.tup vs]:=rfl
@[go_sem] theorem ZuO (k:Nat):AV.cells (.yld k:AV)=[.yld k]:=rfl
@[go_sem] theorem Zv4 (id ver o n:Nat):AV.cells (.vec id ver o n:AV)=[.vec id ver o n]:=rfl
@[go_sem] theorem ZuN (id ver o:Nat):AV.cells (.vel id ver o:AV)=[.vel id ver o]:=rfl
@[go_sem] theorem Zxk (v:Value):AV.pub (.val v:AV) = .val v:=rfl
@[go_sem] theorem Zwi (xs:List AV) (o:Own):AV.pub (.list xs o:AV) = .list xs .none:=rfl
@[go_sem] theorem Zwj (x:AV) (k:Nat):AV.pub (.elem x k:AV) = .elem x k:=rfl
@[go_sem] theorem Zx2 (l k:Nat):AV.pub (.box l k:AV) = .box l k:=rfl
@[go_sem] theorem Zxj (f:FuncId) (cs:List AV):AV.pub (.clo f cs:AV) = .clo f cs:=rfl
@[go_sem] theorem Zyn (cs:List AV):AV.pub (.agg cs:AV) = .agg (cs.map AV.pubCell):=rfl
@[go_sem] theorem Zya (vs:List AV):AV.pub (.tup vs:AV) = .tup vs:=rfl
@[go_sem] theorem Zxv (k:Nat):AV.pub (.yld k:AV) = .yld k:=rfl
@[go_sem] theorem ZxN (id ver o n:Nat):AV.pub (.vec id ver o n:AV) = .vec id ver o n:=rfl
@[go_sem] theorem ZwZ (id ver o:Nat):AV.pub (.vel id ver o:AV) = .vel id ver o:=rfl
@[go_sem] theorem Zut (v:Value):AV.pubCell (.val v:AV) = .val v:=rfl
@[go_sem] theorem Ztf (xs:List AV) (o:Own):AV.pubCell (.list xs o:AV) = .list xs .none:=rfl
@[go_sem] theorem ZsO (x:AV) (k:Nat):AV.pubCell (.elem x k:AV) = .elem x k:=rfl
@[go_sem] theorem Zuo (l k:Nat):AV.pubCell (.box l k:AV) = .box l k:=rfl
@[go_sem] theorem ZtD (f:FuncId) (cs:List AV):AV.pubCell (.clo f cs:AV) = .clo f cs:=rfl
@[go_sem] theorem Zty (cs:List AV):AV.pubCell (.agg cs:AV) = .agg cs:=rfl
@[go_sem] theorem ZtX (vs:List AV):AV.pubCell (.tup vs:AV) = .tup vs:=rfl
@[go_sem] theorem Zuz (k:Nat):AV.pubCell (.yld k:AV) = .yld k:=rfl
@[go_sem] theorem Zt9 (id ver o n:Nat):AV.pubCell (.vec id ver o n:AV) = .vec id ver o n:=rfl
@[go_sem] theorem Zt2 (id ver o:Nat):AV.pubCell (.vel id ver o:AV) = .vel id ver o:=rfl
@[go_sem] theorem ZwF (v:Value):AV.one (.val v:AV)=true:=rfl
@[go_sem] theorem Zwx (xs:List AV) (o:Own):AV.one (.list xs o:AV)=true:=rfl
@[go_sem] theorem Zwp (x:AV) (k:Nat):AV.one (.elem x k:AV)=true:=rfl
@[go_sem] theorem Zx5 (l k:Nat):AV.one (.box l k:AV)=true:=rfl
@[go_sem] theorem Zx1 (f:FuncId) (cs:List AV):AV.one (.clo f cs:AV)=true:=rfl
@[go_sem] theorem Zxo (cs:List AV):AV.one (.agg cs:AV)=false:=rfl
@[go_sem] theorem ZwY (vs:List AV):AV.one (.tup vs:AV)=false:=rfl
@[go_sem] theorem Zxd (k:Nat):AV.one (.yld k:AV)=true:=rfl
@[go_sem] theorem Zxh (id ver o n:Nat):AV.one (.vec id ver o n:AV)=true:=rfl
@[go_sem] theorem ZxC (id ver o:Nat):AV.one (.vel id ver o:AV)=true:=rfl
@[go_sem] theorem Zxc (l o n:Nat):Zor (.box l o) n = .box l (o+n):=rfl
@[go_sem] theorem Zxw (id ver o n:Nat):Zor (.vel id ver o) n = .vel id ver (o+n):=rfl
@[go_sem] theorem Zwv (x:AV) (o n:Nat):Zor (.elem x o) n = .elem x (o+n):=rfl
@[go_sem] theorem ZBo (st:St) (l o:Nat) (xs:List AV):Zqf st (.box l o) xs={ st with boxes:=st.boxes.set l (Zc9 (st.boxes.getD l []) o xs) }:=rfl
@[go_sem] theorem ZAl (a b:AV):AV.sel true a b=a:=by unfold AV.sel;split<;>rfl
@[go_sem] theorem Zy1 (a b:AV):AV.sel false a b=b:=by unfold AV.sel;split<;>rfl
@[go_sem] theorem Zzz (t a b:Bool):AV.sel t (.val (.bool a)) (.val (.bool b)) = .val (.bool (cond t a b)):=by cases t<;>rfl
attribute [go_sem] Zva ZoY ZoO Zri ZnM Zrb ZrB Zrg Zqy Zrz
@[go_sem] theorem ZAY:ZiL []=[]:=rfl
@[go_sem] theorem ZAK (t:Nat) (r:List Operand):ZiL (.tmp t::r)=t::ZiL r:=rfl
@[go_sem] theorem Zzs (v:Value) (r:List Operand):ZiL (.const v::r)=ZiL r:=rfl
@[go_sem] theorem ZzN (f:FuncId) (r:List Operand):ZiL (.func f::r)=ZiL r:=rfl
@[go_sem] theorem Zxr (g:Nat) (r:List Operand):ZiL (.global g::r)=ZiL r:=rfl
@[go_sem] theorem ZCK (p:Prop):(False→p)=True:=eq_true False.elim
@[go_sem] theorem ZC7 (p:Sort _):(p→True)=True:=eq_true fun _=>trivial
@[go_sem] theorem bif_f (b c:Bool):cond b c false=(b&&c):=by cases b<;>rfl
@[go_sem] theorem bif_t (b c:Bool):cond b true c=(b||c):=by cases b<;>rfl
@[go_sem] theorem bif_tt (b c:Bool):cond true b c=b:=rfl
@[go_sem] theorem bif_ff (b c:Bool):cond false b c=c:=rfl
@[go_sem] theorem ZBD (b:Bool):(b == true)=b:=by cases b<;>rfl
@[go_sem] theorem ZAW (b:Bool):(b == false) = !b:=by cases b<;>rfl
attribute [go_sem] List.filterMap_nil List.append_nil List.nil_append List.cons_append Option.toList List.map_cons List.map_nil and_imp not_false_eq_true true_and and_true forall_const imp_self reduceIte List.getElem?_cons_zero List.getElem?_cons_succ Option.bind_some Bool.true_and Bool.and_true Bool.false_and Bool.and_false Bool.or_true Bool.true_or Bool.or_false Bool.false_or List.toList_toArray List.mem_cons List.not_mem_nil or_false false_or forall_eq forall_eq_or_imp decide_eq_true_eq decide_eq_false_iff_not Bool.not_true Bool.not_false Bool.not_not
@[go_sem] theorem not_tt (b:Bool):((!b)=true)=(b=false):=by cases b<;>simp
@[go_sem] theorem not_ff (b:Bool):((!b)=false)=(b=true):=by cases b<;>simp
@[go_sem] theorem and_tt (b c:Bool):((b&&c)=true)=(b=true∧c=true):=Bool.and_eq_true b c
@[go_sem] theorem ZCj (n:Nat):(no_index (@OfNat.ofNat Int n instOfNat)).toNat = @OfNat.ofNat Nat n (instOfNatNat n):=rfl
@[go_sem] theorem ZCP (i:Decidable True) : @decide True i=true:=by cases i with | isTrue h=>rfl | isFalse h=>exact absurd trivial h
@[go_sem] theorem tt_tt' (b:Bool):(b == b)=true:=by cases b<;>rfl
@[go_sem] theorem ff_tt:(false=true)=False:=eq_false (by decide)
@[go_sem] theorem tt_ff:(true=false)=False:=eq_false (by decide)
@[go_sem] theorem Zv2 (B l:List (List AV)) (R:List RowA) (L:List LoopA) (k o:Nat):Zds ⟨B++l,R,L⟩ (.box (B.length+k) o)=decide (k<l.length):=by simp [Zds]
@[go_sem] theorem ZtY (B l:List (List AV)) (R:List RowA) (L:List LoopA) (o:Nat):Zds ⟨B++l,R,L⟩ (.box B.length o)=decide (0<l.length):=by simp [Zds]
@[go_sem] theorem ZA2 (s:St) (x:AV) (o:Nat):Zds s (.elem x o)=ZbS x:=by cases x<;>rfl
@[go_sem] theorem ZsP (B l:List (List AV)) (k:Nat):(B++l).getD (B.length+k) []=l.getD k []:=by
 rw [List.getD_eq_getElem?_getD,List.getElem?_append_right (by omega),Nat.add_sub_cancel_left,List.getD_eq_getElem?_getD]
@[go_sem] theorem ZqO (B l:List (List AV)):(B++l).getD B.length []=l.getD 0 []:=by
 rw [List.getD_eq_getElem?_getD,List.getElem?_append_right (by omega),Nat.sub_self,List.getD_eq_getElem?_getD]
@[go_sem] theorem ZzJ (B l:List (List AV)) (R:List RowA) (L:List LoopA) (k o:Nat):Za7 ⟨B++l,R,L⟩ (.box (B.length+k) o)=l.getD k []:=ZsP B l k
@[go_sem] theorem Zy0 (B l:List (List AV)) (R:List RowA) (L:List LoopA) (o:Nat):Za7 ⟨B++l,R,L⟩ (.box B.length o)=l.getD 0 []:=ZqO B l
@[go_sem] theorem Zyv (s:St) (x:AV) (o:Nat):Za7 s (.elem x o)=x.cells:=rfl
@[go_sem] theorem ZAi (B l:List (List AV)) (k:Nat) (x:List AV):(B++l).set (B.length+k) x=B++l.set k x:=by rw [List.set_append_right _ _ (by omega),Nat.add_sub_cancel_left]
@[go_sem] theorem ZCv (B l:List (List AV)) (x:List AV):(B++l).set B.length x=B++l.set 0 x:=by rw [List.set_append_right _ _ (by omega),Nat.sub_self]
attribute [go_sem] List.take_succ_cons List.take_zero List.take_nil List.drop_succ_cons List.drop_zero List.drop_nil Int.toNat_natCast List.append_assoc List.length_cons List.length_nil Nat.zero_add Nat.add_zero List.set_cons_zero List.set_cons_succ List.getD_cons_zero List.getD_cons_succ
@[go_sem] theorem ZAx (x v:AV):Zc9 [x] 0 [v]=[v]:=rfl
theorem ZaJ {P:Program} {f:FuncId} {fn:Func} (hf:P.funcs[f]? = some fn) (hb:fn.body.isSome=true) (hn:fn.name ≠ "runtime.NumGoroutine"):ZiW P f:=by
 obtain ⟨c,hc⟩:=Option.isSome_iff_exists.1 hb
 exact Ev.Zvj hf hc hn
theorem Zjf {P:Program} {w0:World} {f:FuncId} {args:List AV} {st:St} {r:Value} (hen:ZiW P f) (hr:Zh8 r=true)
  (h:∀ (M:Mem) (w:World) (vals:Array Value),Below w0.heap.size w0 w→RowR w0 M w vals args→Calls P f vals w fun en w'=>en = .returned r∧Below w.heap.size w w'):ACalls P w0 f args st fun v s=>v = .val r∧s=st :=
 ⟨hen,fun M w vals b a=>(h M w vals b.below a).mono fun en w' ⟨h1,h2⟩=>by
  obtain ⟨r1,r2⟩:=b.later h2 w.heap.size 0 (Nat.le_refl _) (.inr rfl)
  exact ⟨r,_,_,st,h1,⟨rfl,rfl⟩,r2,r1,.flat hr⟩⟩
theorem ZpX {w0:World} {M:Mem} {w:World} {vals:Array Value} {us:List Value} (h:RowR w0 M w vals (us.map .val)):vals=us.toArray:=by
 apply Array.ext
 ·
  simpa using h.1
 ·
  intro i h1 h2
  have a:i<us.length:=by simpa using h2
  have:=h.2 i h1 (by simpa using a)
  simp only [List.getElem_map] at this
  simp only [List.getElem_toArray]
  exact this.val_inv.1
@[go_sem] theorem ZpC (P:Program) (st:St) (t:TypeId) (xs:List AV) (x:AV):Zbh P st t (.list xs .full) x=match elT P t with
  | some (el,sz,_,by8)=>if (ZaN x).length=0 then (Zb5 x=true∧0<sz,.list xs .full,st)
   else (Zb5 x=true∧Zb8 P el sz by8 xs.length (ZaN x)∧(∀ y∈xs,y.cells.length=sz),.list (xs++(ZaN x).map AV.pub) (.row st.rows.length),{ st with rows:=st.rows++[.grow (xs.length+(ZaN x).length) sz] })
  | none=>(False,.junk,st):=rfl
@[go_sem] theorem ZqD (P:Program) (st:St) (t:TypeId) (xs:List AV) (id:Nat) (x:AV):Zbh P st t (.list xs (.row id)) x=match elT P t with
  | some (el,sz,_,by8)=>(Zb5 x=true∧Zb8 P el sz by8 xs.length (ZaN x)∧(∀ y∈xs,y.cells.length=sz)∧st.rows[id]? = some (.grow xs.length sz),.list (xs++(ZaN x).map AV.pub) (.row id),{ st with rows:=st.rows.set id (.grow (xs.length+(ZaN x).length) sz) })
  | none=>(False,.junk,st):=rfl
@[go_sem] theorem Zx7 (P:Program) (st:St) (t:TypeId) (ys:List AV) (x:AV):Zbh P st t (.list ys .seed) x=match elT P t with
  | some (el,sz,_,by8)=>(Zb5 x=true∧Zb8 P el sz by8 0 (ZaN x)∧ys.length=0∧0<(ZaN x).length,.vec st.rows.length 0 0 (ZaN x).length,{ st with rows:=st.rows++[.vec 0 sz ((ZaN x).flatMap fun y=>y.pub.cells)] })
  | none=>(False,.junk,st):=rfl
@[go_sem] theorem Zzo (P:Program) (st:St) (t:TypeId) (id ver o n:Nat) (x:AV):Zbh P st t (.vec id ver o n) x=match elT P t with
  | some (el,sz,_,by8)=>match Zj0 st.rows id ver with
   | some (sz',cs)=>(Zb5 x=true∧Zb8 P el sz by8 n (ZaN x)∧sz'=sz∧o=0∧n*sz≤cs.length,.vec id (ver+1) 0 (n+(ZaN x).length),{ st with rows:=st.rows.set id (.vec (ver+1) sz (cs.take (n*sz)++(ZaN x).flatMap fun y=>y.pub.cells)) })
   | none=>(False,.junk,st)
  | none=>(False,.junk,st):=rfl
attribute [go_sem] Zb8
@[go_sem] theorem ZCm (s:St) (id ver o:Nat):Zds s (.vel id ver o)=(Zj0 s.rows id ver).isSome:=rfl
@[go_sem] theorem ZzS (s:St) (id ver o:Nat):Za7 s (.vel id ver o)=match Zj0 s.rows id ver with | some (_,cs)=>cs | none=>[]:=rfl
@[go_sem] theorem Zxe (st:St) (id ver o:Nat) (xs:List AV):Zqf st (.vel id ver o) xs=match Zj0 st.rows id ver with
  | some (sz,cs)=>{ st with rows:=st.rows.set id (.vec ver sz (Zc9 cs o xs)) }
  | none=>st:=rfl
def Grow (Rw:List RowA) (sz:Nat) (xs:List AV) (o:Own) (r:List RowA):Prop:=(xs=[]∧o = .full∧r=[])∨(o = .row Rw.length∧r=[.grow xs.length sz])
theorem Grow.nil (Rw:List RowA) (sz:Nat):Grow Rw sz [] .full [] := .inl ⟨rfl,rfl,rfl⟩
theorem Grow.more (Rw:List RowA) (sz:Nat) (xs:List AV) (n:Nat) (h:xs.length=n):Grow Rw sz xs (.row Rw.length) [.grow n sz] := .inr ⟨rfl,by rw [h]⟩
theorem Grow.len {Rw r:List RowA} {sz:Nat} {xs:List AV} {o:Own} (h:Grow Rw sz xs o r):r.length≤1:=by
 rcases h with ⟨_,_,rfl⟩ | ⟨_,rfl⟩<;>simp
theorem Zpo {P:Program} {t el:TypeId} {sz by8:Nat} {ag:Bool} {Rw r:List RowA} {xs:List AV} {o:Own} (he:elT P t=some (el,sz,ag,by8)) (hz:(ZeE P el).isSome=true) (hs:0<sz) (h:Grow Rw sz xs o r) (B:List (List AV)) (L:List LoopA) (y:AV) (o2:Own) :
  Zbh P ⟨B,Rw++r,L⟩ t (.list xs o) (.list [y] o2)=(((xs.length+1)*by8≤140737488355328∧xs.length+1≤4611686018427387904∧(∀ y∈xs,y.cells.length=sz)∧y.cells.length=sz∧ZbS y=true),.list (xs++[y.pub]) (.row Rw.length),⟨B,Rw++[.grow (xs.length+1) sz],L⟩):=by
 rcases h with ⟨rfl,rfl,rfl⟩ | ⟨rfl,rfl⟩
 ·
  rw [ZpC,he];simp [ZaN,Zb5,Zb8,hz,hs]
 ·
  rw [ZqD,he];simp [ZaN,Zb5,Zb8,hz,hs]
  exact ⟨fun ⟨⟨a,b,c,d⟩,e⟩=>⟨a,b,e,c,d⟩,fun ⟨a,b,e,c,d⟩=>⟨⟨a,b,c,d⟩,e⟩⟩
def ZxF (c:Option IntKind × Bool) (x y:AV):Prop :=
 match x,y with
 | .val (.int k _),.val (.int k' _)=>c.1.isSome=true∧k=k'
 | .val (.string _),.val (.string _)=>c=(none,true)
 | .val (.bool _),.val (.bool _)=>c=(none,false)
 | _,_=>False
def Zzu (P:Program) (t:TypeId):Option (Option IntKind × Bool) :=
 match ZrH P t with
 | some k=>some (some k,false)
 | none=>if ZmO P t=true then some (none,true) else if Zmq P t=true then some (none,false) else none
def Zpg (P:Program):List Field→Nat→Option (List (Option IntKind × Bool))
 | [],_=>some []
 | f::fs,i=>if f.name ≠ "_" ∧ f.offset=i∧tyT P f.type=some (1,false) then
   match Zzu P f.type,Zpg P fs (i+1) with
   | some k,some ks=>some (k::ks)
   | _,_=>none
  else none
def ZyU (P:Program) (t:TypeId):Option (List (Option IntKind × Bool)) :=
 match eqT P t with
 | some fs=>Zpg P fs 0
 | none=>none
def obK:List (Option IntKind × Bool)→List AV→List AV→Prop
 | [],[],[]=>True
 | k::ks,x::xs,y::ys=>ZxF k x y∧obK ks xs ys
 | _,_,_=>False
theorem Zwc {P:Program} {t:TypeId} {k:Option IntKind × Bool} (h:Zzu P t=some k) (x y:AV):Zij P t x y=ZxF k x y:=by
 have e1:∀ j,ZrH P t=some j→ZmO P t=false∧Zmq P t=false:=fun j hj=>by
  unfold ZrH at hj
  unfold ZmO Zmq
  split at hj
  ·
   rename_i q;rw [q];exact ⟨rfl,rfl⟩
  ·
   cases hj
 have e2:ZmO P t=true→Zmq P t=false:=fun hj=>by
  unfold ZmO at hj
  unfold Zmq
  split at hj
  ·
   rename_i q;rw [q]
  ·
   cases hj
 unfold Zzu at h
 unfold Zij ZxF
 cases hi:ZrH P t with
 | some j =>
  obtain ⟨q1,q2⟩:=e1 j hi
  rw [hi] at h
  cases h
  rw [q1,q2]
  split<;>simp
 | none =>
  rw [hi] at h
  simp only at h
  by_cases hs:ZmO P t=true
  ·
   rw [if_pos hs] at h
   cases h
   rw [hs,e2 hs]
   split<;>simp
  ·
   rw [if_neg hs] at h
   have a:ZmO P t=false:=by simpa using hs
   by_cases hb:Zmq P t=true
   ·
    rw [if_pos hb] at h
    cases h
    rw [a,hb]
    split<;>simp
   ·
    rw [if_neg hb] at h;cases h
theorem Zu2 {P:Program}:∀ (fs:List Field) (i:Nat) (ks:List (Option IntKind × Bool)),Zpg P fs i=some ks→∀ xs ys,Zx6 P fs i xs ys=obK ks xs ys
 | [],i,ks,h,xs,ys=>by
  cases h
  cases xs<;>cases ys<;>simp [Zx6,obK]
 | f::fs,i,ks,h,xs,ys=>by
  unfold Zpg at h
  split at h
  ·
   rename_i q
   split at h
   ·
    rename_i k ks' h1 h2
    cases h
    cases xs with
    | nil=>cases ys<;>simp [Zx6,obK]
    | cons x xs=>cases ys with
     | nil=>simp [Zx6,obK]
     | cons y ys =>
      simp only [Zx6,obK,Zu2 fs (i+1) ks' h2 xs ys,Zwc h1,q,true_and]
      simp [q.1]
   ·
    cases h
  ·
   cases h
theorem Zvk {P:Program} {t:TypeId} {ks:List (Option IntKind × Bool)} (h:ZyU P t=some ks) (xs ys:List AV):Zrj P .eql t xs ys=(obK ks xs ys,ZpQ xs ys):=by
 unfold ZyU at h
 split at h
 ·
  rename_i fs q
  simp only [Zrj,q,Zu2 fs 0 ks h]
 ·
  cases h
attribute [go_sem] ZxF obK
section
variable {P:Program} {w0:World} {n:Nat} {M:Mem} {e:Env} {st:St} {a:Act} {w:World}
theorem R.seed {v:Value} (h:R w0 M w v (.list [] .full)):R w0 M w v (.list [] .seed):=by
 cases h with
 | nil ho=>exact .nil (fun id=>by simp)
 | emp ho=>exact .emp (fun id=>by simp)
 | list sz us hc hm hcell hu ho=>exact .list (xs:=[]) sz us hc hm hcell hu ho
theorem Zk8 {M0:Mem} {W0:World} {ro:Option Nat} {Q:AQ} {c:Code} (e':Env) (st':St)
  (hc:∀ M a w,Rel w0 n M e st a w→∃ M',Ext w0 M w M' w∧Rel w0 n M' e' st' a w) (h:awp P w0 n M0 W0 ro c Q e' st'):awp P w0 n M0 W0 ro c Q e st:=by
 intro m M a w hr
 obtain ⟨M',h1,h2⟩:=hc M a w hr.rel
 exact h m M' a w ⟨h2,hr.ext.trans h1,hr.marks.later h1 hr.rel.st⟩
theorem RelSt.setBox (h:RelSt w0 M st w) {l i:Nat} {cs:List AV} (hl:st.boxes[l]? = some cs) {x y:AV} (hi:cs[i]? = some x) (hone:y.one=true) (hR:∀ v,R w0 M w v x→R w0 M w v y) :
  RelSt w0 M { st with boxes:=st.boxes.set l (cs.set i y) } w:=by
 have b:l<st.boxes.length:=(List.getElem?_eq_some_iff.1 hl).1
 have d:i<cs.length:=(List.getElem?_eq_some_iff.1 hi).1
 refine ⟨h.below,by simp [h.N],h.NR,h.top,h.inj,fun l' a hl'=>?_,h.row,h.rowinj,h.loop⟩
 by_cases q:l'=l
 ·
  subst q
  rw [List.getElem?_set_self b] at hl'
  cases hl'
  obtain ⟨a1,a2,c,ty,a3,a4,a5,a6⟩:=h.box l' cs hl
  refine ⟨a1,a2,c,ty,a3,by simp [a4],fun z hz=>?_,fun j h1 h2=>?_⟩
  ·
   rcases List.mem_or_eq_of_mem_set hz with hz | rfl
   ·
    exact a5 z hz
   ·
    exact hone
  ·
   by_cases e:j=i
   ·
    subst e
    rw [List.getElem_set_self]
    obtain ⟨q1,q2⟩:=List.getElem?_eq_some_iff.1 hi
    exact hR _ (q2▸a6 j h1 q1)
   ·
    rw [List.getElem_set_ne (Ne.symm e)]
    exact a6 j h1 (by simpa using h2)
 ·
  rw [List.getElem?_set_ne (Ne.symm q)] at hl'
  exact h.box l' a hl'
theorem Zl8 {M0:Mem} {W0:World} {ro:Option Nat} {Q:AQ} {c:Code} (l i:Nat) {cs:List AV} (hl:st.boxes[l]? = some cs) (hi:cs[i]? = some (.list [] .full)) (h:awp P w0 n M0 W0 ro c Q e { st with boxes:=st.boxes.set l (cs.set i (.list [] .seed)) }):awp P w0 n M0 W0 ro c Q e st :=
 Zk8 _ _ (fun M a w hr=>⟨M,.refl _ _ _,hr.st.setBox hl hi rfl (fun v hv=>hv.seed),hr.size,hr.env⟩) h
def ZrK (sz:Nat) (ag:Bool) (cs:List AV) (o m:Nat):List AV:=(List.range m).map fun i=>Zn1 ag cs ((o+i)*sz) sz
theorem Zr0 (sz:Nat) (ag:Bool) (cs:List AV) (o m:Nat):(ZrK sz ag cs o m).length=m:=by simp [ZrK]
def Mem.freeze (M:Mem) (id k:Nat):Mem:={ M with fr:=fun i=>if i=id then M.fr i+1 else M.fr i,top:=fun b=>if b=M.blk id then k else M.top b }
theorem RelSt.freeze (h:RelSt w0 M st w) {id ver sz:Nat} {cs:List AV} (hid:st.rows[id]? = some (.vec ver sz cs)) :
  Ext w0 M w (M.freeze id cs.length) w∧RelSt w0 (M.freeze id cs.length) { st with rows:=st.rows.set id (.dead (ver+1)) } w:=by
 have a:id<st.rows.length:=(List.getElem?_eq_some_iff.1 hid).1
 have d:id<M.NR:=by rw [h.NR];exact a
 obtain ⟨f1,f2,f3,f4,f5,f6,f7,c,ty,f8,f9,n,m,p⟩:=h.row id _ hid
 have hx:Ext w0 M w (M.freeze id cs.length) w :=
  ⟨Nat.le_refl _,fun _ _=>rfl,Nat.le_refl _,fun i hi=>by
   simp only [Mem.freeze]
   by_cases q:i=id
   ·
    rw [if_pos q];exact ⟨Nat.le_succ _,fun e=>absurd e (by omega)⟩
   ·
    rw [if_neg q];exact ⟨Nat.le_refl _,fun _=>⟨trivial,trivial,trivial⟩⟩,fun b r v hi hc=>⟨hc,hi.imp (fun q=>q) fun q=>by
    simp only [Mem.freeze]
    split
    ·
     rename_i e;rw [e,f4] at q;omega
    ·
     exact q⟩,Nat.le_refl _,Nat.le_refl _,fun _ _=>rfl,fun _ h1 h2=>absurd h2 (Nat.not_lt.2 h1),fun _ _ h _ _=>h⟩
 refine ⟨hx,h.below,h.N,by simp [Mem.freeze,h.NR],fun b hb=>?_,h.inj,fun l f hl=>?_,fun i x hi=>?_,h.rowinj,h.loop.mono hx rfl (KeepsObj.refl _)⟩
 ·
  have o:=(Array.getElem?_eq_some_iff.1 f8).1
  simp only [Mem.freeze]
  rw [if_neg (by omega)]
  exact h.top b hb
 ·
  obtain ⟨a1,a2,c,ty,a3,a4,a5,a6⟩:=h.box l f hl
  have g:l<M.N:=by rw [h.N];exact (List.getElem?_eq_some_iff.1 hl).1
  refine ⟨a1,?_,c,ty,a3,a4,a5,fun i h1 h2=>(a6 i h1 h2).mono hx⟩
  show (M.freeze id cs.length).top (M.bx l)=0
  simp only [Mem.freeze]
  rw [if_neg (f5 l g)]
  exact a2
 ·
  by_cases q:i=id
  ·
   subst q
   rw [List.getElem?_set_self a] at hi
   cases hi
   exact ⟨by simp [Mem.freeze,f1],f3,f5,(Array.getElem?_eq_some_iff.1 f8).1⟩
  ·
   rw [List.getElem?_set_ne (Ne.symm q)] at hi
   have k:i<M.NR:=by rw [h.NR];exact (List.getElem?_eq_some_iff.1 hi).1
   have hk:=h.row i x hi
   have j:M.blk i≠M.blk id:=fun e=>q (h.rowinj i id k d e)
   exact hk.keep hx (by simp [Mem.freeze,q]) rfl rfl rfl (by simp [Mem.freeze,j]) hk.ne rfl
theorem R.freeze (h:RelSt w0 M st w) {id ver sz:Nat} {cs:List AV} (hid:st.rows[id]? = some (.vec ver sz cs)) {ag:Bool} (hag:ag=true∨sz=1) {o m:Nat} (hb:(o+m)*sz≤cs.length) {v:Value} (hv:R w0 M w v (.vec id ver o m)) :
  R w0 (M.freeze id cs.length) w v (.list (ZrK sz ag cs o m) .none):=by
 obtain ⟨hx,_⟩:=h.freeze hid
 obtain ⟨f1,f2,f3,f4,f5,f6,f7,c,ty,f8,f9,x,k,l⟩:=h.row id _ hid
 cases hv with
 | @vec _ _ _ _ p cap hi hver hh =>
 obtain ⟨rfl,u,hm⟩:=hh f1.symm
 have hl:(ZrK sz ag cs o m).length=m:=Zr0 _ _ _ _ _
 have d:∀ i,i<m→(o+i)*sz+sz≤cs.length:=fun i hi=>by
  have:(o+i+1)*sz≤(o+m)*sz:=Nat.mul_le_mul_right _ (by omega)
  rw [Nat.succ_mul] at this
  omega
 let us:Nat→Value:=fun i=>if ag then .agg ((List.range sz).map fun j=>c.getD ((o+i)*sz+j) undef).toArray else c.getD ((o+i)*sz) undef
 have t:∀ i,i<m→R w0 M w (us i) (Zn1 ag cs ((o+i)*sz) sz):=fun i hi=>by
  refine Zna (f:=fun j=>c.getD ((o+i)*sz+j) undef) k (d i hi) hag (fun j hj=>?_)
  have a:(o+i)*sz+j<c.size:=by omega
  rw [Array.getD_eq_getD_getElem?,Array.getElem?_eq_getElem a]
  exact l _ a hj
 have g:∀ i,i<m→(us i).cells.size=sz∧∀ j,j<sz→(us i).cells[j]? = c[(o+i)*sz+j]? := fun i hi=>by
  by_cases q:ag=true
  ·
   have e:us i = .agg ((List.range sz).map fun j=>c.getD ((o+i)*sz+j) undef).toArray:=by simp [us,q]
   rw [e]
   refine ⟨by simp [Value.cells],fun j hj=>?_⟩
   have a:(o+i)*sz+j<c.size:=by have:=d i hi;omega
   simp [Value.cells,hj,Array.getElem?_eq_getElem a]
  ·
   have n:sz=1:=hag.resolve_left q
   have e:us i=c.getD ((o+i)*sz) undef:=by simp [us,q]
   have a:(o+i)*sz<c.size:=by have:=d i hi;omega
   have s:(o+i)*sz<cs.length:=by have:=d i hi;omega
   have r:=(l _ a s).cells_one (k _ (List.getElem_mem _))
   rw [e,Array.getD_eq_getD_getElem?,Array.getElem?_eq_getElem a,Option.getD_some,r.1]
   refine ⟨by simp [n],fun j hj=>?_⟩
   obtain rfl:j=0:=by omega
   simp [Array.getElem?_eq_getElem a]
 have:=R.list (w0:=w0) (M:=M.freeze id cs.length) (w:=w) (b:=M.blk id) (off:=o*sz) (cap:=cap) (xs:=ZrK sz ag cs o m) (o := .none) sz us (by rw [hl];exact hm) (by omega)
  (fun i hi=>by
   rw [hl] at hi
   refine ⟨(g i hi).1,fun j hj=>⟨.inr ?_,?_⟩⟩
   ·
    have h1:=d i hi
    rw [Nat.add_mul] at h1
    simp only [Mem.freeze,if_true]
    omega
   ·
    rw [(g i hi).2 j hj,Nat.add_mul,cell_of_row w _ _ c ty _ f8]) (fun i hi=>by
   rw [hl] at hi
   simp only [ZrK,List.getElem_map,List.getElem_range]
   exact (t i hi).mono hx) trivial
 rw [hl] at this
 rw [f2]
 exact this
theorem Zj6 {M0:Mem} {W0:World} {ro:Option Nat} {Q:AQ} {c:Code} (l i:Nat) {id ver sz o m:Nat} {bs cs:List AV} (ag:Bool) (hl:st.boxes[l]? = some bs) (hi:bs[i]? = some (.vec id ver o m)) (hid:Zj0 st.rows id ver=some (sz,cs)) (hag:ag=true∨sz=1) (hb:(o+m)*sz≤cs.length)
  (h:awp P w0 n M0 W0 ro c Q e { st with boxes:=st.boxes.set l (bs.set i (.list (ZrK sz ag cs o m) .none)),rows:=st.rows.set id (.dead (ver+1)) }):awp P w0 n M0 W0 ro c Q e st :=
 Zk8 _ _ (fun M a w hr=>by
  obtain ⟨h1,h2⟩:=hr.st.freeze (Zfl hid)
  have b:=hr.st.box l bs hl
  obtain ⟨a1,a2,c,ty,a3,a4,a5,a6⟩:=b
  obtain ⟨q1,q2⟩:=List.getElem?_eq_some_iff.1 hi
  have hR:R w0 (M.freeze id cs.length) w (c[i]'(by omega)) (.list (ZrK sz ag cs o m) .none):=R.freeze hr.st (Zfl hid) hag hb (q2▸a6 i (by omega) q1)
  have g:l<st.boxes.length:=(List.getElem?_eq_some_iff.1 hl).1
  refine ⟨_,h1,⟨h2.below,by simpa using h2.N,h2.NR,h2.top,h2.inj,fun l' f hl'=>?_,h2.row,h2.rowinj,h2.loop⟩,hr.size,fun s x hs=>(hr.env s x hs).mono h1⟩
  by_cases q:l'=l
  ·
   subst q
   simp only [List.getElem?_set_self g,Option.some.injEq] at hl'
   subst hl'
   obtain ⟨b1,b2,c',d,b3,b4,b5,b6⟩:=h2.box l' bs hl
   have ec:c'=c:=by
    have:=b3.symm.trans a3
    simp only [Option.some.injEq,Obj.cells.injEq] at this
    exact this.1
   subst ec
   refine ⟨b1,b2,c',d,b3,by simp [b4],fun z hz=>?_,fun j h3 h4=>?_⟩
   ·
    rcases List.mem_or_eq_of_mem_set hz with hz | rfl
    ·
     exact b5 z hz
    ·
     rfl
   ·
    by_cases e:j=i
    ·
     subst e
     rw [List.getElem_set_self]
     exact hR
    ·
     rw [List.getElem_set_ne (Ne.symm e)]
     exact b6 j h3 (by simpa using h4)
  ·
   simp only [List.getElem?_set_ne (Ne.symm q)] at hl'
   exact h2.box l' f hl') h
end
def AV.pubA:AV→AV
 | .tup vs => .tup (vs.map AV.pub)
 | .agg cs => .agg (cs.map AV.pubCell)
 | .list xs _ => .list xs .none
 | x=>x
section
variable (vs cs xs:List AV) (o:Own) (v:Value) (x:AV) (i j k m:Nat)
@[go_sem] theorem ZCJ:AV.pubA (.tup vs) = .tup (vs.map AV.pub):=rfl
@[go_sem] theorem ZCO:AV.pubA (.agg cs) = .agg (cs.map AV.pubCell):=rfl
@[go_sem] theorem ZBJ:AV.pubA (.list xs o) = .list xs .none:=rfl
@[go_sem] theorem Zil:AV.pubA (.val v) = .val v:=rfl
@[go_sem] theorem ZBp:AV.pubA (.elem x i) = .elem x i:=rfl
@[go_sem] theorem ZCL:AV.pubA (.box i j) = .box i j:=rfl
@[go_sem] theorem ZCH:AV.pubA (.clo i xs) = .clo i xs:=rfl
@[go_sem] theorem ZCq:AV.pubA (.yld i) = .yld i:=rfl
@[go_sem] theorem ZCA:AV.pubA (.vec i j k m) = .vec i j k m:=rfl
@[go_sem] theorem ZCt:AV.pubA (.vel i j k) = .vel i j k:=rfl
@[go_sem] theorem ZDj:AV.pub (.agg cs) = .agg (cs.map AV.pubCell):=rfl
@[go_sem] theorem ZCx:AV.pub (.list xs o) = .list xs .none:=rfl
@[go_sem] theorem ZDc:AV.pub (.val v) = .val v:=rfl
@[go_sem] theorem ZCy:AV.pub (.elem x i) = .elem x i:=rfl
@[go_sem] theorem ZCX:AV.pub (.box i j) = .box i j:=rfl
@[go_sem] theorem ZC9:AV.pub (.clo i xs) = .clo i xs:=rfl
@[go_sem] theorem ZC1:AV.pub (.yld i) = .yld i:=rfl
@[go_sem] theorem ZDu:AV.pub (.vec i j k m) = .vec i j k m:=rfl
@[go_sem] theorem ZDk:AV.pub (.vel i j k) = .vel i j k:=rfl
@[go_sem] theorem ZyY:AV.pubCell (.list xs o) = .list xs .none:=rfl
@[go_sem] theorem ZzP:AV.pubCell (.val v) = .val v:=rfl
@[go_sem] theorem Zyu:AV.pubCell (.elem x i) = .elem x i:=rfl
@[go_sem] theorem ZzO:AV.pubCell (.box i j) = .box i j:=rfl
@[go_sem] theorem Zz1:AV.pubCell (.clo i xs) = .clo i xs:=rfl
@[go_sem] theorem ZAg:AV.pubCell (.yld i) = .yld i:=rfl
@[go_sem] theorem ZAh:AV.pubCell (.vec i j k m) = .vec i j k m:=rfl
@[go_sem] theorem ZAc:AV.pubCell (.vel i j k) = .vel i j k:=rfl
end
theorem R.pubA {w0:World} {M:Mem} {w:World} {v:Value} {x:AV} (h:R w0 M w v x):R w0 M w v x.pubA:=by
 cases h with
 | tup hl h=>exact .tup (by simpa using hl) (fun i a b=>by simp only [List.getElem_map];exact (h i a (by simpa using b)).pub)
 | flat hf=>exact (R.flat hf).pub
 | agg hl h1 h=>exact (R.agg hl h1 h).pub
 | nil ho=>exact (R.nil ho).pub
 | emp ho=>exact (R.emp ho).pub
 | list sz us hc hm hcell hu ho=>exact (R.list sz us hc hm hcell hu ho).pub
 | elem u k hcell hu=>exact (R.elem u k hcell hu).pub
 | box hl=>exact (R.box hl).pub
 | clo hl h=>exact (R.clo hl h).pub
 | yld hk=>exact (R.yld hk).pub
 | vec hi hv h=>exact (R.vec hi hv h).pub
 | vel hi hv h=>exact (R.vel hi hv h).pub
section
variable {P:Program} {w0:World} {st:St} {f:FuncId}
theorem ACalls.pub {args args':List AV} {Post:AV→St→Prop} (h:ACalls P w0 f args' st Post) (he:args.map AV.pubA=args'):ACalls P w0 f args st Post:=by
 subst he
 refine ⟨h.1,fun M w d e c=>h.2 M w d e ?_⟩
 obtain ⟨hl,hr⟩:=c
 refine ⟨by simpa using hl,fun i a b=>?_⟩
 simp only [List.getElem_map]
 exact (hr i a (by simpa using b)).pubA
theorem Zac {c d:Bool} {cs args args':List AV} {k:AV→St→Prop} (v:AV)
  (h:ACalls P w0 f args' st fun r s=>r=v∧s=st) (he:(args++cs).map AV.pubA=args') (hk:k v st):Zlg P w0 c d (.clo f cs) args st k := .inl ⟨v,fun _=>h.pub he,hk⟩
theorem Zdv {c d:Bool} {cs args args':List AV} {k:AV→St→Prop} (v:AV)
  (h:c=true→ACalls P w0 f args' st fun r s=>r=v∧s=st) (he:(args++cs).map AV.pubA=args') (hk:k v st):Zlg P w0 c d (.clo f cs) args st k := .inl ⟨v,fun q=>(h q).pub he,hk⟩
theorem Zbc {cs args args':List AV} {k:AV→St→Prop} (Post:AV→St→Prop)
  (h:ACalls P w0 f args' st Post) (he:(args++cs).map AV.pubA=args') (hk:∀ v s,Post v s→k v s):Zlg P w0 true false (.clo f cs) args st k := .inr ⟨rfl,Post,fun _=>h.pub he,fun v s h1 _=>hk v s (h1 rfl)⟩
def finP (st:St) (Post:AV→St→Prop) (r:AV) (s:St):Prop :=
 st.boxes.length≤s.boxes.length∧st.rows.length≤s.rows.length∧st.loops.length≤s.loops.length∧Calm st.boxes.length st.rows.length st.loops.length (s.cut st.boxes.length st.rows.length st.loops.length) ∧
  Under st.boxes.length st.rows.length st.loops.length r.pubA∧Post r.pubA (s.cut st.boxes.length st.rows.length st.loops.length)
theorem ACalls.finP {args:List AV} {Post:AV→St→Prop} (h:ACalls P w0 f args st (finP st Post)):ACalls P w0 f args st Post:=by
 refine ⟨h.1,fun M w b a c=>(h.2 M w b a c).mono ?_⟩
 rintro en w' ⟨v,M',r,d,h1,⟨b1,b2,b3,b4,b5,b6⟩,h3,h4,h5⟩
 exact ⟨v,M'.cut st.boxes.length st.rows.length st.loops.length,r.pubA,_,h1,b6,h3.cut (by have:=a.N;omega) (by have:=a.NR;omega) (by have:=a.loop.NL;omega) (by rw [h4.loop.NL];exact b3),h4.cut b1 b2 b3 b4,h5.pubA.cut b5⟩
theorem Zlo {B:List (List AV)} {Rw:List RowA} {L:List LoopA} {s:St} {Post:AV→St→Prop} {v:AV} (hc:Ev.Calm B.length Rw.length L.length ⟨B,Rw,L⟩) (h1:B <+: s.boxes) (h2:Rw <+: s.rows) (h3:L <+: s.loops) (hu:Under B.length Rw.length L.length v.pubA) (hp:Post v.pubA ⟨B,Rw,L⟩) :
  Go.Ev.finP ⟨B,Rw,L⟩ Post v s:=by
 obtain ⟨b,e1⟩:=h1
 obtain ⟨r,e2⟩:=h2
 obtain ⟨l,e3⟩:=h3
 obtain ⟨sb,sr,sl⟩:=s
 simp only at e1 e2 e3
 subst e1 e2 e3
 have e:St.cut ⟨B++b,Rw++r,L++l⟩ B.length Rw.length L.length=⟨B,Rw,L⟩:=by simp [St.cut]
 exact ⟨by simp,by simp,by simp,by simp only [e];exact hc,hu,by simp only [e];exact hp⟩
end
@[go_sem] theorem ZzA (xs c:List AV) (h:xs.length=c.length):Zc9 xs 0 c=c:=by simp [Zc9,h]
end Go.Ev
namespace Go.Proofs
open Go.Shelf
def Tryz.lays106_ren:Go.Shelf.Ren:=⟨fun | 106=>141 | 213=>197 | 265=>228 | n=>n,fun | 9=>9 | 3=>3 | n=>n,fun | n=>n⟩
theorem Tryz.lays106:Go.Proofs.Lays.n106 Tryz.prog Tryz.lays106_ren:={
 mixed:=by kernel_rfl
 f106:=Tryz.func141.trans (congrArg some (by kernel_rfl))
 f213:=Tryz.func197.trans (congrArg some (by kernel_rfl))
 f265:=Tryz.func228.trans (congrArg some (by kernel_rfl))
 t3:=Tryz.underlying3
 a3:=Tryz.isAgg3
 z3:=Tryz.sizeOf3
 v3:=Tryz.zeroValue3
 t9:=Tryz.underlying9
 a9:=Tryz.isAgg9
 z9:=Tryz.sizeOf9
 v9:=Tryz.zeroValue9 }
open Go.RowKit in
theorem Tryz.strings_Compare (a b:ByteArray) (w:World) :
  Calls Tryz.prog 141 #[.string a,.string b] w fun e w'=>e = .returned (.int .i64 (Lib.compareBytes a.data.toList b.data.toList))∧w'=w:=Any.strings_Compare Tryz.lays106 a b w
def Tryz.laysM171_ren:Go.Shelf.Ren:=⟨fun | 171=>157 | 243=>201 | 246=>230 | 283=>243 | 284=>244 | 285=>245 | 286=>246 | 129=>258 | 317=>259 | 318=>260 | 319=>261 | 320=>262 | 337=>268 | 338=>269 | n=>n,fun | 3=>3 | 9=>9 | 2=>2 | 4=>4 | 171=>229 | 0=>0 | 53=>216 | 37=>138 | 5=>5 | 173=>232 | 212=>247 | 51=>220 | 20=>20 | 213=>248 | 46=>180 | 232=>256 | 233=>257 | n=>n,fun | 17=>3 | 18=>4 | 19=>5 | n=>n⟩
theorem Tryz.laysM171:Go.Proofs.LaysM.n171 Tryz.prog Tryz.laysM171_ren:={
 mixed:=by kernel_rfl
 f129:=Tryz.func258.trans (congrArg some (by kernel_rfl))
 f171:=Tryz.func157.trans (congrArg some (by kernel_rfl))
 f243:=Tryz.func201.trans (congrArg some (by kernel_rfl))
 f246:=Tryz.func230.trans (congrArg some (by kernel_rfl))
 f283:=Tryz.func243.trans (congrArg some (by kernel_rfl))
 f284:=Tryz.func244.trans (congrArg some (by kernel_rfl))
 f285:=Tryz.func245.trans (congrArg some (by kernel_rfl))
 f286:=Tryz.func246.trans (congrArg some (by kernel_rfl))
 f317:=Tryz.func259.trans (congrArg some (by kernel_rfl))
 f318:=Tryz.func260.trans (congrArg some (by kernel_rfl))
 f319:=Tryz.func261.trans (congrArg some (by kernel_rfl))
 f320:=Tryz.func262.trans (congrArg some (by kernel_rfl))
 f337:=Tryz.func268.trans (congrArg some (by kernel_rfl))
 f338:=Tryz.func269.trans (congrArg some (by kernel_rfl))
 t0:=Tryz.underlying0
 a0:=Tryz.isAgg0
 z0:=Tryz.sizeOf0
 v0:=Tryz.zeroValue0
 t2:=Tryz.underlying2
 a2:=Tryz.isAgg2
 z2:=Tryz.sizeOf2
 v2:=Tryz.zeroValue2
 t3:=Tryz.underlying3
 a3:=Tryz.isAgg3
 z3:=Tryz.sizeOf3
 v3:=Tryz.zeroValue3
 t4:=Tryz.underlying4
 a4:=Tryz.isAgg4
 z4:=Tryz.sizeOf4
 v4:=Tryz.zeroValue4
 t5:=Tryz.underlying5
 a5:=Tryz.isAgg5
 z5:=Tryz.sizeOf5
 v5:=Tryz.zeroValue5
 t9:=Tryz.underlying9
 a9:=Tryz.isAgg9
 z9:=Tryz.sizeOf9
 v9:=Tryz.zeroValue9
 t20:=Tryz.underlying20
 a20:=Tryz.isAgg20
 z20:=Tryz.sizeOf20
 v20:=Tryz.zeroValue20
 t37:=Tryz.underlying138
 a37:=Tryz.isAgg138
 z37:=Tryz.sizeOf138
 v37:=Tryz.zeroValue138
 t46:=Tryz.underlying180
 a46:=Tryz.isAgg180
 z46:=Tryz.sizeOf180
 v46:=Tryz.zeroValue180
 t51:=Tryz.underlying220
 a51:=Tryz.isAgg220
 z51:=Tryz.sizeOf220
 v51:=Tryz.zeroValue220
 t53:=Tryz.underlying216
 a53:=Tryz.isAgg216
 z53:=Tryz.sizeOf216
 v53:=Tryz.zeroValue216
 t171:=Tryz.underlying229
 a171:=Tryz.isAgg229
 z171:=Tryz.sizeOf229
 v171:=Tryz.zeroValue229
 t173:=Tryz.underlying232
 a173:=Tryz.isAgg232
 z173:=Tryz.sizeOf232
 v173:=Tryz.zeroValue232
 t212:=Tryz.underlying247
 a212:=Tryz.isAgg247
 z212:=Tryz.sizeOf247
 v212:=Tryz.zeroValue247
 t213:=Tryz.underlying248
 a213:=Tryz.isAgg248
 z213:=Tryz.sizeOf248
 t232:=Tryz.underlying256
 a232:=Tryz.isAgg256
 z232:=Tryz.sizeOf256
 v232:=Tryz.zeroValue256
 t233:=Tryz.underlying257
 a233:=Tryz.isAgg257
 z233:=Tryz.sizeOf257
 v233:=Tryz.zeroValue257
 g17:=by kernel_rfl
 g18:=by kernel_rfl
 g19:=by kernel_rfl
 i0:=by kernel_rfl
 i2:=by kernel_rfl
 i3:=by kernel_rfl
 i4:=by kernel_rfl
 i5:=by kernel_rfl
 i9:=by kernel_rfl
 i20:=by kernel_rfl
 i37:=by kernel_rfl
 i46:=by kernel_rfl
 i51:=by kernel_rfl
 i53:=by kernel_rfl
 i171:=by kernel_rfl
 i173:=by kernel_rfl
 i212:=by kernel_rfl
 i232:=by kernel_rfl
 i233:=by kernel_rfl
 m17:=by kernel_rfl
 m18:=by kernel_rfl
 m19:=by kernel_rfl }
def Tryz.laysValid_ren:Go.Shelf.Ren:=⟨fun | 196=>115 | 259=>186 | n=>n,fun | 9=>9 | 4=>4 | 3=>3 | 5=>5 | 12=>12 | 119=>176 | 0=>0 | 46=>180 | 139=>179 | 138=>178 | 53=>216 | n=>n,fun | 3=>0 | 4=>1 | n=>n⟩
theorem Tryz.laysValid:Go.Proofs.Lays.n196 Tryz.prog Tryz.laysValid_ren:={
 mixed:=by kernel_rfl
 f196:=Tryz.func115.trans (congrArg some (by kernel_rfl))
 f259:=Tryz.func186.trans (congrArg some (by kernel_rfl))
 t0:=Tryz.underlying0
 a0:=Tryz.isAgg0
 z0:=Tryz.sizeOf0
 v0:=Tryz.zeroValue0
 t3:=Tryz.underlying3
 a3:=Tryz.isAgg3
 z3:=Tryz.sizeOf3
 v3:=Tryz.zeroValue3
 t4:=Tryz.underlying4
 a4:=Tryz.isAgg4
 z4:=Tryz.sizeOf4
 v4:=Tryz.zeroValue4
 t5:=Tryz.underlying5
 a5:=Tryz.isAgg5
 z5:=Tryz.sizeOf5
 v5:=Tryz.zeroValue5
 t9:=Tryz.underlying9
 a9:=Tryz.isAgg9
 z9:=Tryz.sizeOf9
 v9:=Tryz.zeroValue9
 t12:=Tryz.underlying12
 a12:=Tryz.isAgg12
 z12:=Tryz.sizeOf12
 v12:=Tryz.zeroValue12
 t46:=Tryz.underlying180
 a46:=Tryz.isAgg180
 z46:=Tryz.sizeOf180
 v46:=Tryz.zeroValue180
 t53:=Tryz.underlying216
 a53:=Tryz.isAgg216
 z53:=Tryz.sizeOf216
 v53:=Tryz.zeroValue216
 t119:=Tryz.underlying176
 a119:=Tryz.isAgg176
 z119:=Tryz.sizeOf176
 t138:=Tryz.underlying178
 a138:=Tryz.isAgg178
 z138:=Tryz.sizeOf178
 v138:=Tryz.zeroValue178
 t139:=Tryz.underlying179
 a139:=Tryz.isAgg179
 z139:=Tryz.sizeOf179
 v139:=Tryz.zeroValue179
 g3:=by kernel_rfl
 g4:=by kernel_rfl }
end Go.Proofs
namespace Go.Proofs.YtgpmlelfkjfbiaaGreatDoor
open Go Go.RowKit Go.Ev
@[go_sem] theorem ZCB:ZvM Tryz.prog 185=some (11,8,true):=by kernel_rfl
@[go_sem] theorem ZDf:ZvM Tryz.prog 92=some (11,1,false):=by kernel_rfl
@[go_sem] theorem ZDr:elT Tryz.prog 138=some (5,1,false,1):=by kernel_rfl
@[go_sem] theorem ZC0:elT Tryz.prog 163=some (3,1,false,8):=by kernel_rfl
@[go_sem] theorem ZDg:elT Tryz.prog 174=some (32,1,false,8):=by kernel_rfl
@[go_sem] theorem elT_22:elT Tryz.prog 22=some (9,1,false,16):=by kernel_rfl
@[go_sem] theorem Zyt:elT Tryz.prog 23=some (26,7,true,104):=by kernel_rfl
@[go_sem] theorem ZBP:elT Tryz.prog 24=some (54,11,true,160):=by kernel_rfl
@[go_sem] theorem Zou:elT Tryz.prog 43=some (46,6,true,88):=by kernel_rfl
@[go_sem] theorem Zkb:elT Tryz.prog 44=some (75,7,true,104):=by kernel_rfl
@[go_sem] theorem ZBF:elT Tryz.prog 69=some (106,2,true,24):=by kernel_rfl
@[go_sem] theorem elT_92:elT Tryz.prog 92=none:=by kernel_rfl
@[go_sem] theorem ZAX:ZiU Tryz.prog 184 1=some (1,1,false):=by kernel_rfl
@[go_sem] theorem ZAR:ZiU Tryz.prog 184 2=some (2,1,false):=by kernel_rfl
@[go_sem] theorem ZAD:ZiU Tryz.prog 184 3=some (3,1,false):=by kernel_rfl
@[go_sem] theorem ZAN:ZiU Tryz.prog 184 4=some (4,1,false):=by kernel_rfl
@[go_sem] theorem ZAC:ZiU Tryz.prog 184 5=some (5,1,false):=by kernel_rfl
@[go_sem] theorem ZAM:ZiU Tryz.prog 184 6=some (6,1,false):=by kernel_rfl
@[go_sem] theorem ZAt:ZiU Tryz.prog 184 7=some (7,1,false):=by kernel_rfl
@[go_sem] theorem ZBq:ZiU Tryz.prog 26 0=some (0,1,false):=by kernel_rfl
@[go_sem] theorem ZBL:ZiU Tryz.prog 26 1=some (1,1,false):=by kernel_rfl
@[go_sem] theorem ZBm:ZiU Tryz.prog 26 2=some (2,1,false):=by kernel_rfl
@[go_sem] theorem ZBk:ZiU Tryz.prog 26 3=some (3,1,false):=by kernel_rfl
@[go_sem] theorem ZCb:ZiU Tryz.prog 26 4=some (4,1,false):=by kernel_rfl
@[go_sem] theorem ZBA:ZiU Tryz.prog 26 5=some (5,1,false):=by kernel_rfl
@[go_sem] theorem ZCk:ZiU Tryz.prog 26 6=some (6,1,false):=by kernel_rfl
@[go_sem] theorem ZBt:ZiU Tryz.prog 46 0=some (0,1,false):=by kernel_rfl
@[go_sem] theorem ZBz:ZiU Tryz.prog 46 1=some (1,1,false):=by kernel_rfl
@[go_sem] theorem ZBn:ZiU Tryz.prog 46 2=some (2,1,false):=by kernel_rfl
@[go_sem] theorem ZBR:ZiU Tryz.prog 46 3=some (3,1,false):=by kernel_rfl
@[go_sem] theorem ZBH:ZiU Tryz.prog 46 4=some (4,1,false):=by kernel_rfl
@[go_sem] theorem ZB9:ZiU Tryz.prog 46 5=some (5,1,false):=by kernel_rfl
@[go_sem] theorem ZCe:ZiU Tryz.prog 54 0=some (0,1,false):=by kernel_rfl
@[go_sem] theorem ZCg:ZiU Tryz.prog 54 1=some (1,1,false):=by kernel_rfl
@[go_sem] theorem ZB8:ZiU Tryz.prog 54 2=some (2,1,false):=by kernel_rfl
@[go_sem] theorem ZBi:ZiU Tryz.prog 54 3=some (3,7,true):=by kernel_rfl
@[go_sem] theorem ZCf:ZiU Tryz.prog 54 4=some (10,1,false):=by kernel_rfl
@[go_sem] theorem ZB3:ZiU Tryz.prog 58 0=some (0,7,true):=by kernel_rfl
@[go_sem] theorem ZBZ:ZiU Tryz.prog 58 1=some (7,7,true):=by kernel_rfl
@[go_sem] theorem ZB4:ZiU Tryz.prog 75 0=some (0,1,false):=by kernel_rfl
@[go_sem] theorem ZBh:ZiU Tryz.prog 75 1=some (1,6,true):=by kernel_rfl
@[go_sem] theorem ZCF:ZrH Tryz.prog 138=none:=by kernel_rfl
@[go_sem] theorem ZCM:ZrH Tryz.prog 180=some .u64:=by kernel_rfl
@[go_sem] theorem intT_3:ZrH Tryz.prog 3=some .i64:=by kernel_rfl
@[go_sem] theorem intT_9:ZrH Tryz.prog 9=none:=by kernel_rfl
@[go_sem] theorem Zz2:ZeS Tryz.prog 106=some [(0,1),(1,1)]:=by kernel_rfl
@[go_sem] theorem ZAd:ZeS Tryz.prog 122=some [(0,1),(1,1)]:=by kernel_rfl
@[go_sem] theorem ZzE:ZeS Tryz.prog 184=some [(0,1),(1,1),(2,1),(3,1),(4,1),(5,1),(6,1),(7,1)]:=by kernel_rfl
@[go_sem] theorem ZzX:ZeS Tryz.prog 185=none:=by kernel_rfl
@[go_sem] theorem ZAu:ZeS Tryz.prog 26=some [(0,1),(1,1),(2,1),(3,1),(4,1),(5,1),(6,1)]:=by kernel_rfl
@[go_sem] theorem ZAP:ZeS Tryz.prog 46=some [(0,1),(1,1),(2,1),(3,1),(4,1),(5,1)]:=by kernel_rfl
@[go_sem] theorem ZAI:ZeS Tryz.prog 54=some [(0,1),(1,1),(2,1),(3,7),(10,1)]:=by kernel_rfl
@[go_sem] theorem ZAS:ZeS Tryz.prog 75=some [(0,1),(1,6)]:=by kernel_rfl
@[go_sem] theorem ZAJ:ZeS Tryz.prog 92=none:=by kernel_rfl
@[go_sem] theorem ZCU:tyT Tryz.prog 122=some (2,true):=by kernel_rfl
@[go_sem] theorem ZDw:tyT Tryz.prog 125=some (1,false):=by kernel_rfl
@[go_sem] theorem ZC8:tyT Tryz.prog 184=some (8,true):=by kernel_rfl
@[go_sem] theorem ZDq:tyT Tryz.prog 185=some (88,true):=by kernel_rfl
@[go_sem] theorem tyT_22:tyT Tryz.prog 22=some (1,false):=by kernel_rfl
@[go_sem] theorem tyT_23:tyT Tryz.prog 23=some (1,false):=by kernel_rfl
@[go_sem] theorem tyT_24:tyT Tryz.prog 24=some (1,false):=by kernel_rfl
@[go_sem] theorem tyT_26:tyT Tryz.prog 26=some (7,true):=by kernel_rfl
@[go_sem] theorem tyT_3:tyT Tryz.prog 3=some (1,false):=by kernel_rfl
@[go_sem] theorem tyT_32:tyT Tryz.prog 32=some (1,false):=by kernel_rfl
@[go_sem] theorem tyT_4:tyT Tryz.prog 4=some (1,false):=by kernel_rfl
@[go_sem] theorem tyT_43:tyT Tryz.prog 43=some (1,false):=by kernel_rfl
@[go_sem] theorem tyT_44:tyT Tryz.prog 44=some (1,false):=by kernel_rfl
@[go_sem] theorem tyT_46:tyT Tryz.prog 46=some (6,true):=by kernel_rfl
@[go_sem] theorem tyT_49:tyT Tryz.prog 49=some (1,false):=by kernel_rfl
@[go_sem] theorem tyT_5:tyT Tryz.prog 5=some (1,false):=by kernel_rfl
@[go_sem] theorem tyT_54:tyT Tryz.prog 54=some (11,true):=by kernel_rfl
@[go_sem] theorem tyT_69:tyT Tryz.prog 69=some (1,false):=by kernel_rfl
@[go_sem] theorem tyT_75:tyT Tryz.prog 75=some (7,true):=by kernel_rfl
@[go_sem] theorem tyT_9:tyT Tryz.prog 9=some (1,false):=by kernel_rfl
@[go_sem] theorem tyT_92:tyT Tryz.prog 92=some (11,true):=by kernel_rfl
@[go_sem] theorem Zu4:ZeE Tryz.prog 106=some [.val (.string ⟨#[]⟩),.val (.int .i64 0)]:=by kernel_rfl
@[go_sem] theorem ZA9:ZeE Tryz.prog 122=some [.val .nilFunc,.val (.bool false)]:=by kernel_rfl
@[go_sem] theorem ZBX:ZeE Tryz.prog 184=some [.val (.string ⟨#[]⟩),.val (.int .i64 0),.val (.int .i64 0),.val (.bool false),.val (.bool false),.val (.bool false),.val (.bool false),.val (.bool false)]:=by kernel_rfl
@[go_sem] theorem ZBW:ZeE Tryz.prog 185=some [.val (.string ⟨#[]⟩),.val (.int .i64 0),.val (.int .i64 0),.val (.bool false),.val (.bool false),.val (.bool false),.val (.bool false),.val (.bool false),.val (.string ⟨#[]⟩),.val (.int .i64 0),.val (.int .i64 0),.val (.bool false),.val (.bool false),.val (.bool false),.val (.bool false),.val (.bool false),.val (.string ⟨#[]⟩),.val (.int .i64 0),.val (.int .i64 0),.val (.bool false),.val (.bool false),.val (.bool false),.val (.bool false),.val (.bool false),.val (.string ⟨#[]⟩),.val (.int .i64 0),.val (.int .i64 0),.val (.bool false),.val (.bool false),.val (.bool false),.val (.bool false),.val (.bool false),.val (.string ⟨#[]⟩),.val (.int .i64 0),.val (.int .i64 0),.val (.bool false),.val (.bool false),.val (.bool false),.val (.bool false),.val (.bool false),.val (.string ⟨#[]⟩),.val (.int .i64 0),.val (.int .i64 0),.val (.bool false),.val (.bool false),.val (.bool false),.val (.bool false),.val (.bool false),.val (.string ⟨#[]⟩),.val (.int .i64 0),.val (.int .i64 0),.val (.bool false),.val (.bool false),.val (.bool false),.val (.bool false),.val (.bool false),.val (.string ⟨#[]⟩),.val (.int .i64 0),.val (.int .i64 0),.val (.bool false),.val (.bool false),.val (.bool false),.val (.bool false),.val (.bool false),.val (.string ⟨#[]⟩),.val (.int .i64 0),.val (.int .i64 0),.val (.bool false),.val (.bool false),.val (.bool false),.val (.bool false),.val (.bool false),.val (.string ⟨#[]⟩),.val (.int .i64 0),.val (.int .i64 0),.val (.bool false),.val (.bool false),.val (.bool false),.val (.bool false),.val (.bool false),.val (.string ⟨#[]⟩),.val (.int .i64 0),.val (.int .i64 0),.val (.bool false),.val (.bool false),.val (.bool false),.val (.bool false),.val (.bool false)]:=by kernel_rfl
@[go_sem] theorem Zte:ZeE Tryz.prog 26=some [.val (.int .i64 0),.val (.int .i64 0),.val (.int .i64 0),.val (.int .i64 0),.list [] .full,.list [] .full,.list [] .full]:=by kernel_rfl
@[go_sem] theorem ZDv:ZeE Tryz.prog 3=some [.val (.int .i64 0)]:=by kernel_rfl
@[go_sem] theorem ZCC:ZeE Tryz.prog 32=some [.val (.int .i64 0)]:=by kernel_rfl
@[go_sem] theorem ZDe:ZeE Tryz.prog 4=some [.val (.bool false)]:=by kernel_rfl
@[go_sem] theorem ZjH:ZeE Tryz.prog 46=some [.val (.int .i64 0),.val (.int .i64 0),.val (.int .i64 0),.val (.string ⟨#[]⟩),.list [] .full,.list [] .full]:=by kernel_rfl
@[go_sem] theorem ZwL:ZeE Tryz.prog 54=some [.val (.int .i64 0),.val (.string ⟨#[]⟩),.val (.int .i64 0),.val (.int .i64 0),.val (.int .i64 0),.val (.int .i64 0),.val (.int .i64 0),.list [] .full,.list [] .full,.list [] .full,.list [] .full]:=by kernel_rfl
@[go_sem] theorem ZCz:ZeE Tryz.prog 69=some [.list [] .full]:=by kernel_rfl
@[go_sem] theorem Zf1:ZeE Tryz.prog 75=some [.val (.string ⟨#[]⟩),.val (.int .i64 0),.val (.int .i64 0),.val (.int .i64 0),.val (.string ⟨#[]⟩),.list [] .full,.list [] .full]:=by kernel_rfl
@[go_sem] theorem ZCp:ZeE Tryz.prog 92=some [.val .nilFunc,.val .nilFunc,.val .nilFunc,.val .nilFunc,.val .nilFunc,.val .nilFunc,.val .nilFunc,.val .nilFunc,.val .nilFunc,.val .nilFunc,.val .nilFunc]:=by kernel_rfl
theorem mix:Tryz.prog.follows .mixedOrders=true:=by kernel_rfl
inductive Vl where
 | mk (kind int scale:Int) (text:ByteArray) (list:List Vl) (fields:List (ByteArray × Vl))
inductive Ty where
 | mk (kind min max scale:Int) (words:List ByteArray) (elem:List Ty) (fields:List (Int × ByteArray × Int × Ty × List Vl))
namespace Vl
def kind:Vl→Int | mk k _ _ _ _ _=>k
def int:Vl→Int | mk _ i _ _ _ _=>i
def scale:Vl→Int | mk _ _ s _ _ _=>s
def text:Vl→ByteArray | mk _ _ _ t _ _=>t
def list:Vl→List Vl | mk _ _ _ _ l _=>l
def fields:Vl→List (ByteArray × Vl) | mk _ _ _ _ _ f=>f
end Vl
mutual
def Vl.size:Vl→Nat
 | .mk _ _ _ _ l f=>1+Zf6 l+Zfo f
def Zf6:List Vl→Nat
 | []=>0
 | v::r=>v.size+Zf6 r
def Zfo:List (ByteArray × Vl)→Nat
 | []=>0
 | (_,v)::r=>v.size+Zfo r
end
mutual
def Vl.cs:Vl→List AV
 | .mk k i s t l f=>[.val (.int .i64 k),.val (.int .i64 i),.val (.int .i64 s),.val (.string t),.list (ZgE l) .none,.list (Zkt f) .none]
def ZgE:List Vl→List AV
 | []=>[]
 | v::r => .agg v.cs::ZgE r
def Zkt:List (ByteArray × Vl)→List AV
 | []=>[]
 | (n,v)::r => .agg (.val (.string n)::v.cs)::Zkt r
end
mutual
def Ty.size:Ty→Nat
 | .mk _ _ _ _ _ e f=>1+Zgn e+Zdz f
def Zgn:List Ty→Nat
 | []=>0
 | t::r=>t.size+Zgn r
def Zdz:List (Int × ByteArray × Int × Ty × List Vl)→Nat
 | []=>0
 | (_,_,_,t,_)::r=>t.size+Zdz r
end
mutual
def Ty.cs:Ty→List AV
 | .mk k lo hi s w e f=>[.val (.int .i64 k),.val (.int .i64 lo),.val (.int .i64 hi),.val (.int .i64 s),.list (w.map fun x => .val (.string x)) .none,.list (ZnW e) .none,.list (Zjj f) .none]
def ZnW:List Ty→List AV
 | []=>[]
 | t::r => .agg t.cs::ZnW r
def Zjj:List (Int × ByteArray × Int × Ty × List Vl)→List AV
 | []=>[]
 | (n,s,d,t,l)::r => .agg (.val (.int .i64 n) :: .val (.string s) :: .val (.int .i64 d)::(t.cs++[.list (ZgE l) .none]))::Zjj r
end
theorem Zf5:∀ l:List Vl,ZgE l=l.map fun v => .agg v.cs
 | []=>rfl
 | v::r=>by simp [ZgE,Zf5 r]
theorem ZkT:∀ l:List (ByteArray × Vl),Zkt l=l.map fun p => .agg (.val (.string p.1)::p.2.cs)
 | []=>rfl
 | (n,v)::r=>by simp [Zkt,ZkT r]
@[go_sem] theorem ZlY (l:List Vl):(ZgE l).length=l.length:=by simp [Zf5]
@[go_sem] theorem Zqz (l:List (ByteArray × Vl)):(Zkt l).length=l.length:=by simp [ZkT]
theorem ZqC:∀ l:List Ty,ZnW l=l.map fun v => .agg v.cs
 | []=>rfl
 | v::r=>by simp [ZnW,ZqC r]
theorem ZoI:∀ l:List (Int × ByteArray × Int × Ty × List Vl),Zjj l=l.map fun p => .agg (.val (.int .i64 p.1) :: .val (.string p.2.1) :: .val (.int .i64 p.2.2.1)::(p.2.2.2.1.cs++[.list (ZgE p.2.2.2.2) .none]))
 | []=>rfl
 | (n,s,d,t,l)::r=>by simp [Zjj,ZoI r]
theorem Vl.cs_eq (v:Vl):v.cs=[.val (.int .i64 v.kind),.val (.int .i64 v.int),.val (.int .i64 v.scale),.val (.string v.text),.list (ZgE v.list) .none,.list (Zkt v.fields) .none]:=by cases v;rfl
@[go_sem] theorem Vl.cs_length (v:Vl):v.cs.length=6:=by cases v;rfl
@[go_sem] theorem Vl.cs_pub (v:Vl):v.cs.map AV.pubCell=v.cs:=by cases v;rfl
mutual
theorem Vl.under (nb nr nl:Nat):∀ v:Vl,∀ x∈v.cs,Under nb nr nl x
 | .mk k i s t l f=>by
  intro x hx
  simp only [Vl.cs,List.mem_cons,List.not_mem_nil,or_false] at hx
  rcases hx with rfl | rfl | rfl | rfl | rfl | rfl
  ·
   exact .val _
  ·
   exact .val _
  ·
   exact .val _
  ·
   exact .val _
  ·
   exact .list (Zik nb nr nl l) trivial
  ·
   exact .list (Zkx nb nr nl f) trivial
theorem Zik (nb nr nl:Nat):∀ l:List Vl,∀ x∈ZgE l,Under nb nr nl x
 | []=>fun _ h=>by simp [ZgE] at h
 | v::r=>by
  intro x hx
  simp only [ZgE,List.mem_cons] at hx
  rcases hx with rfl | hx
  ·
   exact .agg (Vl.under nb nr nl v)
  ·
   exact Zik nb nr nl r x hx
theorem Zkx (nb nr nl:Nat):∀ l:List (ByteArray × Vl),∀ x∈Zkt l,Under nb nr nl x
 | []=>fun _ h=>by simp [Zkt] at h
 | (n,v)::r=>by
  intro x hx
  simp only [Zkt,List.mem_cons] at hx
  rcases hx with rfl | hx
  ·
   refine .agg fun y hy=>?_
   rcases List.mem_cons.1 hy with rfl | hy
   ·
    exact .val _
   ·
    exact Vl.under nb nr nl v y hy
  ·
   exact Zkx nb nr nl r x hx
end
mutual
theorem Ty.under (nb nr nl:Nat):∀ v:Ty,∀ x∈v.cs,Under nb nr nl x
 | .mk k lo hi s w e f=>by
  intro x hx
  simp only [Ty.cs,List.mem_cons,List.not_mem_nil,or_false] at hx
  rcases hx with rfl | rfl | rfl | rfl | rfl | rfl | rfl
  ·
   exact .val _
  ·
   exact .val _
  ·
   exact .val _
  ·
   exact .val _
  ·
   refine .list (fun y hy=>?_) trivial
   obtain ⟨z,_,rfl⟩:=List.mem_map.1 hy
   exact .val _
  ·
   exact .list (Zm6 nb nr nl e) trivial
  ·
   exact .list (Zjh nb nr nl f) trivial
theorem Zm6 (nb nr nl:Nat):∀ l:List Ty,∀ x∈ZnW l,Under nb nr nl x
 | []=>fun _ h=>by simp [ZnW] at h
 | v::r=>by
  intro x hx
  simp only [ZnW,List.mem_cons] at hx
  rcases hx with rfl | hx
  ·
   exact .agg (Ty.under nb nr nl v)
  ·
   exact Zm6 nb nr nl r x hx
theorem Zjh (nb nr nl:Nat):∀ l:List (Int × ByteArray × Int × Ty × List Vl),∀ x∈Zjj l,Under nb nr nl x
 | []=>fun _ h=>by simp [Zjj] at h
 | (n,s,d,t,l)::r=>by
  intro x hx
  simp only [Zjj,List.mem_cons] at hx
  rcases hx with rfl | hx
  ·
   refine .agg fun y hy=>?_
   simp only [List.mem_cons,List.mem_append,List.not_mem_nil,or_false] at hy
   rcases hy with rfl | rfl | rfl | hy | rfl
   ·
    exact .val _
   ·
    exact .val _
   ·
    exact .val _
   ·
    exact Ty.under nb nr nl t y hy
   ·
    exact .list (Zik nb nr nl l) trivial
  ·
   exact Zjh nb nr nl r x hx
end
@[go_sem] theorem ZzU (nb nr nl:Nat) (l:List Vl):(∀ x∈ZgE l,Under nb nr nl x)↔True:=iff_true_intro (Zik nb nr nl l)
theorem Ty.cs_eq (t:Ty):∃ k lo hi s w e f,t = .mk k lo hi s w e f:=by cases t;exact ⟨_,_,_,_,_,_,_,rfl⟩
@[go_sem] theorem Ty.cs_length (v:Ty):v.cs.length=7:=by cases v;rfl
@[go_sem] theorem Ty.cs_pub (v:Ty):v.cs.map AV.pubCell=v.cs:=by cases v;rfl
namespace Ty
def kind:Ty→Int | mk k _ _ _ _ _ _=>k
def min:Ty→Int | mk _ m _ _ _ _ _=>m
def max:Ty→Int | mk _ _ m _ _ _ _=>m
def scale:Ty→Int | mk _ _ _ s _ _ _=>s
def words:Ty→List ByteArray | mk _ _ _ _ w _ _=>w
def elem:Ty→List Ty | mk _ _ _ _ _ e _=>e
def fields:Ty→List (Int × ByteArray × Int × Ty × List Vl) | mk _ _ _ _ _ _ f=>f
end Ty
section
variable (v:Vl) (t:Ty) (x d:AV) (l:List AV)
@[go_sem] theorem Vl.g0:v.cs.getD 0 d = .val (.int .i64 v.kind):=by cases v;rfl
@[go_sem] theorem Vl.g1:v.cs.getD 1 d = .val (.int .i64 v.int):=by cases v;rfl
@[go_sem] theorem Vl.g2:v.cs.getD 2 d = .val (.int .i64 v.scale):=by cases v;rfl
@[go_sem] theorem Vl.g3:v.cs.getD 3 d = .val (.string v.text):=by cases v;rfl
@[go_sem] theorem Vl.g4:v.cs.getD 4 d = .list (ZgE v.list) .none:=by cases v;rfl
@[go_sem] theorem Vl.g5:v.cs.getD 5 d = .list (Zkt v.fields) .none:=by cases v;rfl
@[go_sem] theorem Vl.take6:v.cs.take 6=v.cs:=by cases v;rfl
@[go_sem] theorem Ty.g0:t.cs.getD 0 d = .val (.int .i64 t.kind):=by cases t;rfl
@[go_sem] theorem Ty.g1:t.cs.getD 1 d = .val (.int .i64 t.min):=by cases t;rfl
@[go_sem] theorem Ty.g2:t.cs.getD 2 d = .val (.int .i64 t.max):=by cases t;rfl
@[go_sem] theorem Ty.g3:t.cs.getD 3 d = .val (.int .i64 t.scale):=by cases t;rfl
@[go_sem] theorem Ty.g4:t.cs.getD 4 d = .list (t.words.map fun x => .val (.string x)) .none:=by cases t;rfl
@[go_sem] theorem Ty.g5:t.cs.getD 5 d = .list (ZnW t.elem) .none:=by cases t;rfl
@[go_sem] theorem Ty.g6:t.cs.getD 6 d = .list (Zjj t.fields) .none:=by cases t;rfl
@[go_sem] theorem Ty.take7:t.cs.take 7=t.cs:=by cases t;rfl
@[go_sem] theorem Ty.a0:(t.cs++l).getD 0 d = .val (.int .i64 t.kind):=by cases t;rfl
@[go_sem] theorem Ty.a1:(t.cs++l).getD 1 d = .val (.int .i64 t.min):=by cases t;rfl
@[go_sem] theorem Ty.a2:(t.cs++l).getD 2 d = .val (.int .i64 t.max):=by cases t;rfl
@[go_sem] theorem Ty.a3:(t.cs++l).getD 3 d = .val (.int .i64 t.scale):=by cases t;rfl
@[go_sem] theorem Ty.a4:(t.cs++l).getD 4 d = .list (t.words.map fun x => .val (.string x)) .none:=by cases t;rfl
@[go_sem] theorem Ty.a5:(t.cs++l).getD 5 d = .list (ZnW t.elem) .none:=by cases t;rfl
@[go_sem] theorem Ty.a6:(t.cs++l).getD 6 d = .list (Zjj t.fields) .none:=by cases t;rfl
@[go_sem] theorem Ty.a7:(t.cs++[x]).getD 7 d=x:=by cases t;rfl
@[go_sem] theorem Ty.take7a:(t.cs++l).take 7=t.cs:=by cases t;rfl
@[go_sem] theorem Ty.take8a:(t.cs++[x]).take 8=t.cs++[x]:=by cases t;rfl
@[go_sem] theorem Ty.drop7a:(t.cs++l).drop 7=l:=by cases t;rfl
attribute [go_sem] List.length_append List.map_append
end
end Go.Proofs.YtgpmlelfkjfbiaaGreatDoor
namespace Go.Proofs.YtgpmlelfkjfbiaaGreatDoor
open Go Go.RowKit Go.Ev
theorem Zwd (t:ByteArray):sEq t ⟨#[]⟩=decide (t.size=0):=by
 by_cases h:t.size=0
 ·
  have:t=⟨#[]⟩:=by
   obtain ⟨⟨l⟩⟩:=t
   simp [ByteArray.size] at h
   subst h;rfl
  subst this
  rfl
 ·
  simp only [h,decide_false]
  obtain ⟨⟨l⟩⟩:=t
  simp [ByteArray.size] at h
  simp [sEq,h]
theorem Zps (w0:World) (B:List (List AV)) (Rw:List RowA) (L:List LoopA) (n low high:Int) :
  ACalls Tryz.prog w0 181 [.val (.int .i64 n),.val (.int .i64 low),.val (.int .i64 high)] ⟨B,Rw,L⟩ fun r st=>r = .val (.bool (decide (low≤n)&&decide (n≤high)))∧st=⟨B,Rw,L⟩:=by
 refine ACalls.finP (ZcZ (rs:=[.tmp 6]) Tryz.func181 rfl rfl Tryz.ntmps181 (ZaJ Tryz.func181 rfl (by decide)) (Nat.le_of_ble_eq_true rfl) ?_)
 intro M0 W0 hN d e a hu
 simp only [Zaq]
 apply Zaa;intro K1 c
 apply Zaf 1 [0,1,2]
 rw [Zae];simp +decide only [go_sem]
 (repeat' apply And.intro)<;>first | refine c _ _ ?_ | (intros;omega) | (intros;simp_all;done)
 clear c
 apply Zaa;intro K2 b
 apply Zaf 1 [6]
 rw [Zae];simp +decide only [go_sem]
 (repeat' apply And.intro)<;>first | refine b _ _ ?_ | (intros;omega) | (intros;simp_all;done)
 clear b
 apply ZaO;simp +decide only [go_sem]
 refine Zlo a (by first | exact List.prefix_append _ _ | exact List.prefix_refl _ | (rw [List.append_assoc];exact List.prefix_append _ _)) (by first | exact List.prefix_append _ _ | exact List.prefix_refl _ | (rw [List.append_assoc];exact List.prefix_append _ _)) (by first | exact List.prefix_append _ _ | exact List.prefix_refl _ | (rw [List.append_assoc];exact List.prefix_append _ _)) (by simp +decide only [go_sem]) ⟨?_,rfl⟩
 rfl
theorem ZsI (w0:World) (B:List (List AV)) (Rw:List RowA) (L:List LoopA) (a:Int) :
  ACalls Tryz.prog w0 198 [.val (.int .i64 a)] ⟨B,Rw,L⟩ fun r st=>r = .val (.bool false)∧st=⟨B,Rw,L⟩:=by
 refine ACalls.finP (ZcZ (rs:=[.tmp 2]) Tryz.func198 rfl rfl Tryz.ntmps198 (ZaJ Tryz.func198 rfl (by decide)) (Nat.le_of_ble_eq_true rfl) ?_)
 intro M0 W0 hN e f b hu
 simp only [Zaq]
 apply Zaa;intro K1 d
 apply Zaf 1 [0]
 rw [Zae];simp +decide only [go_sem]
 (repeat' apply And.intro)<;>first | refine d _ _ ?_ | (intros;omega) | (intros;simp_all;done)
 clear d
 apply Zaa;intro K2 c
 apply Zaf 1 [2]
 rw [Zae];simp +decide only [go_sem]
 (repeat' apply And.intro)<;>first | refine c _ _ ?_ | (intros;omega) | (intros;simp_all;done)
 clear c
 apply ZaO;simp +decide only [go_sem]
 refine Zlo b (by first | exact List.prefix_append _ _ | exact List.prefix_refl _ | (rw [List.append_assoc];exact List.prefix_append _ _)) (by first | exact List.prefix_append _ _ | exact List.prefix_refl _ | (rw [List.append_assoc];exact List.prefix_append _ _)) (by first | exact List.prefix_append _ _ | exact List.prefix_refl _ | (rw [List.append_assoc];exact List.prefix_append _ _)) (by simp +decide only [go_sem]) ⟨?_,rfl⟩
 rw [Zil]
theorem ZlG (w0:World) (B:List (List AV)) (Rw:List RowA) (L:List LoopA) (a b:Int) :
  ACalls Tryz.prog w0 143 [.val (.int .i64 a),.val (.int .i64 b)] ⟨B,Rw,L⟩ fun r st=>r = .val (.int .i64 (if a<b then -1 else if a=b then 0 else 1))∧st=⟨B,Rw,L⟩:=by
 refine ACalls.finP (ZcZ (rs:=[.tmp 4]) Tryz.func143 rfl rfl Tryz.ntmps143 (ZaJ Tryz.func143 rfl (by decide)) (Nat.le_of_ble_eq_true rfl) ?_)
 intro M0 W0 hN s t c hu
 simp only [Zaq]
 apply Zaa;intro K1 q
 apply Zaf 1 [0,1]
 rw [Zae];simp +decide only [go_sem]
 (repeat' apply And.intro)<;>first | refine q _ _ ?_ | (intros;omega) | (intros;simp_all;done)
 clear q
 apply Zaa;intro K2 n
 apply Zaf 2 [0,1,5]
 rw [Zae];simp +decide only [go_sem]
 (repeat' apply And.intro)<;>first | refine Zkj _ (ZsI w0 _ Rw L _) ?_ | (intros;omega) | (intros;simp_all;done)
 rw [Zae];simp +decide only [go_sem]
 (repeat' apply And.intro)<;>first | refine n _ _ ?_ | (intros;omega) | (intros;simp_all;done)
 clear n
 apply Zaa;intro K3 o
 apply Zaf 2 [0,1,5,6]
 rw [Zae];simp +decide only [go_sem]
 (repeat' apply And.intro)<;>first | refine Zkj _ (ZsI w0 _ Rw L _) ?_ | (intros;omega) | (intros;simp_all;done)
 rw [Zae];simp +decide only [go_sem]
 (repeat' apply And.intro)<;>first | refine o _ _ ?_ | (intros;omega) | (intros;simp_all;done)
 clear o
 apply Zaa;intro K4 m
 apply Zaa;intro K5 p
 apply Zaf 1 [0,1,6,11]
 rw [Zae];simp +decide only [go_sem]
 (repeat' apply And.intro)<;>first | refine p _ _ ?_ | (intros;omega) | (intros;simp_all;done)
 clear p
 refine ZaQ _ (by simp +decide only [go_sem]) (by simp +decide only [go_sem];rfl) (fun hb=>?_) (fun hb=>?_)
 ·
  simp at hb
 skip
 apply Za4;simp only [go_sem]
 (repeat' apply And.intro)<;>first | refine m _ _ ?_ | (intros;omega) | (intros;simp_all;done)
 clear m
 apply Zaa;intro K10 e
 apply Zaa;intro K11 k
 apply Zaf 1 [0,1,13]
 rw [Zae];simp +decide only [go_sem]
 (repeat' apply And.intro)<;>first | refine k _ _ ?_ | (intros;omega) | (intros;simp_all;done)
 clear k
 refine ZaQ _ (by simp +decide only [go_sem]) (by simp +decide only [go_sem];rfl) (fun hb=>?_) (fun hb=>?_)
 ·
  simp at hb
 try simp at hb
 apply Za4;simp only [go_sem]
 (repeat' apply And.intro)<;>first | refine e _ _ ?_ | (intros;omega) | (intros;simp_all;done)
 clear e
 apply Zaa;intro K13 g
 apply Zaa;intro K14 h
 apply Zaf 1 [0,1,16]
 rw [Zae];simp +decide only [go_sem]
 (repeat' apply And.intro)<;>first | refine h _ _ ?_ | (intros;omega) | (intros;simp_all;done)
 clear h
 refine ZaQ _ (by simp +decide only [go_sem]) (by simp +decide only [go_sem];rfl) (fun hb=>?_) (fun hb=>?_)
 ·
  try simp at hb
  apply Zaa;intro K15 f
  apply Zaf 1 [4]
  rw [Zae];simp +decide only [go_sem]
  (repeat' apply And.intro)<;>first | refine f _ _ ?_ | (intros;omega) | (intros;simp_all;done)
  clear f
  apply ZaO;simp +decide only [go_sem]
  refine Zlo c (by first | exact List.prefix_append _ _ | exact List.prefix_refl _ | (rw [List.append_assoc];exact List.prefix_append _ _)) (by first | exact List.prefix_append _ _ | exact List.prefix_refl _ | (rw [List.append_assoc];exact List.prefix_append _ _)) (by first | exact List.prefix_append _ _ | exact List.prefix_refl _ | (rw [List.append_assoc];exact List.prefix_append _ _)) (by simp +decide only [go_sem]) ⟨?_,rfl⟩
  rw [Zil]
  rw [if_pos (by omega)]
 try simp at hb
 apply Za4;simp only [go_sem]
 (repeat' apply And.intro)<;>first | refine g _ _ ?_ | (intros;omega) | (intros;simp_all;done)
 clear g
 apply Zaa;intro K16 j
 apply Zaa;intro K17 i
 apply Zaf 1 [19]
 rw [Zae];simp +decide only [go_sem]
 (repeat' apply And.intro)<;>first | refine i _ _ ?_ | (intros;omega) | (intros;simp_all;done)
 clear i
 refine ZaQ _ (by simp +decide only [go_sem]) (by simp +decide only [go_sem];rfl) (fun hb=>?_) (fun hb=>?_)
 ·
  try simp at hb
  apply Zaa;intro K18 d
  apply Zaf 1 [4]
  rw [Zae];simp +decide only [go_sem]
  (repeat' apply And.intro)<;>first | refine d _ _ ?_ | (intros;omega) | (intros;simp_all;done)
  clear d
  apply ZaO;simp +decide only [go_sem]
  refine Zlo c (by first | exact List.prefix_append _ _ | exact List.prefix_refl _ | (rw [List.append_assoc];exact List.prefix_append _ _)) (by first | exact List.prefix_append _ _ | exact List.prefix_refl _ | (rw [List.append_assoc];exact List.prefix_append _ _)) (by first | exact List.prefix_append _ _ | exact List.prefix_refl _ | (rw [List.append_assoc];exact List.prefix_append _ _)) (by simp +decide only [go_sem]) ⟨?_,rfl⟩
  rw [Zil]
  rw [if_neg (by omega),if_neg (by omega)]
 try simp at hb
 apply Za4;simp only [go_sem]
 (repeat' apply And.intro)<;>first | refine j _ _ ?_ | (intros;omega) | (intros;simp_all;done)
 clear j
 apply Zaa;intro K19 l
 apply Zaf 1 [4]
 rw [Zae];simp +decide only [go_sem]
 (repeat' apply And.intro)<;>first | refine l _ _ ?_ | (intros;omega) | (intros;simp_all;done)
 clear l
 apply ZaO;simp +decide only [go_sem]
 refine Zlo c (by first | exact List.prefix_append _ _ | exact List.prefix_refl _ | (rw [List.append_assoc];exact List.prefix_append _ _)) (by first | exact List.prefix_append _ _ | exact List.prefix_refl _ | (rw [List.append_assoc];exact List.prefix_append _ _)) (by first | exact List.prefix_append _ _ | exact List.prefix_refl _ | (rw [List.append_assoc];exact List.prefix_append _ _)) (by simp +decide only [go_sem]) ⟨?_,rfl⟩
 rw [Zil]
 rw [if_neg (by omega),if_pos (by omega)]
def Zjr (c:Nat):Bool:=decide (97≤c)&&decide (c≤122)
def Zsd (c:Nat):Bool:=Zjr c||decide (c=95)||(decide (48≤c)&&decide (c≤57))
def ZwU (l:List UInt8):Bool:=decide (1≤l.length∧l.length≤32)&&Zjr (l.headD 0).toNat&&l.all fun c=>Zsd c.toNat
def Zei (s:ByteArray):Bool:=ZwU s.data.toList
theorem Zpf (s:ByteArray) (k:Nat) (h:k<s.size):s.get! k=s.data.toList[k]'(by simpa using h):=by
 rw [Utf8W.get!_of_lt s k h];rfl
theorem ZwR (s:ByteArray) (f:UInt8→Bool) (k:Nat) (h:k<s.size):(s.data.toList.drop k).all f=(f (s.get! k)&&(s.data.toList.drop (k+1)).all f):=by
 rw [List.drop_eq_getElem_cons (by simpa using h),Zpf s k h];rfl
theorem ZxK (s:ByteArray) (h:0<s.size):s.data.toList.headD 0=s.get! 0:=by
 rw [Zpf s 0 h]
 have hl:0<s.data.toList.length:=by simpa using h
 have:∀ (l:List UInt8) (q:0<l.length),l.headD 0=l[0]:=fun l q=>by
  cases l with
  | nil=>simp at q
  | cons a l=>rfl
 exact this _ hl
theorem Zv3 (s:ByteArray) (k:Nat) (h:k<s.size):(Zfn s.data.toList).getD k .junk = .val (.int .u8 (s.get! k).toNat):=by
 have hl:s.data.toList.length=s.size:=by simp
 rw [Zpf s k h]
 simp [Zfn,hl,h,List.getD]
theorem Zp6 (s:ByteArray):(Zfn s.data.toList).length=s.size:=by
 have hl:s.data.toList.length=s.size:=by simp
 simp [Zfn,hl]
theorem ZuF (c:Nat):Zsd c=decide ((97≤(c:Int)∧(c:Int)≤122)∨(c:Int)=95∨(48≤(c:Int)∧(c:Int)≤57)):=by
 rw [Bool.eq_iff_iff]
 simp [Zsd,Zjr]
 omega
theorem Zng (c:Nat):Zjr c=decide (97≤(c:Int)∧(c:Int)≤122):=by
 rw [Bool.eq_iff_iff]
 simp [Zjr]
 omega
theorem ZpW (s:ByteArray) (h1:1≤s.size) (h2:s.size≤32):Zei s=(Zjr (s.get! 0).toNat&&s.data.toList.all fun c=>Zsd c.toNat):=by
 have hl:s.data.toList.length=s.size:=by simp
 rw [Zei,ZwU,decide_eq_true (by omega),ZxK s h1];rfl
theorem Zue (s:ByteArray) (h:¬ (1≤s.size∧s.size≤32)):Zei s=false:=by
 have hl:s.data.toList.length=s.size:=by simp
 rw [Zei,ZwU,decide_eq_false (by omega)];rfl
theorem Zno (w0:World) (B:List (List AV)) (Rw:List RowA) (L:List LoopA) (s:ByteArray) (hs:s.size≤maxLen) :
  ACalls Tryz.prog w0 65 [.val (.string s)] ⟨B,Rw,L⟩ fun r st=>r = .val (.bool (Zei s))∧st=⟨B,Rw,L⟩:=by
 refine ACalls.finP (ZcZ (rs:=[.tmp 2]) Tryz.func65 rfl rfl Tryz.ntmps65 (ZaJ Tryz.func65 rfl (by decide)) (Nat.le_of_ble_eq_true rfl) ?_)
 intro M0 W0 hN ae af b hu
 unfold maxLen at hs
 have ag:s.data.toList.length=s.size:=by simp
 have f:=Zwd s
 obtain ⟨d,hd⟩:∃ d,(s.get! 0).toNat=d:=⟨_,rfl⟩
 have a:=Zp6 s
 simp only [Zaq]
 apply Zaa;intro K1 v
 apply Zaf 1 [0]
 rw [Zae];simp +decide only [go_sem,hd,a,f]
 (repeat' apply And.intro)<;>first | refine v _ _ ?_ | (intros;omega) | (intros;simp_all;done) | (intros;simp only [Bool.or_eq_false_iff,Bool.or_eq_true,Bool.and_eq_true,Bool.and_eq_false_iff,decide_eq_true_eq,decide_eq_false_iff_not,bne_iff_ne] at *; omega)
 clear v
 apply Zaa;intro K2 z
 apply Zaa;intro K3 q
 apply Zaf 1 [0,21]
 rw [Zae];simp +decide only [go_sem,hd,a,f]
 (repeat' apply And.intro)<;>first | refine q _ _ ?_ | (intros;omega) | (intros;simp_all;done) | (intros;simp only [Bool.or_eq_false_iff,Bool.or_eq_true,Bool.and_eq_true,Bool.and_eq_false_iff,decide_eq_true_eq,decide_eq_false_iff_not,bne_iff_ne] at *; omega)
 clear q
 refine ZaQ _ (by simp +decide only [go_sem]) (by simp +decide only [go_sem];rfl) (fun hb=>?_) (fun hb=>?_)
 ·
  simp only [Bool.or_eq_true,Bool.or_eq_false_iff,Bool.and_eq_true,Bool.and_eq_false_iff,decide_eq_true_eq,decide_eq_false_iff_not,Bool.not_eq_true',Bool.not_eq_false',Bool.not_eq_eq_eq_not,Bool.not_true,Bool.not_false] at hb
  apply Zaa;intro K4 w
  apply Zaf 1 [2]
  rw [Zae];simp +decide only [go_sem,hd,a,f]
  (repeat' apply And.intro)<;>first | refine w _ _ ?_ | (intros;omega) | (intros;simp_all;done) | (intros;simp only [Bool.or_eq_false_iff,Bool.or_eq_true,Bool.and_eq_true,Bool.and_eq_false_iff,decide_eq_true_eq,decide_eq_false_iff_not,bne_iff_ne] at *; omega)
  clear w
  apply ZaO;simp +decide only [go_sem]
  refine Zlo b (by first | exact List.prefix_append _ _ | exact List.prefix_refl _ | (rw [List.append_assoc];exact List.prefix_append _ _)) (by first | exact List.prefix_append _ _ | exact List.prefix_refl _ | (rw [List.append_assoc];exact List.prefix_append _ _)) (by first | exact List.prefix_append _ _ | exact List.prefix_refl _ | (rw [List.append_assoc];exact List.prefix_append _ _)) (by simp +decide only [go_sem]) ⟨?_,rfl⟩
  rw [Zil]
  congr 2
  symm
  by_cases hz:1≤s.size∧s.size≤32
  ·
   rw [ZpW s hz.1 hz.2,hd,Zng,decide_eq_false (by omega)];rfl
  ·
   exact Zue s hz
 simp only [Bool.or_eq_true,Bool.or_eq_false_iff,Bool.and_eq_true,Bool.and_eq_false_iff,decide_eq_true_eq,decide_eq_false_iff_not,Bool.not_eq_true',Bool.not_eq_false',Bool.not_eq_eq_eq_not,Bool.not_true,Bool.not_false] at hb
 have ad:1≤s.size∧s.size≤32∧97≤d∧d≤122:=by omega
 clear hb
 have g:Zjr d=true:=by rw [Zng];exact decide_eq_true (by omega)
 apply Za4;simp only [go_sem]
 (repeat' apply And.intro)<;>first | refine z _ _ ?_ | (intros;omega) | (intros;simp_all;done) | (intros;simp only [Bool.or_eq_false_iff,Bool.or_eq_true,Bool.and_eq_true,Bool.and_eq_false_iff,decide_eq_true_eq,decide_eq_false_iff_not,bne_iff_ne] at *; omega)
 clear z
 apply Zaa;intro K5 u
 apply Zaa;intro K6 t
 apply Zaf 1 [23,24,25]
 rw [Zae];simp +decide only [go_sem,hd,a,f]
 (repeat' apply And.intro)<;>first | refine t _ _ ?_ | (intros;omega) | (intros;simp_all;done) | (intros;simp only [Bool.or_eq_false_iff,Bool.or_eq_true,Bool.and_eq_true,Bool.and_eq_false_iff,decide_eq_true_eq,decide_eq_false_iff_not,bne_iff_ne] at *; omega)
 clear t
 apply Zad
 refine Zao (fun m e st=>∃ k:Nat,k≤s.size∧m=s.size-k∧Zjr d=true∧(s.data.toList.all fun c=>Zsd c.toNat)=((s.data.toList.drop k).all fun c=>Zsd c.toNat)∧e=[(23,true,.list (Zfn s.data.toList) .none),(24,true,.val (.int .i64 s.size)),(25,true,.val (.int .i64 k))]∧st=⟨B,Rw,L⟩) s.size ⟨0,by omega,rfl,by assumption,rfl,rfl,rfl⟩ ?_
 rintro m e st ⟨k,hk,rfl,ah,o,rfl,rfl⟩ KR ab
 obtain ⟨c,hc⟩:∃ c,(s.get! k).toNat=c:=⟨_,rfl⟩
 obtain ⟨x,hn1⟩:∃ x,(Zfn s.data.toList).getD k .junk=x:=⟨_,rfl⟩
 apply Zaa;intro K7 aa
 apply Zaf 1 [23,24,25,26]
 rw [Zae];simp +decide only [go_sem,hn1,a]
 (repeat' apply And.intro)<;>first | refine aa _ _ ?_ | (intros;omega) | (intros;simp_all;done) | (intros;simp only [Bool.or_eq_false_iff,Bool.or_eq_true,Bool.and_eq_true,Bool.and_eq_false_iff,decide_eq_true_eq,decide_eq_false_iff_not,bne_iff_ne] at *; omega)
 clear aa
 apply Zaa;intro K8 y
 refine ZaQ _ (by simp +decide only [go_sem]) (by simp +decide only [go_sem];rfl) (fun hb=>?_) (fun hb=>?_)
 rotate_left
 ·
  simp only [Bool.or_eq_true,Bool.or_eq_false_iff,Bool.and_eq_true,Bool.and_eq_false_iff,decide_eq_true_eq,decide_eq_false_iff_not,Bool.not_eq_true',Bool.not_eq_false',Bool.not_eq_eq_eq_not,Bool.not_true,Bool.not_false] at hb
  apply Ziw;simp +decide only [go_sem,hn1,a]
  (repeat' apply And.intro)<;>first | refine u _ _ ?_ | (intros;omega) | (intros;simp_all;done) | (intros;simp only [Bool.or_eq_false_iff,Bool.or_eq_true,Bool.and_eq_true,Bool.and_eq_false_iff,decide_eq_true_eq,decide_eq_false_iff_not,bne_iff_ne] at *; omega)
  clear u
  apply Zaa;intro K9 p
  apply Zaf 1 [2]
  rw [Zae];simp +decide only [go_sem,hn1,a]
  (repeat' apply And.intro)<;>first | refine p _ _ ?_ | (intros;omega) | (intros;simp_all;done) | (intros;simp only [Bool.or_eq_false_iff,Bool.or_eq_true,Bool.and_eq_true,Bool.and_eq_false_iff,decide_eq_true_eq,decide_eq_false_iff_not,bne_iff_ne] at *; omega)
  clear p
  apply ZaO;simp +decide only [go_sem]
  refine Zlo b (by first | exact List.prefix_append _ _ | exact List.prefix_refl _ | (rw [List.append_assoc];exact List.prefix_append _ _)) (by first | exact List.prefix_append _ _ | exact List.prefix_refl _ | (rw [List.append_assoc];exact List.prefix_append _ _)) (by first | exact List.prefix_append _ _ | exact List.prefix_refl _ | (rw [List.append_assoc];exact List.prefix_append _ _)) (by simp +decide only [go_sem]) ⟨?_,rfl⟩
  rw [Zil]
  have:k=s.size:=by omega
  subst this
  rw [ZpW s (by omega) (by omega),hd,g,o,List.drop_eq_nil_of_le (by omega)];rfl
 simp only [Bool.or_eq_true,Bool.or_eq_false_iff,Bool.and_eq_true,Bool.and_eq_false_iff,decide_eq_true_eq,decide_eq_false_iff_not,Bool.not_eq_true',Bool.not_eq_false',Bool.not_eq_eq_eq_not,Bool.not_true,Bool.not_false] at hb
 have h:=ZwR s (fun c=>Zsd c.toNat) k (by omega)
 simp only [hc] at h
 rw [ZuF c] at h
 have hn2:=Zv3 s k (by omega)
 rw [hn1,hc] at hn2
 subst hn2
 apply Za4;simp only [go_sem]
 (repeat' apply And.intro)<;>first | refine y _ _ ?_ | (intros;omega) | (intros;simp_all;done) | (intros;simp only [Bool.or_eq_false_iff,Bool.or_eq_true,Bool.and_eq_true,Bool.and_eq_false_iff,decide_eq_true_eq,decide_eq_false_iff_not,bne_iff_ne] at *; omega)
 clear y
 apply Zaa;intro K10 j
 apply Zad
 apply Zaa;intro K11 n
 apply Zaf 1 [4,23,24,25]
 rw [Zae];simp +decide only [go_sem,hn1,a]
 (repeat' apply And.intro)<;>first | refine n _ _ ?_ | (intros;omega) | (intros;simp_all;done) | (intros;simp only [Bool.or_eq_false_iff,Bool.or_eq_true,Bool.and_eq_true,Bool.and_eq_false_iff,decide_eq_true_eq,decide_eq_false_iff_not,bne_iff_ne] at *; omega)
 clear n
 apply Zaa;intro K12 l
 apply Zaf 1 [23,24,25,46]
 rw [Zae];simp +decide only [go_sem,hn1,a]
 (repeat' apply And.intro)<;>first | refine l _ _ ?_ | (intros;omega) | (intros;simp_all;done) | (intros;simp only [Bool.or_eq_false_iff,Bool.or_eq_true,Bool.and_eq_true,Bool.and_eq_false_iff,decide_eq_true_eq,decide_eq_false_iff_not,bne_iff_ne] at *; omega)
 clear l
 refine ZaQ _ (by simp +decide only [go_sem]) (by simp +decide only [go_sem];rfl) (fun hb=>?_) (fun hb=>?_)
 ·
  simp only [Bool.or_eq_true,Bool.or_eq_false_iff,Bool.and_eq_true,Bool.and_eq_false_iff,decide_eq_true_eq,decide_eq_false_iff_not,Bool.not_eq_true',Bool.not_eq_false',Bool.not_eq_eq_eq_not,Bool.not_true,Bool.not_false] at hb
  apply Zaa;intro K13 i
  apply Zaf 1 [2]
  rw [Zae];simp +decide only [go_sem,hn1,a]
  (repeat' apply And.intro)<;>first | refine i _ _ ?_ | (intros;omega) | (intros;simp_all;done) | (intros;simp only [Bool.or_eq_false_iff,Bool.or_eq_true,Bool.and_eq_true,Bool.and_eq_false_iff,decide_eq_true_eq,decide_eq_false_iff_not,bne_iff_ne] at *; omega)
  clear i
  apply ZaO;simp +decide only [go_sem]
  refine Zlo b (by first | exact List.prefix_append _ _ | exact List.prefix_refl _ | (rw [List.append_assoc];exact List.prefix_append _ _)) (by first | exact List.prefix_append _ _ | exact List.prefix_refl _ | (rw [List.append_assoc];exact List.prefix_append _ _)) (by first | exact List.prefix_append _ _ | exact List.prefix_refl _ | (rw [List.append_assoc];exact List.prefix_append _ _)) (by simp +decide only [go_sem]) ⟨?_,rfl⟩
  rw [Zil]
  rw [ZpW s (by omega) (by omega),hd,g,o,h,decide_eq_false (by omega)];rfl
 simp only [Bool.or_eq_true,Bool.or_eq_false_iff,Bool.and_eq_true,Bool.and_eq_false_iff,decide_eq_true_eq,decide_eq_false_iff_not,Bool.not_eq_true',Bool.not_eq_false',Bool.not_eq_eq_eq_not,Bool.not_true,Bool.not_false] at hb
 apply Za4;simp only [go_sem]
 (repeat' apply And.intro)<;>first | refine j _ _ ?_ | (intros;omega) | (intros;simp_all;done) | (intros;simp only [Bool.or_eq_false_iff,Bool.or_eq_true,Bool.and_eq_true,Bool.and_eq_false_iff,decide_eq_true_eq,decide_eq_false_iff_not,bne_iff_ne] at *; omega)
 clear j
 apply Zaf 1 [23,24,25]
 rw [Zae];simp +decide only [go_sem,hn1,a]
 (repeat' apply And.intro)<;>first | refine ab (s.size-(k+1)) _ _ ?_ ⟨k+1,?_,rfl,?_,?_,?_,rfl⟩ | (intros;omega) | (intros;simp_all;done)
 ·
  omega
 ·
  omega
 ·
  exact g
 ·
  rw [o,h,decide_eq_true (by omega)];rfl
 ·
  simp
def Zg9 (a b:ByteArray):Int:=Lib.compareBytes a.data.toList b.data.toList
theorem Zsg (w0:World) (st:St) (a b:ByteArray):ACalls Tryz.prog w0 141 [.val (.string a),.val (.string b)] st fun v s'=>v = .val (.int .i64 (Zg9 a b))∧s'=st :=
 Zjf (ZaJ Tryz.func141 rfl (by decide)) rfl fun M w d hb c=>by
  have:=ZpX (us:=[.string a,.string b]) c
  subst this
  exact (Tryz.strings_Compare a b w).mono fun e w' ⟨h1,h2⟩=>⟨h1,h2▸Below.refl _ _⟩
theorem ZuP (w0:World) (st:St) (hT:Lib.Utf8Tabs 0 1 w0) (s:ByteArray) (hs:s.size≤maxLen):ACalls Tryz.prog w0 115 [.val (.string s)] st fun v s'=>v = .val (.bool (Lib.validD s.data.toList))∧s'=st :=
 Zjf (ZaJ Tryz.func115 rfl (by decide)) rfl fun M w b hb a=>by
  have:=ZpX (us:=[.string s]) a
  subst this
  exact Any.utf8_ValidString Tryz.laysValid s w hs (Utf8Tabs_below hT hb)
def Za6 (v:Vl):List Vl:=if v.kind=8∨v.kind=10 then v.list else if v.kind=9 then v.fields.map (·.2) else []
@[go_sem] theorem Zz8 (l:List Vl):(∀ y∈ZgE l,y.cells.length=6)↔True:=iff_true_intro (by
 rw [Zf5];intro y hy
 obtain ⟨v,_,rfl⟩:=List.mem_map.1 hy
 exact v.cs_length)
theorem ZvS (l:List Vl) (k:Nat) (h:k<l.length):(ZgE l).getD k .junk = .agg (l[k]).cs:=by
 simp [Zf5,List.getD,h]
theorem Zvi (l:List (ByteArray × Vl)) (k:Nat) (h:k<l.length):(Zkt l).getD k .junk = .agg (.val (.string (l[k]).1)::(l[k]).2.cs):=by
 simp [ZkT,List.getD,h]
theorem Zt8 (l:List (ByteArray × Vl)) (k:Nat) (h:k<l.length):ZgE ((l.take (k+1)).map (·.2))=ZgE ((l.take k).map (·.2))++[.agg (l[k]).2.cs]:=by
 rw [Zf5,Zf5,List.take_succ_eq_append_getElem h,List.map_append,List.map_append];rfl
theorem ZsE (l:List (ByteArray × Vl)) (k:Nat) (h:k≤l.length):(ZgE ((l.take k).map (·.2))).length=k:=by
 rw [ZlY,List.length_map,List.length_take];omega
theorem ZxO (w0:World) (B:List (List AV)) (Rw:List RowA) (L:List LoopA) (v:Vl) (hl:v.list.length≤1000000000000) (hf:v.fields.length≤1000000000000) :
  ACalls Tryz.prog w0 187 [.agg v.cs] ⟨B,Rw,L⟩ fun r st=>r = .list (ZgE (Za6 v)) .none∧st=⟨B,Rw,L⟩:=by
 refine ACalls.finP (ZcZ (rs:=[.tmp 2]) Tryz.func187 rfl rfl Tryz.ntmps187 (ZaJ Tryz.func187 rfl (by decide)) (Nat.le_of_ble_eq_true rfl) ?_)
 intro M0 W0 hN ah ai a hu
 have aj:=Zqz v.fields
 simp only [Zaq]
 apply Zaa;intro K1 aa
 apply Zaf 1 [1]
 rw [Zae];simp +decide only [go_sem]
 (repeat' apply And.intro)<;>first | refine aa _ _ ?_ | (intros;omega) | (intros;simp_all;done) | (intros;simp only [Bool.or_eq_false_iff,Bool.or_eq_true,Bool.and_eq_true,Bool.and_eq_false_iff,decide_eq_true_eq,decide_eq_false_iff_not,bne_iff_ne] at *; omega)
 clear aa
 apply Zaa;intro K2 ad
 apply Zaa;intro K3 w
 apply Zaf 1 [1,7]
 rw [Zae];simp +decide only [go_sem]
 (repeat' apply And.intro)<;>first | refine w _ _ ?_ | (intros;omega) | (intros;simp_all;done) | (intros;simp only [Bool.or_eq_false_iff,Bool.or_eq_true,Bool.and_eq_true,Bool.and_eq_false_iff,decide_eq_true_eq,decide_eq_false_iff_not,bne_iff_ne] at *; omega)
 clear w
 apply Zad
 apply Zaa;intro K4 d
 apply Zaa;intro K5 z
 apply Zaf 1 [1,7,8]
 rw [Zae];simp +decide only [go_sem]
 (repeat' apply And.intro)<;>first | refine z _ _ ?_ | (intros;omega) | (intros;simp_all;done) | (intros;simp only [Bool.or_eq_false_iff,Bool.or_eq_true,Bool.and_eq_true,Bool.and_eq_false_iff,decide_eq_true_eq,decide_eq_false_iff_not,bne_iff_ne] at *; omega)
 clear z
 refine ZaQ _ (by simp +decide only [go_sem]) (by simp +decide only [go_sem];rfl) (fun hb=>?_) (fun hb=>?_)
 -- JOIN
 ·
  simp only [Bool.or_eq_true,Bool.or_eq_false_iff,Bool.and_eq_true,Bool.and_eq_false_iff,decide_eq_true_eq,decide_eq_false_iff_not,Bool.not_eq_true',Bool.not_eq_false',Bool.not_eq_eq_eq_not,Bool.not_true,Bool.not_false] at hb
  apply Za4;simp only [go_sem]
  (repeat' apply And.intro)<;>first | refine d _ _ ?_ | (intros;omega) | (intros;simp_all;done) | (intros;simp only [Bool.or_eq_false_iff,Bool.or_eq_true,Bool.and_eq_true,Bool.and_eq_false_iff,decide_eq_true_eq,decide_eq_false_iff_not,bne_iff_ne] at *; omega)
  clear d
  refine ZaQ _ (by simp +decide only [go_sem]) (by simp +decide only [go_sem];rfl) (fun hb=>?_) (fun hb=>?_)
  ·
   simp only [Bool.or_eq_true,Bool.or_eq_false_iff,Bool.and_eq_true,Bool.and_eq_false_iff,decide_eq_true_eq,decide_eq_false_iff_not,Bool.not_eq_true',Bool.not_eq_false',Bool.not_eq_eq_eq_not,Bool.not_true,Bool.not_false] at hb
   apply Zaa;intro K6 y
   apply Zaf 1 [2]
   rw [Zae];simp +decide only [go_sem]
   (repeat' apply And.intro)<;>first | refine y _ _ ?_ | (intros;omega) | (intros;simp_all;done) | (intros;simp only [Bool.or_eq_false_iff,Bool.or_eq_true,Bool.and_eq_true,Bool.and_eq_false_iff,decide_eq_true_eq,decide_eq_false_iff_not,bne_iff_ne] at *; omega)
   clear y
   apply ZaO;simp +decide only [go_sem]
   refine Zlo a (by first | exact List.prefix_append _ _ | exact List.prefix_refl _ | (rw [List.append_assoc];exact List.prefix_append _ _)) (by first | exact List.prefix_append _ _ | exact List.prefix_refl _ | (rw [List.append_assoc];exact List.prefix_append _ _)) (by first | exact List.prefix_append _ _ | exact List.prefix_refl _ | (rw [List.append_assoc];exact List.prefix_append _ _)) ?_ ⟨?_,rfl⟩
   ·
    simp +decide only [go_sem]
   ·
    simp only [go_sem]
    rw [Za6,if_pos (by omega)]
  simp only [Bool.or_eq_true,Bool.or_eq_false_iff,Bool.and_eq_true,Bool.and_eq_false_iff,decide_eq_true_eq,decide_eq_false_iff_not,Bool.not_eq_true',Bool.not_eq_false',Bool.not_eq_eq_eq_not,Bool.not_true,Bool.not_false] at hb
  omega
 simp only [Bool.or_eq_true,Bool.or_eq_false_iff,Bool.and_eq_true,Bool.and_eq_false_iff,decide_eq_true_eq,decide_eq_false_iff_not,Bool.not_eq_true',Bool.not_eq_false',Bool.not_eq_eq_eq_not,Bool.not_true,Bool.not_false] at hb
 apply Zaf 1 [1,7,8]
 rw [Zae];simp +decide only [go_sem]
 (repeat' apply And.intro)<;>first | refine d _ _ ?_ | (intros;omega) | (intros;simp_all;done) | (intros;simp only [Bool.or_eq_false_iff,Bool.or_eq_true,Bool.and_eq_true,Bool.and_eq_false_iff,decide_eq_true_eq,decide_eq_false_iff_not,bne_iff_ne] at *; omega)
 clear d
 refine ZaQ _ (by simp +decide only [go_sem]) (by simp +decide only [go_sem];rfl) (fun hb=>?_) (fun hb=>?_)
 ·
  simp only [Bool.or_eq_true,Bool.or_eq_false_iff,Bool.and_eq_true,Bool.and_eq_false_iff,decide_eq_true_eq,decide_eq_false_iff_not,Bool.not_eq_true',Bool.not_eq_false',Bool.not_eq_eq_eq_not,Bool.not_true,Bool.not_false] at hb
  apply Zaa;intro K17 h
  apply Zaf 1 [2]
  rw [Zae];simp +decide only [go_sem]
  (repeat' apply And.intro)<;>first | refine h _ _ ?_ | (intros;omega) | (intros;simp_all;done) | (intros;simp only [Bool.or_eq_false_iff,Bool.or_eq_true,Bool.and_eq_true,Bool.and_eq_false_iff,decide_eq_true_eq,decide_eq_false_iff_not,bne_iff_ne] at *; omega)
  clear h
  apply ZaO;simp +decide only [go_sem]
  refine Zlo a (by first | exact List.prefix_append _ _ | exact List.prefix_refl _ | (rw [List.append_assoc];exact List.prefix_append _ _)) (by first | exact List.prefix_append _ _ | exact List.prefix_refl _ | (rw [List.append_assoc];exact List.prefix_append _ _)) (by first | exact List.prefix_append _ _ | exact List.prefix_refl _ | (rw [List.append_assoc];exact List.prefix_append _ _)) ?_ ⟨?_,rfl⟩
  ·
   simp +decide only [go_sem]
  ·
   simp only [go_sem]
   rw [Za6,if_pos (by omega)]
 simp only [Bool.or_eq_true,Bool.or_eq_false_iff,Bool.and_eq_true,Bool.and_eq_false_iff,decide_eq_true_eq,decide_eq_false_iff_not,Bool.not_eq_true',Bool.not_eq_false',Bool.not_eq_eq_eq_not,Bool.not_true,Bool.not_false] at hb
 apply Zaa;intro K18 n
 apply Zaf 1 [1,13]
 rw [Zae];simp +decide only [go_sem]
 (repeat' apply And.intro)<;>first | refine n _ _ ?_ | (intros;omega) | (intros;simp_all;done) | (intros;simp only [Bool.or_eq_false_iff,Bool.or_eq_true,Bool.and_eq_true,Bool.and_eq_false_iff,decide_eq_true_eq,decide_eq_false_iff_not,bne_iff_ne] at *; omega)
 clear n
 refine ZaQ _ (by simp +decide only [go_sem]) (by simp +decide only [go_sem];rfl) (fun hb=>?_) (fun hb=>?_)
 ·
  simp only [Bool.or_eq_true,Bool.or_eq_false_iff,Bool.and_eq_true,Bool.and_eq_false_iff,decide_eq_true_eq,decide_eq_false_iff_not,Bool.not_eq_true',Bool.not_eq_false',Bool.not_eq_eq_eq_not,Bool.not_true,Bool.not_false] at hb
  apply Zaa;intro K19 i
  apply Zaf 1 [1,3]
  rw [Zae];simp +decide only [go_sem]
  (repeat' apply And.intro)<;>first | refine i _ _ ?_ | (intros;omega) | (intros;simp_all;done) | (intros;simp only [Bool.or_eq_false_iff,Bool.or_eq_true,Bool.and_eq_true,Bool.and_eq_false_iff,decide_eq_true_eq,decide_eq_false_iff_not,bne_iff_ne] at *; omega)
  clear i
  apply Zaa;intro K20 g
  apply Zaa;intro K21 j
  apply Zaf 1 [3,16,17,18]
  rw [Zae];simp +decide only [go_sem]
  (repeat' apply And.intro)<;>first | refine j _ _ ?_ | (intros;omega) | (intros;simp_all;done) | (intros;simp only [Bool.or_eq_false_iff,Bool.or_eq_true,Bool.and_eq_true,Bool.and_eq_false_iff,decide_eq_true_eq,decide_eq_false_iff_not,bne_iff_ne] at *; omega)
  clear j
  apply Zad
  refine Zao (fun m e st=>∃ (k:Nat) (o:Ev.Own) (r:List RowA) (X:List (List AV)),k≤v.fields.length∧m=v.fields.length-k∧Grow Rw 6 (ZgE ((v.fields.take k).map (·.2))) o r ∧
   e=[(3,true,.list (ZgE ((v.fields.take k).map (·.2))) o),(16,true,.list (Zkt v.fields) .none),(17,true,.val (.int .i64 v.fields.length)),(18,true,.val (.int .i64 k))]∧st=⟨B++X,Rw++r,L⟩) v.fields.length ⟨0,.full,[],[v.cs],by omega,rfl,.nil _ _,rfl,by simp⟩ ?_
  rintro m e st ⟨k,o,r,X,hk,rfl,ag,rfl,rfl⟩ KR ae
  obtain ⟨x,hx⟩:∃ x,(Zkt v.fields).getD k .junk=x:=⟨_,rfl⟩
  have b:=Zpo (P:=Tryz.prog) Zou (by rw [ZjH];rfl) (by decide) ag
  have c:=ZsE v.fields k hk
  apply Zaa;intro K22 s
  apply Zaf 1 [3,16,17,18,19]
  rw [Zae];simp +decide only [go_sem,hx,b,c]
  (repeat' apply And.intro)<;>first | refine s _ _ ?_ | (intros;omega) | (intros;simp_all;done) | (intros;simp only [Bool.or_eq_false_iff,Bool.or_eq_true,Bool.and_eq_true,Bool.and_eq_false_iff,decide_eq_true_eq,decide_eq_false_iff_not,bne_iff_ne] at *; omega)
  clear s
  apply Zaa;intro K23 q
  refine ZaQ _ (by simp +decide only [go_sem]) (by simp +decide only [go_sem];rfl) (fun hb=>?_) (fun hb=>?_)
  rotate_left
  ·
   simp only [Bool.or_eq_true,Bool.or_eq_false_iff,Bool.and_eq_true,Bool.and_eq_false_iff,decide_eq_true_eq,decide_eq_false_iff_not,Bool.not_eq_true',Bool.not_eq_false',Bool.not_eq_eq_eq_not,Bool.not_true,Bool.not_false] at hb
   apply Ziw;simp +decide only [go_sem,hx,b,c]
   (repeat' apply And.intro)<;>first | refine g _ _ ?_ | (intros;omega) | (intros;simp_all;done) | (intros;simp only [Bool.or_eq_false_iff,Bool.or_eq_true,Bool.and_eq_true,Bool.and_eq_false_iff,decide_eq_true_eq,decide_eq_false_iff_not,bne_iff_ne] at *; omega)
   clear g
   apply Zaa;intro K24 f
   apply Zaf 1 [2]
   rw [Zae];simp +decide only [go_sem,hx,b,c]
   (repeat' apply And.intro)<;>first | refine f _ _ ?_ | (intros;omega) | (intros;simp_all;done) | (intros;simp only [Bool.or_eq_false_iff,Bool.or_eq_true,Bool.and_eq_true,Bool.and_eq_false_iff,decide_eq_true_eq,decide_eq_false_iff_not,bne_iff_ne] at *; omega)
   clear f
   apply ZaO;simp +decide only [go_sem]
   refine Zlo a (by first | exact List.prefix_append _ _ | exact List.prefix_refl _ | (rw [List.append_assoc];exact List.prefix_append _ _)) (by first | exact List.prefix_append _ _ | exact List.prefix_refl _ | (rw [List.append_assoc];exact List.prefix_append _ _)) (by first | exact List.prefix_append _ _ | exact List.prefix_refl _ | (rw [List.append_assoc];exact List.prefix_append _ _)) ?_ ⟨?_,rfl⟩
   ·
    simp +decide only [go_sem]
   ·
    simp only [go_sem]
    rw [Za6,if_neg (by omega),if_pos (by omega),List.take_of_length_le (by omega)]
  simp only [Bool.or_eq_true,Bool.or_eq_false_iff,Bool.and_eq_true,Bool.and_eq_false_iff,decide_eq_true_eq,decide_eq_false_iff_not,Bool.not_eq_true',Bool.not_eq_false',Bool.not_eq_eq_eq_not,Bool.not_true,Bool.not_false] at hb
  have u:k<v.fields.length:=by omega
  have hx2:=Zvi v.fields k u
  rw [hx] at hx2
  subst hx2
  have af:=Zt8 v.fields k u
  have ab:=ZsE v.fields (k+1) (by omega)
  apply Za4;simp only [go_sem]
  (repeat' apply And.intro)<;>first | refine q _ _ ?_ | (intros;omega) | (intros;simp_all;done) | (intros;simp only [Bool.or_eq_false_iff,Bool.or_eq_true,Bool.and_eq_true,Bool.and_eq_false_iff,decide_eq_true_eq,decide_eq_false_iff_not,bne_iff_ne] at *; omega)
  clear q
  apply Zaa;intro K25 t
  apply Zad
  apply Zaa;intro K26 p
  apply Zaf 1 [3,5,16,17,18]
  rw [Zae];simp +decide only [go_sem,hx,b,c]
  (repeat' apply And.intro)<;>first | refine p _ _ ?_ | (intros;omega) | (intros;simp_all;done) | (intros;simp only [Bool.or_eq_false_iff,Bool.or_eq_true,Bool.and_eq_true,Bool.and_eq_false_iff,decide_eq_true_eq,decide_eq_false_iff_not,bne_iff_ne] at *; omega)
  clear p
  apply Zaf 1 [3,16,17,18]
  rw [Zae];simp +decide only [go_sem,hx,b,c]
  (repeat' apply And.intro)<;>first | refine t _ _ ?_ | (intros;omega) | (intros;simp_all;done) | (intros;simp only [Bool.or_eq_false_iff,Bool.or_eq_true,Bool.and_eq_true,Bool.and_eq_false_iff,decide_eq_true_eq,decide_eq_false_iff_not,bne_iff_ne] at *; omega)
  clear t
  apply Zaf 1 [3,16,17,18]
  rw [Zae];simp +decide only [go_sem,hx,b,c]
  (repeat' apply And.intro)<;>first | refine ae (v.fields.length-(k+1)) _ _ ?_ ⟨k+1,.row Rw.length,[.grow (k+1) 6],_,?_,rfl,.more _ _ _ _ ab,?_,rfl⟩ | (intros;omega) | (intros;simp_all;done)
  ·
   omega
  ·
   omega
  ·
   rw [af];simp
 simp only [Bool.or_eq_true,Bool.or_eq_false_iff,Bool.and_eq_true,Bool.and_eq_false_iff,decide_eq_true_eq,decide_eq_false_iff_not,Bool.not_eq_true',Bool.not_eq_false',Bool.not_eq_eq_eq_not,Bool.not_true,Bool.not_false] at hb
 apply Za4;simp only [go_sem]
 (repeat' apply And.intro)<;>first | refine ad _ _ ?_ | (intros;omega) | (intros;simp_all;done) | (intros;simp only [Bool.or_eq_false_iff,Bool.or_eq_true,Bool.and_eq_true,Bool.and_eq_false_iff,decide_eq_true_eq,decide_eq_false_iff_not,bne_iff_ne] at *; omega)
 clear ad
 apply Zaa;intro K27 l
 apply Zaf 1 [2]
 rw [Zae];simp +decide only [go_sem]
 (repeat' apply And.intro)<;>first | refine l _ _ ?_ | (intros;omega) | (intros;simp_all;done) | (intros;simp only [Bool.or_eq_false_iff,Bool.or_eq_true,Bool.and_eq_true,Bool.and_eq_false_iff,decide_eq_true_eq,decide_eq_false_iff_not,bne_iff_ne] at *; omega)
 clear l
 apply ZaO;simp +decide only [go_sem]
 refine Zlo a (by first | exact List.prefix_append _ _ | exact List.prefix_refl _ | (rw [List.append_assoc];exact List.prefix_append _ _)) (by first | exact List.prefix_append _ _ | exact List.prefix_refl _ | (rw [List.append_assoc];exact List.prefix_append _ _)) (by first | exact List.prefix_append _ _ | exact List.prefix_refl _ | (rw [List.append_assoc];exact List.prefix_append _ _)) ?_ ⟨?_,rfl⟩
 ·
  simp +decide only [go_sem]
 ·
  simp only [go_sem]
  rw [Za6,if_neg (by omega),if_neg (by omega)];rfl
mutual
def Zha (lv:Nat):Vl→List (Nat × Vl)
 | .mk k i s t l f=>(lv,.mk k i s t l f)::(if k=8∨k=10 then Zw0 (lv+1) l else if k=9 then Zxf (lv+1) f else [])
def Zw0 (lv:Nat):List Vl→List (Nat × Vl)
 | []=>[]
 | v::r=>Zha lv v++Zw0 lv r
def Zxf (lv:Nat):List (ByteArray × Vl)→List (Nat × Vl)
 | []=>[]
 | (_,v)::r=>Zha lv v++Zxf lv r
end
theorem ZsY (lv:Nat):∀ l,Zw0 lv l=l.flatMap (Zha lv)
 | []=>rfl
 | v::r=>by simp [Zw0,ZsY lv r]
theorem Zs9 (lv:Nat):∀ l,Zxf lv l=(l.map (·.2)).flatMap (Zha lv)
 | []=>rfl
 | (_,v)::r=>by simp [Zxf,Zs9 lv r]
theorem Zhp (lv:Nat) (v:Vl):Zha lv v=(lv,v)::(Za6 v).flatMap (Zha (lv+1)):=by
 obtain ⟨k,i,s,t,l,f⟩:=v
 simp only [Zha,Za6,Vl.kind,Vl.list,Vl.fields,ZsY,Zs9]
 by_cases h1:k=8∨k=10
 ·
  simp only [h1,if_true]
 ·
  by_cases h2:k=9
  ·
   subst h2;simp
  ·
   simp only [h1,h2,if_false,List.flatMap_nil]
theorem Zqe {α β:Type} (f:α→List β) (l:List α) (q:Nat) (h:q<l.length):((l.take (q+1)).flatMap f).length=((l.take q).flatMap f).length+(f l[q]).length:=by
 rw [List.take_succ_eq_append_getElem h,List.flatMap_append,List.length_append];simp
theorem Zsc {α β:Type} (f:α→List β) (l:List α) (q:Nat) (h:q<l.length) (j:Nat) (x:β) (hx:(f l[q])[j]? = some x):(l.flatMap f)[((l.take q).flatMap f).length+j]? = some x:=by
 have e:l=l.take q++l[q]::l.drop (q+1):=by rw [←List.drop_eq_getElem_cons h,List.take_append_drop]
 have e2:l.flatMap f=(l.take q).flatMap f++(f l[q]++(l.drop (q+1)).flatMap f):=by
  conv=>lhs;rw [e]
  rw [List.flatMap_append,List.flatMap_cons]
 rw [e2,List.getElem?_append_right (by omega),Nat.add_sub_cancel_left,List.getElem?_append_left (List.getElem?_eq_some_iff.1 hx).1,hx]
theorem ZjZ:∀ (l:List Vl) (v:Vl),v∈l→v.size≤Zf6 l
 | [],_,h=>by simp at h
 | a::r,v,h=>by
  rcases List.mem_cons.1 h with rfl | h
  ·
   simp [Zf6]
  ·
   have:=ZjZ r v h
   simp [Zf6];omega
theorem ZjU:∀ (l:List (ByteArray × Vl)) (p:ByteArray × Vl),p∈l→p.2.size≤Zfo l
 | [],_,h=>by simp at h
 | (n,a)::r,p,h=>by
  rcases List.mem_cons.1 h with rfl | h
  ·
   simp [Zfo]
  ·
   have:=ZjU r p h
   simp [Zfo];omega
theorem Vl.size_pos (v:Vl):0<v.size:=by cases v;simp [Vl.size];omega
theorem Zh0:∀ l:List Vl,l.length≤Zf6 l
 | []=>Nat.le_refl _
 | v::r=>by have:=Zh0 r;have:=v.size_pos;simp [Zf6];omega
theorem Zhz:∀ l:List (ByteArray × Vl),l.length≤Zfo l
 | []=>Nat.le_refl _
 | (n,v)::r=>by have:=Zhz r;have:=v.size_pos;simp [Zfo];omega
theorem Vl.size_eq (v:Vl):v.size=1+Zf6 v.list+Zfo v.fields:=by cases v;simp [Vl.size,Vl.list,Vl.fields]
theorem ZvZ (v x:Vl) (h:x∈Za6 v):x.size<v.size:=by
 have e:=v.size_eq
 unfold Za6 at h
 split at h
 ·
  have:=ZjZ _ _ h;omega
 ·
  split at h
  ·
   obtain ⟨p,hp,rfl⟩:=List.mem_map.1 h
   have:=ZjU _ _ hp;omega
  ·
   simp at h
theorem ZdR (v:Vl):v.list.length<v.size∧v.fields.length<v.size∧(Za6 v).length<v.size:=by
 have e:=v.size_eq
 have h1:=Zh0 v.list
 have h2:=Zhz v.fields
 refine ⟨by omega,by omega,?_⟩
 unfold Za6
 split
 ·
  omega
 ·
  split
  ·
   simp;omega
  ·
   simp;omega
mutual
def Vl.wide:Vl→Bool
 | .mk _ _ _ _ l f=>decide (l.length≤1000000000000)&&decide (f.length≤1000000000000)&&Zqh l&&Zqj f
def Zqh:List Vl→Bool
 | []=>true
 | v::r=>v.wide&&Zqh r
def Zqj:List (ByteArray × Vl)→Bool
 | []=>true
 | (_,v)::r=>v.wide&&Zqj r
end
theorem Zo0:∀ l,Zqh l=true↔∀ v∈l,v.wide=true
 | []=>by simp [Zqh]
 | v::r=>by simp [Zqh,Zo0 r]
theorem Zoo:∀ l,Zqj l=true↔∀ p∈l,p.2.wide=true
 | []=>by simp [Zqj]
 | (n,v)::r=>by simp [Zqj,Zoo r]
theorem Vl.wide_iff (v:Vl):v.wide=true↔v.list.length≤1000000000000∧v.fields.length≤1000000000000∧(∀ x∈v.list,x.wide=true)∧∀ p∈v.fields,p.2.wide=true:=by
 cases v;simp only [Vl.wide,Bool.and_eq_true,decide_eq_true_eq,Zo0,Zoo,Vl.list,Vl.fields,and_assoc]
theorem Zrh {v x:Vl} (h:v.wide=true) (hx:x∈Za6 v):x.wide=true:=by
 obtain ⟨_,_,h1,h2⟩:=v.wide_iff.1 h
 unfold Za6 at hx
 split at hx
 ·
  exact h1 x hx
 ·
  split at hx
  ·
   obtain ⟨p,hp,rfl⟩:=List.mem_map.1 hx
   exact h2 p hp
  ·
   simp at hx
theorem Ze9:∀ (k:Nat) (v:Vl),v.size≤k→v.size≤1000000000000→v.wide=true
 | 0,v,h,_=>by have:=v.size_pos;omega
 | k+1,v,h,h2=>by
  have e:=v.size_eq
  obtain ⟨a,b,_⟩:=ZdR v
  refine v.wide_iff.2 ⟨by omega,by omega,fun x hx=>?_,fun p hp=>?_⟩
  ·
   have:=ZjZ _ _ hx;exact Ze9 k x (by omega) (by omega)
  ·
   have:=ZjU _ _ hp;exact Ze9 k p.2 (by omega) (by omega)
mutual
def Vl.depth:Vl→Nat
 | .mk _ _ _ _ l f=>1+max (Zgw l) (ZfD f)
def Zgw:List Vl→Nat
 | []=>0
 | t::r=>max t.depth (Zgw r)
def ZfD:List (ByteArray × Vl)→Nat
 | []=>0
 | (_,t)::r=>max t.depth (ZfD r)
end
theorem ZfL:∀ (l:List Vl) (d:Nat),Zgw l≤d↔∀ v∈l,v.depth≤d
 | [],d=>by simp [Zgw]
 | v::r,d=>by simp [Zgw,Nat.max_le,ZfL r d]
theorem ZgK:∀ (l:List (ByteArray × Vl)) (d:Nat),ZfD l≤d↔∀ v∈l,v.2.depth≤d
 | [],d=>by simp [ZfD]
 | (_,t)::r,d=>by simp [ZfD,Nat.max_le,ZgK r d]
theorem Vl.depth_eq (v:Vl):v.depth=1+Max.max (Zgw v.list) (ZfD v.fields):=by cases v;simp [Vl.depth,Vl.list,Vl.fields]
theorem depth_part {v x:Vl} (h:x∈Za6 v):x.depth<v.depth:=by
 have e:=v.depth_eq
 unfold Za6 at h
 split at h
 ·
  have:=(ZfL v.list _).1 (Nat.le_refl _) x h;omega
 ·
  split at h
  ·
   obtain ⟨p,hp,rfl⟩:=List.mem_map.1 h
   have:=(ZgK v.fields _).1 (Nat.le_refl _) p hp;omega
  ·
   simp at h
mutual
theorem Vl.depth_size:∀ v:Vl,v.depth≤v.size
 | .mk _ _ _ _ l f=>by have:=Zmi l;have:=Zmj f;simp only [Vl.depth,Vl.size];omega
theorem Zmi:∀ l:List Vl,Zgw l≤Zf6 l
 | []=>Nat.le_refl _
 | v::r=>by have:=v.depth_size;have:=Zmi r;simp only [Zgw,Zf6];omega
theorem Zmj:∀ l:List (ByteArray × Vl),ZfD l≤Zfo l
 | []=>Nat.le_refl _
 | (_,v)::r=>by have:=v.depth_size;have:=Zmj r;simp only [ZfD,Zfo];omega
end
def ZwX (p:Nat × Vl):List AV:=[.val (.int .i64 p.1),.agg p.2.cs]
def Zvf (w0:World) (items:List (List AV)) (k:Nat) (J:Nat→St→Prop) (Jx:St→Prop):Prop :=
 ∀ i SB SR SL x XB XL,J i ⟨SB,SR,SL⟩→items[i]? = some x→Zq9 Tryz.prog w0 k x ⟨SB++XB,SR,SL++XL⟩ fun r s'=>∃ TB TR TL b,r = .val (.bool b)∧s'=⟨TB++XB,TR,TL++XL⟩∧TB.length=SB.length∧SR.length≤TR.length∧TL.length=SL.length∧(b=true→J (i+1) ⟨TB,TR,TL⟩)∧(b=false→Jx ⟨TB,TR,TL⟩)
def Zvu (w0:World) (items:List (List AV)) (k:Nat) (J:Nat→St→Prop) (Jx:St→Prop) (v:Vl):Prop :=
 ∀ (lv i:Nat) (lvi:Int) SB SR SL XB XL,lv+v.depth≤4611686018427387904→v.wide=true→J i ⟨SB,SR,SL⟩→lvi=lv→(∀ j x,(Zha lv v)[j]? = some x→items[i+j]? = some (ZwX x)) →
  ACalls Tryz.prog w0 123 [.agg v.cs,.val (.int .i64 lvi),.yld k] ⟨SB++XB,SR,SL++XL⟩ fun r s'=>∃ TB TR TL XB' b,r = .val (.bool b)∧s'=⟨TB++(XB++XB'),TR,TL++XL⟩∧TB.length=SB.length∧SR.length≤TR.length∧TL.length=SL.length∧(b=true→J (i+(Zha lv v).length) ⟨TB,TR,TL⟩)∧(b=false→Jx ⟨TB,TR,TL⟩)
theorem Zun (w0:World) (items:List (List AV)) (k:Nat) (J:Nat→St→Prop) (Jx:St→Prop) (hY:Zvf w0 items k J Jx) (v:Vl) (ih:∀ x,x.size<v.size→Zvu w0 items k J Jx x):Zvu w0 items k J Jx v:=by
 intro lv i aw SB SR SL XB XL ay f h0 hle ah
 subst hle
 obtain ⟨p,ae,_⟩:=v.wide_iff.1 f
 have am:(Za6 v).length≤1000000000000:=by
  unfold Za6
  split
  ·
   exact p
  ·
   split
   ·
    simpa using ae
   ·
    simp
 refine ZcZ (rs:=[.tmp 6]) Tryz.func123 rfl rfl Tryz.ntmps123 (ZaJ Tryz.func123 rfl (by decide)) (Nat.le_of_ble_eq_true rfl) ?_
 intro M0 W0 hN av ax aj hu
 obtain ⟨az,au,ak⟩:=ZdR v
 have d:=Zhp lv v
 have c:=ZlY (Za6 v)
 obtain ⟨ps,hpe⟩:∃ ps,Za6 v=ps:=⟨_,rfl⟩
 have u:items[i]? = some (ZwX (lv,v)):=by
  have:=ah 0 (lv,v) (by rw [d];rfl)
  simpa using this
 simp only [Zaq]
 apply Zaa;intro K1 aa
 apply Zaf 1 [1,2,3]
 rw [Zae];simp +decide only [go_sem]
 (repeat' apply And.intro)<;>first | refine aa _ _ ?_ | (intros;omega) | (intros;simp_all;done) | (intros;simp only [Bool.or_eq_false_iff,Bool.or_eq_true,Bool.and_eq_true,Bool.and_eq_false_iff,decide_eq_true_eq,decide_eq_false_iff_not,bne_iff_ne] at *; omega)
 clear aa
 apply Zaa;intro K2 af
 apply Zaa;intro K3 t
 apply Zaf 2 [1,2,3,13]
 rw [Zae];simp +decide only [go_sem]
 (repeat' apply And.intro)<;>first | refine ZrQ _ (fun _=>hY i SB SR SL _ (XB++[v.cs]) XL h0 u) (fun r s' hp _=>?_) | (intros;omega) | (intros;simp_all;done) | (intros;simp only [Bool.or_eq_false_iff,Bool.or_eq_true,Bool.and_eq_true,Bool.and_eq_false_iff,decide_eq_true_eq,decide_eq_false_iff_not,bne_iff_ne] at *; omega)
 obtain ⟨TB,TR,TL,b,rfl,rfl,l1,l2,l3,ar,hp2⟩:=hp rfl
 rw [←l1]
 rw [Zae];simp +decide only [go_sem]
 (repeat' apply And.intro)<;>first | refine t _ _ ?_ | (intros;omega) | (intros;simp_all;done) | (intros;simp only [Bool.or_eq_false_iff,Bool.or_eq_true,Bool.and_eq_true,Bool.and_eq_false_iff,decide_eq_true_eq,decide_eq_false_iff_not,bne_iff_ne] at *; omega)
 clear t
 refine ZaQ _ (by simp +decide only [go_sem]) (by simp +decide only [go_sem];rfl) (fun hb=>?_) (fun hb=>?_)
 ·
  simp only [Bool.not_eq_true'] at hb
  apply Zaa;intro K4 ab
  apply Zaf 1 [6]
  rw [Zae];simp +decide only [go_sem]
  (repeat' apply And.intro)<;>first | refine ab _ _ ?_ | (intros;omega) | (intros;simp_all;done) | (intros;simp only [Bool.or_eq_false_iff,Bool.or_eq_true,Bool.and_eq_true,Bool.and_eq_false_iff,decide_eq_true_eq,decide_eq_false_iff_not,bne_iff_ne] at *; omega)
  clear ab
  apply ZaO;simp +decide only [go_sem]
  exact ⟨TB,TR,TL,[v.cs],false,rfl,rfl,l1,l2,l3,fun h=>(by cases h),fun _=>hp2 hb⟩
 simp only [Bool.not_eq_false'] at hb
 apply Za4;simp only [go_sem]
 (repeat' apply And.intro)<;>first | refine af _ _ ?_ | (intros;omega) | (intros;simp_all;done) | (intros;simp only [Bool.or_eq_false_iff,Bool.or_eq_true,Bool.and_eq_true,Bool.and_eq_false_iff,decide_eq_true_eq,decide_eq_false_iff_not,bne_iff_ne] at *; omega)
 clear af
 apply Zaa;intro K5 y
 apply Zaa;intro K6 w
 apply Zaf 2 [1,2,15,16,17]
 rw [Zae];simp +decide only [go_sem]
 (repeat' apply And.intro)<;>first | refine Zkj _ (ZxO w0 _ TR _ v p ae) ?_ | (intros;omega) | (intros;simp_all;done) | (intros;simp only [Bool.or_eq_false_iff,Bool.or_eq_true,Bool.and_eq_true,Bool.and_eq_false_iff,decide_eq_true_eq,decide_eq_false_iff_not,bne_iff_ne] at *; omega)
 rw [hpe] at c ak am d ⊢
 rw [Zae];simp +decide only [go_sem]
 (repeat' apply And.intro)<;>first | refine w _ _ ?_ | (intros;omega) | (intros;simp_all;done) | (intros;simp only [Bool.or_eq_false_iff,Bool.or_eq_true,Bool.and_eq_true,Bool.and_eq_false_iff,decide_eq_true_eq,decide_eq_false_iff_not,bne_iff_ne] at *; omega)
 clear w
 apply Zad
 refine Zao (fun m e st=>∃ (q:Nat) (UB:List (List AV)) (UR:List RowA) (UL:List LoopA) (XB':List (List AV)),q≤ps.length∧m=ps.length-q∧J (i+1+((ps.take q).flatMap (Zha (lv+1))).length) ⟨UB,UR,UL⟩∧UB.length=SB.length∧SR.length≤UR.length∧UL.length=SL.length∧e=[(1,true,.val (.int .i64 lv)),(2,true,.yld k),(15,true,.list (ZgE ps) .none),(16,true,.val (.int .i64 ps.length)),(17,true,.val (.int .i64 q))]∧st=⟨UB++(XB++XB'),UR,UL++XL⟩) ps.length ⟨0,TB,TR,TL,[v.cs],by omega,rfl,by simpa using ar hb,l1,l2,l3,rfl,by simp⟩ ?_
 rintro m e st ⟨q,UB,UR,UL,XB',hq,rfl,hj,m1,m2,m3,rfl,rfl⟩ KR ai
 obtain ⟨x,hx⟩:∃ x,(ZgE ps).getD q .junk=x:=⟨_,rfl⟩
 apply Zaa;intro K7 ag
 apply Zaf 1 [1,2,15,16,17,18]
 rw [Zae];simp +decide only [go_sem,hx,c]
 (repeat' apply And.intro)<;>first | refine ag _ _ ?_ | (intros;omega) | (intros;simp_all;done) | (intros;simp only [Bool.or_eq_false_iff,Bool.or_eq_true,Bool.and_eq_true,Bool.and_eq_false_iff,decide_eq_true_eq,decide_eq_false_iff_not,bne_iff_ne] at *; omega)
 clear ag
 apply Zaa;intro K8 ad
 refine ZaQ _ (by simp +decide only [go_sem]) (by simp +decide only [go_sem];rfl) (fun hb=>?_) (fun hb=>?_)
 rotate_left
 ·
  simp only [Bool.or_eq_true,Bool.or_eq_false_iff,Bool.and_eq_true,Bool.and_eq_false_iff,decide_eq_true_eq,decide_eq_false_iff_not,Bool.not_eq_true',Bool.not_eq_false',Bool.not_eq_eq_eq_not,Bool.not_true,Bool.not_false] at hb
  apply Ziw;simp +decide only [go_sem,hx,c]
  (repeat' apply And.intro)<;>first | refine y _ _ ?_ | (intros;omega) | (intros;simp_all;done) | (intros;simp only [Bool.or_eq_false_iff,Bool.or_eq_true,Bool.and_eq_true,Bool.and_eq_false_iff,decide_eq_true_eq,decide_eq_false_iff_not,bne_iff_ne] at *; omega)
  clear y
  apply Zaa;intro K9 s
  apply Zaf 1 [6]
  rw [Zae];simp +decide only [go_sem,hx,c]
  (repeat' apply And.intro)<;>first | refine s _ _ ?_ | (intros;omega) | (intros;simp_all;done) | (intros;simp only [Bool.or_eq_false_iff,Bool.or_eq_true,Bool.and_eq_true,Bool.and_eq_false_iff,decide_eq_true_eq,decide_eq_false_iff_not,bne_iff_ne] at *; omega)
  clear s
  apply ZaO;simp +decide only [go_sem]
  refine ⟨UB,UR,UL,XB',true,rfl,rfl,m1,m2,m3,fun _=>?_,fun h=>(by cases h)⟩
  rw [List.take_of_length_le (by omega)] at hj
  rw [d,List.length_cons,show i+((ps.flatMap (Zha (lv+1))).length+1)=i+1+(ps.flatMap (Zha (lv+1))).length by omega]
  exact hj
 simp only [Bool.or_eq_true,Bool.or_eq_false_iff,Bool.and_eq_true,Bool.and_eq_false_iff,decide_eq_true_eq,decide_eq_false_iff_not,Bool.not_eq_true',Bool.not_eq_false',Bool.not_eq_eq_eq_not,Bool.not_true,Bool.not_false] at hb
 have a:q<ps.length:=by omega
 have hx2:=ZvS ps q a
 rw [hx] at hx2
 subst hx2
 have ap:=Zqe (Zha (lv+1)) ps q a
 have z:∀ j x,(Zha (lv+1) (ps[q]'a))[j]? = some x→items[i+1+((ps.take q).flatMap (Zha (lv+1))).length+j]? = some (ZwX x):=fun j x ao=>by
  have h1:=Zsc (Zha (lv+1)) ps q a j x ao
  have h2:=ah (((ps.take q).flatMap (Zha (lv+1))).length+j+1) x (by rw [d,List.getElem?_cons_succ,h1])
  rw [show i+1+((ps.take q).flatMap (Zha (lv+1))).length+j=i+(((ps.take q).flatMap (Zha (lv+1))).length+j+1) by omega]
  exact h2
 apply Za4;simp only [go_sem]
 (repeat' apply And.intro)<;>first | refine ad _ _ ?_ | (intros;omega) | (intros;simp_all;done) | (intros;simp only [Bool.or_eq_false_iff,Bool.or_eq_true,Bool.and_eq_true,Bool.and_eq_false_iff,decide_eq_true_eq,decide_eq_false_iff_not,bne_iff_ne] at *; omega)
 clear ad
 apply Zaa;intro K10 l
 apply Zad
 apply Zaa;intro K11 o
 apply Zaf 1 [1,2,8,15,16,17]
 rw [Zae];simp +decide only [go_sem,hx,c]
 (repeat' apply And.intro)<;>first | refine o _ _ ?_ | (intros;omega) | (intros;simp_all;done) | (intros;simp only [Bool.or_eq_false_iff,Bool.or_eq_true,Bool.and_eq_true,Bool.and_eq_false_iff,decide_eq_true_eq,decide_eq_false_iff_not,bne_iff_ne] at *; omega)
 clear o
 apply Zaa;intro K12 n
 apply Zaf 2 [1,2,15,16,17,26]
 rw [Zae];simp +decide only [go_sem,hx,c]
 (repeat' apply And.intro)<;>first | refine Zol _ (ih (ps[q]'a) (ZvZ v _ (by rw [hpe];exact List.getElem_mem a)) (lv+1) _ _ UB UR UL (XB++(XB'++[(ps[q]'a).cs])) XL (by have:=depth_part (v:=v) (x:=ps[q]'a) (by rw [hpe];exact List.getElem_mem a);omega) (Zrh f (by rw [hpe];exact List.getElem_mem a)) hj (by omega) z) ?_ | (intros;omega) | (intros;simp_all;done) | (intros;simp only [Bool.or_eq_false_iff,Bool.or_eq_true,Bool.and_eq_true,Bool.and_eq_false_iff,decide_eq_true_eq,decide_eq_false_iff_not,bne_iff_ne] at *; omega)
 rintro r s' ⟨VB,VR,VL,XB2,b2,rfl,rfl,n1,n2,n3,aq,np2⟩
 rw [Zae];simp +decide only [go_sem,hx,c]
 (repeat' apply And.intro)<;>first | refine n _ _ ?_ | (intros;omega) | (intros;simp_all;done) | (intros;simp only [Bool.or_eq_false_iff,Bool.or_eq_true,Bool.and_eq_true,Bool.and_eq_false_iff,decide_eq_true_eq,decide_eq_false_iff_not,bne_iff_ne] at *; omega)
 clear n
 refine ZaQ _ (by simp +decide only [go_sem]) (by simp +decide only [go_sem];rfl) (fun hb=>?_) (fun hb=>?_)
 ·
  simp only [Bool.not_eq_true'] at hb
  apply Zaa;intro K13 g
  apply Zaf 1 [6]
  rw [Zae];simp +decide only [go_sem,hx,c]
  (repeat' apply And.intro)<;>first | refine g _ _ ?_ | (intros;omega) | (intros;simp_all;done) | (intros;simp only [Bool.or_eq_false_iff,Bool.or_eq_true,Bool.and_eq_true,Bool.and_eq_false_iff,decide_eq_true_eq,decide_eq_false_iff_not,bne_iff_ne] at *; omega)
  clear g
  apply ZaO;simp +decide only [go_sem]
  exact ⟨VB,VR,VL,XB'++([(ps[q]'a).cs]++XB2),false,rfl,by simp,by omega,by omega,by omega,fun h=>(by cases h),fun _=>np2 hb⟩
 simp only [Bool.not_eq_false'] at hb
 apply Za4;simp only [go_sem]
 (repeat' apply And.intro)<;>first | refine l _ _ ?_ | (intros;omega) | (intros;simp_all;done) | (intros;simp only [Bool.or_eq_false_iff,Bool.or_eq_true,Bool.and_eq_true,Bool.and_eq_false_iff,decide_eq_true_eq,decide_eq_false_iff_not,bne_iff_ne] at *; omega)
 clear l
 apply Zaf 1 [1,2,15,16,17]
 rw [Zae];simp +decide only [go_sem,hx,c]
 (repeat' apply And.intro)<;>first | refine ai (ps.length-(q+1)) _ _ ?_ ⟨q+1,VB,VR,VL,XB'++([(ps[q]'a).cs]++XB2),?_,rfl,?_,?_,?_,?_,?_,?_⟩ | (intros;omega) | (intros;simp_all;done)
 ·
  omega
 ·
  omega
 ·
  rw [ap];have:=aq hb;rwa [Nat.add_assoc (i+1)] at this
 ·
  omega
 ·
  omega
 ·
  omega
 ·
  simp
 ·
  simp
theorem Ztr (w0:World) (items:List (List AV)) (k:Nat) (J:Nat→St→Prop) (Jx:St→Prop) (hY:Zvf w0 items k J Jx):∀ (n:Nat) (v:Vl),v.size≤n→Zvu w0 items k J Jx v
 | 0,v,h=>by have:=v.size_pos;omega
 | n+1,v,h=>Zun w0 items k J Jx hY v fun x hx=>Ztr w0 items k J Jx hY n x (by omega)
def ZhE (v:Vl):List (List AV):=(Zha 1 v).map ZwX
theorem Zim (w0:World) (v:Vl) (hv:v.depth<4611686018427387904∧v.wide=true) (l:Nat):ZBb Tryz.prog w0 122 [.box l 0] (ZhE v) (fun st=>st.boxes[l]? = some v.cs):=by
 intro k J Jx hJ hY s0 h0
 have hR:Zvf w0 (ZhE v) k J (fun s=>Jx s):=by
  intro i SB SR SL x XB XL hj hx
  have:=hY i ⟨SB,SR,SL⟩ x ⟨XB,[],XL⟩ rfl hj hx
  simp only [St.ext,List.append_nil] at this
  intro M w e h1 h2
  obtain ⟨fn,d,m,f,e1,e2⟩:=this M w e h1 h2
  refine ⟨fn,d,m,f,e1,fun n=>(e2 n).mono ?_⟩
  intro en w' hc
  refine hc.mono ?_
  rintro r s ⟨⟨TB,TR,TL⟩,rfl,⟨q1,q2,q3⟩,hp⟩
  rcases hp with ⟨rfl,hp⟩ | ⟨rfl,hp⟩
  ·
   exact ⟨TB,TR,TL,true,rfl,rfl,q1,q2,q3,fun _=>hp,fun h=>(by cases h)⟩
  ·
   exact ⟨TB,TR,TL,false,rfl,rfl,q1,q2,q3,fun h=>(by cases h),fun _=>hp⟩
 obtain ⟨a,t⟩:=hJ _ _ h0
 obtain ⟨SB,SR,SL⟩:=s0
 have hl:l<SB.length:=(List.getElem?_eq_some_iff.1 a).1
 have e1:Zds ⟨SB,SR,SL⟩ (.box l 0)=true:=by simp [Zds,hl]
 have e2:Za7 ⟨SB,SR,SL⟩ (.box l 0)=v.cs:=by
  simp only at a
  simp [Za7,List.getD,a]
 have c:=Ztr w0 (ZhE v) k J Jx hR v.size v (Nat.le_refl _) 1 0 1 SB SR SL [] [] (by omega) hv.2 h0 rfl (fun j x hx=>by simp [ZhE,hx])
 simp only [List.append_nil,List.nil_append,Nat.zero_add] at c
 refine ZcZ (rs:=[]) Tryz.func122 rfl rfl Tryz.ntmps122 (ZaJ Tryz.func122 rfl (by decide)) (Nat.le_of_ble_eq_true rfl) ?_
 intro M0 W0 hN q u g hu
 simp only [Zaq]
 apply Zaf 2 []
 rw [Zae];simp +decide only [go_sem,e1,e2]
 (repeat' apply And.intro)<;>first | refine Zol _ c ?_ | (intros;omega) | (intros;simp_all;done)
 rintro r s ⟨TB,TR,TL,XB',b,rfl,rfl,q1,q2,q3,p,o⟩
 rw [Zae];simp +decide only [go_sem]
 refine ⟨⟨TB,TR,TL⟩,⟨XB',[],[]⟩,rfl,by simp [St.ext],?_⟩
 cases b with
 | true=>exact .inl (by have:=p rfl;simpa [ZhE] using this)
 | false=>exact .inr (o rfl)
theorem Zix (v:Vl):(ZhE v).length=(Zha 1 v).length:=by simp [ZhE]
theorem ZlS (v:Vl) (i:Nat) (x:List AV) (h:(ZhE v)[i]? = some x):∃ p,(Zha 1 v)[i]? = some p∧x=[.val (.int .i64 p.1),.agg p.2.cs]∧i<(Zha 1 v).length:=by
 simp only [ZhE,List.getElem?_map,Option.map_eq_some_iff] at h
 obtain ⟨p,h1,rfl⟩:=h
 exact ⟨p,h1,rfl,(List.getElem?_eq_some_iff.1 h1).1⟩
theorem Zlk (v:Vl) (x:List AV) (h:x∈ZhE v):x.length=2:=by
 obtain ⟨p,_,rfl⟩:=List.mem_map.1 h
 rfl
theorem Zki (w0:World) (B:List (List AV)) (Rw:List RowA) (L:List LoopA) (v:Vl) :
  ACalls Tryz.prog w0 61 [.agg v.cs] ⟨B,Rw,L⟩ fun r st=>r = .clo 122 [.box B.length 0]∧st=⟨B++[v.cs],Rw,L⟩:=by
 refine ZcZ (rs:=[.tmp 2]) Tryz.func61 rfl rfl Tryz.ntmps61 (ZaJ Tryz.func61 rfl (by decide)) (Nat.le_of_ble_eq_true rfl) ?_
 intro M0 W0 hN d e c hu
 simp only [Zaq]
 apply Zaa;intro K1 b
 apply Zaf 1 [1]
 rw [Zae];simp +decide only [go_sem]
 (repeat' apply And.intro)<;>first | refine b _ _ ?_ | (intros;omega) | (intros;simp_all;done) | (intros;simp only [Bool.or_eq_false_iff,Bool.or_eq_true,Bool.and_eq_true,Bool.and_eq_false_iff,decide_eq_true_eq,decide_eq_false_iff_not,bne_iff_ne] at *; omega)
 clear b
 apply Zaa;intro K2 a
 apply Zaf 1 [2]
 rw [Zae];simp +decide only [go_sem]
 (repeat' apply And.intro)<;>first | refine a _ _ ?_ | (intros;omega) | (intros;simp_all;done) | (intros;simp only [Bool.or_eq_false_iff,Bool.or_eq_true,Bool.and_eq_true,Bool.and_eq_false_iff,decide_eq_true_eq,decide_eq_false_iff_not,bne_iff_ne] at *; omega)
 clear a
 apply ZaO;simp +decide only [go_sem]
 skip
def ZqH:List AV:=[.val .nilFunc,.clo 108 [],.clo 110 [],.clo 111 [],.clo 113 [],.clo 116 [],.clo 117 [],.clo 118 [],.clo 119 [],.clo 120 [],.clo 121 []]
theorem ZwQ (w0:World) (B:List (List AV)) (Rw:List RowA) (L:List LoopA)  :
  ACalls Tryz.prog w0 60 [] ⟨B,Rw,L⟩ fun r st=>r = .agg ZqH∧st=⟨B,Rw,L⟩:=by
 refine ACalls.finP (ZcZ (rs:=[.cell 0 92]) Tryz.func60 rfl rfl Tryz.ntmps60 (ZaJ Tryz.func60 rfl (by decide)) (Nat.le_of_ble_eq_true rfl) ?_)
 intro M0 W0 hN d e a hu
 simp only [Zaq]
 apply Zaa;intro K1 c
 apply Zaf 1 [0]
 rw [Zae];simp +decide only [go_sem,Zpj,Zmh,ZiO,Zc9,List.getElem?_cons_zero,List.getElem?_cons_succ,List.nil_append,List.cons_append]
 (repeat' apply And.intro)<;>first | refine c _ _ ?_ | (intros;omega) | (intros;simp_all;done) | (intros;simp only [Bool.or_eq_false_iff,Bool.or_eq_true,Bool.and_eq_true,Bool.and_eq_false_iff,decide_eq_true_eq,decide_eq_false_iff_not,bne_iff_ne] at *; omega)
 clear c
 apply Zaa;intro K2 b
 apply Zaf 1 [0]
 rw [Zae];simp +decide only [go_sem,Zpj,Zmh,ZiO,Zc9,List.getElem?_cons_zero,List.getElem?_cons_succ,List.nil_append,List.cons_append]
 (repeat' apply And.intro)<;>first | refine b _ _ ?_ | (intros;omega) | (intros;simp_all;done) | (intros;simp only [Bool.or_eq_false_iff,Bool.or_eq_true,Bool.and_eq_true,Bool.and_eq_false_iff,decide_eq_true_eq,decide_eq_false_iff_not,bne_iff_ne] at *; omega)
 clear b
 apply ZaO;simp +decide only [go_sem]
 refine Zlo a (by first | exact List.prefix_append _ _ | exact List.prefix_refl _ | (rw [List.append_assoc];exact List.prefix_append _ _)) (by first | exact List.prefix_append _ _ | exact List.prefix_refl _ | (rw [List.append_assoc];exact List.prefix_append _ _)) (by first | exact List.prefix_append _ _ | exact List.prefix_refl _ | (rw [List.append_assoc];exact List.prefix_append _ _)) (by simp +decide only [go_sem]) ⟨?_,rfl⟩
 rfl
end Go.Proofs.YtgpmlelfkjfbiaaGreatDoor
