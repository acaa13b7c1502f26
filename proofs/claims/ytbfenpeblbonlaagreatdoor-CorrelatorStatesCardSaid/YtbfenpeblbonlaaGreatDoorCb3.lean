/-
  Part 3 of the proof: rules and walks that the claim's last text uses.
-/
import Derived.Ground.Names2Prog
import Derived.Ground.NamesProg
import Derived.Ground.SlgfProg
import Derived.Ground.SlgnProg
import Derived.Ground.SlsfProg
import Derived.Shelf.LaysC
import Derived.Shelf.LaysM
import Derived.Shelf.Small.Bits
import Derived.Shelf.Small.Strs
import Derived.Shelf.Small.Utf8
import Derived.Shelf.Strconv.Atoi
import Derived.Shelf.Strconv.AtoiAll
import Derived.Shelf.Strconv.AtoiErrFast
import Derived.Shelf.Strconv.AtoiFail
import Derived.Shelf.Strconv.AtoiInnerAll
import Derived.Shelf.Strconv.AtoiLong
import Derived.Shelf.Strconv.Clone
import Derived.Shelf.Strconv.Itoa0
import Derived.Shelf.Strconv.Itoa1
import Derived.Shelf.Strconv.Itoa2
import Derived.Shelf.Strconv.Itoa3
import Derived.Shelf.Strconv.Lower
import Derived.Shelf.Strconv.ParseInt10
import Derived.Shelf.Strconv.ParseIntEmpty
import Derived.Shelf.Strconv.ParseUint10
import Derived.Shelf.Strconv.ParseUint10Any
import Derived.Shelf.Strconv.ParseUint10Empty
import Derived.Shelf.Strconv.RangeError
import Derived.Shelf.Strconv.SyntaxError
import Derived.Shelf.Strconv.ToError
import Derived.Shelf.Strconv.ToErrorRange
import Derived.Shelf.Strings.AsciiSet
import Derived.Shelf.Strings.Cut
import Derived.Shelf.Strings.IndexAny
import Derived.Shelf.Strings.IndexAnyAll
import Derived.Shelf.Strings.Repeat
import Derived.Shelf.Strings.Runes
import Derived.Shelf.Strings.Search1
import Derived.Shelf.Strings.Search2
import Derived.Shelf.Strings.Shaped
import Derived.Shelf.Unicode.Decode
import Derived.Shelf.Unicode.DecodeAny
import Derived.Shelf.Unicode.DecodeSlow
import Derived.Shelf.Unicode.ValidAny
import Derived.Shelf.Utf8.AppendRunePlain
import Derived.Test.YtbfenpeblbonlaaGreatDoorProg
import Derived.Test.YtbfenpeblbonlaaGreatDoorCb1
import Derived.Test.YtbfenpeblbonlaaGreatDoorCb2
set_option linter.unusedSimpArgs false
set_option linter.unusedVariables false
set_option maxRecDepth 100000
set_option maxHeartbeats 4000000
namespace Go.Ev
open Go Go.RowKit
section
variable {P:Program} {w0:World} {n:Nat} {M:Mem} {e:Env} {st:St} {a:Act} {w:World}
theorem R.seed {v:Value} (h:R w0 M w v (.list [] .full)):R w0 M w v (.list [] .seed):=by
 cases h with
 | nil ho=>exact .nil (fun id=>by simp)
 | emp ho=>exact .emp (fun id=>by simp)
 | list sz us hc hm hcell hu ho=>exact .list (xs:=[]) sz us hc hm hcell hu ho
theorem JD {M0:Mem} {W0:World} {ro:Option Nat} {Q:AQ} {c:Code} (e':Env) (st':St)
  (hc:∀ M a w,Rel w0 n M e st a w->∃ M',Ext w0 M w M' w/\Rel w0 n M' e' st' a w) (h:D8 P w0 n M0 W0 ro c Q e' st'):D8 P w0 n M0 W0 ro c Q e st:=by
 intro m M a w b
 obtain ⟨M',d,f⟩:=hc M a w b.rel
 exact h m M' a w ⟨f,b.ext.trans d,b.marks.later d b.rel.st⟩
theorem Rel.relabel (h:Rel w0 n M e st a w) (k:Nat) (x:AV) (hx:R w0 M w (a.tmps.getD k undef) x):Rel w0 n M ((k,true,x)::e) st a w :=
 ⟨h.st,h.size,fun s y hs=>by
  simp only [look] at hs
  by_cases q:k=s
  ·subst q
   rw [Ah rfl] at hs
   cases hs
   exact hx
  ·rw [Ai q] at hs
   exact h.env s y hs⟩
theorem Zex {M0:Mem} {W0:World} {ro:Option Nat} {Q:AQ} {c:Code} (k:Nat) (hk:look e k=some (true,.list [] .full)) (h:D8 P w0 n M0 W0 ro c Q ((k,true,.list [] .seed)::e) st):D8 P w0 n M0 W0 ro c Q e st :=
 JD _ _ (fun M a w b=>⟨M,.refl _ _ _,b.relabel k _ (by
  have:=b.env k _ hk
  simp only [entryOk,if_true] at this
  exact this.seed)⟩) h
theorem RelSt.setBox (h:RelSt w0 M st w) {l i:Nat} {cs:List AV} (hl:st.boxes[l]? = some cs) {x y:AV} (hi:cs[i]? = some x) (hone:y.one=true) (hR:∀ v,R w0 M w v x->R w0 M w v y) :
  RelSt w0 M { st with boxes:=st.boxes.set l (cs.set i y) } w:=by
 have a:l<st.boxes.length:=(Aj.1 hl).1
 have g:i<cs.length:=(Aj.1 hi).1
 refine ⟨h.below,by simp [h.N],h.NR,h.top,h.inj,fun b cs' hl'=>?_,h.row,h.rowinj,h.loop⟩
 by_cases q:b=l
 ·subst q
  rw [List.getElem?_set_self a] at hl'
  cases hl'
  obtain ⟨a1,a2,c,k,a3,a4,a5,a6⟩:=h.box b cs hl
  refine ⟨a1,a2,c,k,a3,by simp [a4],fun z d=>?_,fun j f m=>?_⟩
  ·rcases List.mem_or_eq_of_mem_set d with d | rfl
   ·exact a5 z d
   ·exact hone
  ·by_cases e:j=i
   ·subst e
    rw [List.getElem_set_self]
    obtain ⟨q1,q2⟩:=Aj.1 hi
    exact hR _ (q2▸a6 j f q1)
   ·rw [List.getElem_set_ne (Ne.symm e)]
    exact a6 j f (by simpa using m)
 ·rw [List.getElem?_set_ne (Ne.symm q)] at hl'
  exact h.box b cs' hl'
theorem NF {M0:Mem} {W0:World} {ro:Option Nat} {Q:AQ} {c:Code} (l i:Nat) {cs:List AV} (hl:st.boxes[l]? = some cs) (hi:cs[i]? = some (.list [] .full)) (h:D8 P w0 n M0 W0 ro c Q e { st with boxes:=st.boxes.set l (cs.set i (.list [] .seed)) }):D8 P w0 n M0 W0 ro c Q e st :=
 JD _ _ (fun M a w b=>⟨M,.refl _ _ _,b.st.setBox hl hi rfl (fun v hv=>hv.seed),b.size,b.env⟩) h
def N8 (sz:Nat) (ag:Bool) (cs:List AV) (o m:Nat):List AV:=(List.range m).map fun i=>PL ag cs ((o+i)*sz) sz
theorem X0 (sz:Nat) (ag:Bool) (cs:List AV) (o m:Nat):(N8 sz ag cs o m).length=m:=by simp [N8]
def Mem.freeze (M:Mem) (id k:Nat):Mem:={ M with fr:=fun i=>if i=id then M.fr i+1 else M.fr i,top:=fun b=>if b=M.blk id then k else M.top b }
theorem RelSt.freeze (h:RelSt w0 M st w) {id ver sz:Nat} {cs:List AV} (hid:st.rows[id]? = some (.vec ver sz cs)) :
  Ext w0 M w (M.freeze id cs.length) w/\RelSt w0 (M.freeze id cs.length) { st with rows:=st.rows.set id (.dead (ver+1)) } w:=by
 have a:id<st.rows.length:=(Aj.1 hid).1
 have d:id<M.NR:=by rw [h.NR];exact a
 obtain ⟨u,Q,y,f4,t,J,O,c,p,s,K,H,D,G⟩:=h.row id _ hid
 have f:Ext w0 M w (M.freeze id cs.length) w :=
  ⟨Nat.le_refl _,fun _ _=>rfl,Nat.le_refl _,fun i hi=>by
   simp only [Mem.freeze]
   by_cases q:i=id
   ·rw [Ah q];exact ⟨Nat.le_succ _,fun e=>absurd e (by omega)⟩
   ·rw [Ai q];exact ⟨Nat.le_refl _,fun _=>⟨trivial,trivial,trivial⟩⟩,fun b C v hi F=>⟨F,hi.imp (fun q=>q) fun q=>by
    simp only [Mem.freeze]
    split
    ·rename_i e;rw [e,f4] at q;omega
    ·exact q⟩,Nat.le_refl _,Nat.le_refl _,fun _ _=>rfl,fun _ j m=>absurd m (Nat.not_lt.2 j),fun _ _ h _ _=>h,fun b _ q=>⟨rfl,q,by
    simp only [Mem.freeze]
    rw [Ai (fun e=>q.2.1 id d e.symm)]⟩⟩
 refine ⟨f,h.below,h.N,by simp [Mem.freeze,h.NR],fun b E=>?_,h.inj,fun l cs' o=>?_,fun i x hi=>?_,h.rowinj,h.loop.mono f rfl (KeepsObj.refl _)⟩
 ·have z:=(Array.getElem?_eq_some_iff.1 s).1
  simp only [Mem.freeze]
  rw [Aa]
  exact h.top b E
 ·obtain ⟨a1,a2,c,p,a3,a4,a5,a6⟩:=h.box l cs' o
  have n:l<M.N:=by rw [h.N];exact (Aj.1 o).1
  refine ⟨a1,?_,c,p,a3,a4,a5,fun i j m=>(a6 i j m).mono f⟩
  show (M.freeze id cs.length).top (M.bx l)=0
  simp only [Mem.freeze]
  rw [Ai (t l n)]
  exact a2
 ·by_cases q:i=id
  ·subst q
   rw [List.getElem?_set_self a] at hi
   cases hi
   exact ⟨by simp [Mem.freeze,u],y,t,(Array.getElem?_eq_some_iff.1 s).1⟩
  ·rw [List.getElem?_set_ne (Ne.symm q)] at hi
   have g:i<M.NR:=by rw [h.NR];exact (Aj.1 hi).1
   have r:=h.row i x hi
   have k:M.blk i≠M.blk id:=fun e=>q (h.rowinj i id g d e)
   exact r.keep f (by simp [Mem.freeze,q]) rfl rfl rfl (by simp [Mem.freeze,k]) r.ne rfl
theorem R.freeze (h:RelSt w0 M st w) {id ver sz:Nat} {cs:List AV} (hid:st.rows[id]? = some (.vec ver sz cs)) {ag:Bool} (hag:ag=true\/sz=1) {o m:Nat} (hb:(o+m)*sz<=cs.length) {v:Value} (hv:R w0 M w v (.vec id ver o m)) :
  R w0 (M.freeze id cs.length) w v (.list (N8 sz ag cs o m) .none):=by
 obtain ⟨D,_⟩:=h.freeze hid
 obtain ⟨C,K,Q,N,Y,O,V,c,F,H,U,J,n,r⟩:=h.row id _ hid
 cases hv with
 | @vec _ _ _ _ p cap d hver hh =>
 obtain ⟨rfl,z,E⟩:=hh C.symm
 have s:(N8 sz ag cs o m).length=m:=X0 _ _ _ _ _
 have g:∀ i,i<m->(o+i)*sz+sz<=cs.length:=fun i d=>by
  have:(o+i+1)*sz<=(o+m)*sz:=Nat.mul_le_mul_right _ (by omega)
  rw [Nat.succ_mul] at this
  omega
 let us:Nat->Value:=fun i=>if ag then .agg ((List.range sz).map fun j=>c.getD ((o+i)*sz+j) undef).toArray else c.getD ((o+i)*sz) undef
 have y:∀ i,i<m->R w0 M w (us i) (PL ag cs ((o+i)*sz) sz):=fun i d=>by
  refine QF (f:=fun j=>c.getD ((o+i)*sz+j) undef) n (g i d) hag (fun j l=>?_)
  have a:(o+i)*sz+j<c.size:=by omega
  rw [Array.getD_eq_getD_getElem?,Array.getElem?_eq_getElem a]
  exact r _ a l
 have k:∀ i,i<m->(us i).cells.size=sz/\∀ j,j<sz->(us i).cells[j]? = c[(o+i)*sz+j]? := fun i d=>by
  by_cases q:ag=true
  ·have e:us i = .agg ((List.range sz).map fun j=>c.getD ((o+i)*sz+j) undef).toArray:=by simp [us,q]
   rw [e]
   refine ⟨by simp [Value.cells],fun j l=>?_⟩
   have a:(o+i)*sz+j<c.size:=by have:=g i d;omega
   simp [Value.cells,l,Array.getElem?_eq_getElem a]
  ·have u:sz=1:=hag.resolve_left q
   have e:us i=c.getD ((o+i)*sz) undef:=by simp [us,q]
   have a:(o+i)*sz<c.size:=by have:=g i d;omega
   have t:(o+i)*sz<cs.length:=by have:=g i d;omega
   have x:=(r _ a t).cells_one (n _ (List.getElem_mem _))
   rw [e,Array.getD_eq_getD_getElem?,Array.getElem?_eq_getElem a,Option.getD_some,x.1]
   refine ⟨by simp [u],fun j l=>?_⟩
   obtain rfl:j=0:=by omega
   simp [Array.getElem?_eq_getElem a]
 have:=R.list (w0:=w0) (M:=M.freeze id cs.length) (w:=w) (b:=M.blk id) (off:=o*sz) (cap:=cap) (xs:=N8 sz ag cs o m) (o := .none) sz us (by rw [s];exact E) (by omega)
  (fun i d=>by
   rw [s] at d
   refine ⟨(k i d).1,fun j l=>⟨.inr ?_,?_⟩⟩
   ·have G:=g i d
    rw [Nat.add_mul] at G
    simp only [Mem.freeze,if_true]
    omega
   ·rw [(k i d).2 j l,Nat.add_mul,cell_of_row w _ _ c F _ H]) (fun i d=>by
   rw [s] at d
   simp only [N8,List.getElem_map,List.getElem_range]
   exact (y i d).mono D) trivial
 rw [s] at this
 rw [K]
 exact this
theorem Zq {M0:Mem} {W0:World} {ro:Option Nat} {Q:AQ} {c:Code} (k:Nat) {id ver sz o m:Nat} {cs:List AV} (ag:Bool) (hk:look e k=some (true,.vec id ver o m)) (hid:ED st.rows id ver=some (sz,cs)) (hag:ag=true\/sz=1) (hb:(o+m)*sz<=cs.length)
  (h:D8 P w0 n M0 W0 ro c Q ((k,true,.list (N8 sz ag cs o m) .none)::e) { st with rows:=st.rows.set id (.dead (ver+1)) }):D8 P w0 n M0 W0 ro c Q e st :=
 JD _ _ (fun M a w b=>by
  obtain ⟨d,f⟩:=b.st.freeze (Fo hid)
  refine ⟨_,d,Rel.relabel ⟨f,b.size,fun s x hs=>(b.env s x hs).mono d⟩ k _ ?_⟩
  have:=b.env k _ hk
  simp only [entryOk,if_true] at this
  exact R.freeze b.st (Fo hid) hag hb this) h
theorem OB {M0:Mem} {W0:World} {ro:Option Nat} {Q:AQ} {c:Code} (l i:Nat) {id ver sz o m:Nat} {bs cs:List AV} (ag:Bool) (hl:st.boxes[l]? = some bs) (hi:bs[i]? = some (.vec id ver o m)) (hid:ED st.rows id ver=some (sz,cs)) (hag:ag=true\/sz=1) (hb:(o+m)*sz<=cs.length)
  (h:D8 P w0 n M0 W0 ro c Q e { st with boxes:=st.boxes.set l (bs.set i (.list (N8 sz ag cs o m) .none)),rows:=st.rows.set id (.dead (ver+1)) }):D8 P w0 n M0 W0 ro c Q e st :=
 JD _ _ (fun M a w d=>by
  obtain ⟨u,b⟩:=d.st.freeze (Fo hid)
  have f:=d.st.box l bs hl
  obtain ⟨a1,a2,c,K,a3,a4,a5,a6⟩:=f
  obtain ⟨q1,q2⟩:=Aj.1 hi
  have D:R w0 (M.freeze id cs.length) w (c[i]'(by omega)) (.list (N8 sz ag cs o m) .none):=R.freeze d.st (Fo hid) hag hb (q2▸a6 i (by omega) q1)
  have k:l<st.boxes.length:=(Aj.1 hl).1
  refine ⟨_,u,⟨b.below,by simpa using b.N,b.NR,b.top,b.inj,fun g cs' hl'=>?_,b.row,b.rowinj,b.loop⟩,d.size,fun s x hs=>(d.env s x hs).mono u⟩
  by_cases q:g=l
  ·subst q
   simp only [List.getElem?_set_self k,Option.some.injEq] at hl'
   subst hl'
   obtain ⟨E,C,v,p,t,F,G,J⟩:=b.box g bs hl
   have ec:v=c:=by
    have:=t.symm.trans a3
    simp only [Option.some.injEq,Obj.cells.injEq] at this
    exact this.1
   subst ec
   refine ⟨E,C,v,p,t,by simp [F],fun z r=>?_,fun j y H=>?_⟩
   ·rcases List.mem_or_eq_of_mem_set r with r | rfl
    ·exact G z r
    ·rfl
   ·by_cases e:j=i
    ·subst e
     rw [List.getElem_set_self]
     exact D
    ·rw [List.getElem_set_ne (Ne.symm e)]
     exact J j y (by simpa using H)
  ·simp only [List.getElem?_set_ne (Ne.symm q)] at hl'
   exact b.box g cs' hl') h
end
def AV.pubA:AV->AV
 | .tup vs => .tup (vs.map AV.pub)
 | .agg cs => .agg (cs.map AV.pubCell)
 | .list xs _ => .list xs .none
 | x=>x
section
variable (vs cs xs:List AV) (o:Own) (v:Value) (x:AV) (i j k m:Nat)
@[go_sem] theorem ZlP:AV.pubA (.tup vs) = .tup (vs.map AV.pub):=rfl
@[go_sem] theorem Zlb:AV.pubA (.agg cs) = .agg (cs.map AV.pubCell):=rfl
@[go_sem] theorem ZkN:AV.pubA (.list xs o) = .list xs .none:=rfl
@[go_sem] theorem Ld:AV.pubA (.val v) = .val v:=rfl
@[go_sem] theorem Zkb:AV.pubA (.elem x i) = .elem x i:=rfl
@[go_sem] theorem Zlq:AV.pubA (.box i j) = .box i j:=rfl
@[go_sem] theorem ZlB:AV.pubA (.clo i xs) = .clo i xs:=rfl
@[go_sem] theorem ZlZ:AV.pubA (.bnd i xs) = .bnd i xs:=rfl
@[go_sem] theorem ZlE:AV.pubA (.yld i) = .yld i:=rfl
@[go_sem] theorem Zmk:AV.pubA (.mp i) = .mp i:=rfl
@[go_sem] theorem Zk2 (l:List (Int × FuncId)):AV.pubA (.tab l) = .tab l:=rfl
@[go_sem] theorem Zlk:AV.pubA (.vec i j k m) = .vec i j k m:=rfl
@[go_sem] theorem Zlx:AV.pubA (.vel i j k) = .vel i j k:=rfl
@[go_sem] theorem ZmV:AV.pub (.agg cs) = .agg (cs.map AV.pubCell):=rfl
@[go_sem] theorem ZlT:AV.pub (.list xs o) = .list xs .none:=rfl
@[go_sem] theorem Zmm:AV.pub (.val v) = .val v:=rfl
@[go_sem] theorem Zlu:AV.pub (.elem x i) = .elem x i:=rfl
@[go_sem] theorem Zmu:AV.pub (.box i j) = .box i j:=rfl
@[go_sem] theorem Zmy:AV.pub (.clo i xs) = .clo i xs:=rfl
@[go_sem] theorem Zmo:AV.pub (.bnd i xs) = .bnd i xs:=rfl
@[go_sem] theorem Znl:AV.pub (.yld i) = .yld i:=rfl
@[go_sem] theorem Zno:AV.pub (.mp i) = .mp i:=rfl
@[go_sem] theorem Zm7 (l:List (Int × FuncId)):AV.pub (.tab l) = .tab l:=rfl
@[go_sem] theorem ZmY:AV.pub (.vec i j k m) = .vec i j k m:=rfl
@[go_sem] theorem Zm3:AV.pub (.vel i j k) = .vel i j k:=rfl
@[go_sem] theorem Zg4:AV.pubCell (.list xs o) = .list xs .none:=rfl
@[go_sem] theorem Zid:AV.pubCell (.val v) = .val v:=rfl
@[go_sem] theorem Zf5:AV.pubCell (.elem x i) = .elem x i:=rfl
@[go_sem] theorem ZhU:AV.pubCell (.box i j) = .box i j:=rfl
@[go_sem] theorem Zia:AV.pubCell (.clo i xs) = .clo i xs:=rfl
@[go_sem] theorem Zih:AV.pubCell (.bnd i xs) = .bnd i xs:=rfl
@[go_sem] theorem ZhQ:AV.pubCell (.yld i) = .yld i:=rfl
@[go_sem] theorem Zjq:AV.pubCell (.mp i) = .mp i:=rfl
@[go_sem] theorem Ziu (l:List (Int × FuncId)):AV.pubCell (.tab l) = .tab l:=rfl
@[go_sem] theorem Ziy:AV.pubCell (.vec i j k m) = .vec i j k m:=rfl
@[go_sem] theorem ZhO:AV.pubCell (.vel i j k) = .vel i j k:=rfl
end
theorem R.pubA {w0:World} {M:Mem} {w:World} {v:Value} {x:AV} (h:R w0 M w v x):R w0 M w v x.pubA:=by
 cases h with
 | tup hl h=>exact .tup (by simpa using hl) (fun i a b=>by simp only [List.getElem_map];exact (h i a (by simpa using b)).pub)
 | flat hf=>exact (R.flat hf).pub
 | agg hl h1 h=>exact (R.agg hl h1 h).pub
 | nil ho=>exact (R.nil ho).pub
 | emp ho=>exact (R.emp ho).pub
 | list sz us hc hm hcell hu ho=>exact (R.list sz us hc hm hcell hu ho).pub
 | elem u k hcell hu=>exact (R.elem u k hcell hu).pub
 | box hl=>exact (R.box hl).pub
 | clo hl h=>exact (R.clo hl h).pub
 | bnd hl h=>exact (R.bnd hl h).pub
 | yld hk=>exact (R.yld hk).pub
 | mp hk=>exact (R.mp hk).pub
 | tab h hk hn=>exact (R.tab h hk hn).pub
 | vec hi hv h=>exact (R.vec hi hv h).pub
 | vel hi hv h=>exact (R.vel hi hv h).pub
section
variable {P:Program} {w0:World} {st:St} {f:FuncId}
theorem ACalls.pub {args args':List AV} {Post:AV->St->Prop} (h:ACalls P w0 f args' st Post) (he:args.map AV.pubA=args'):ACalls P w0 f args st Post:=by
 subst he
 refine ⟨h.1,fun M w c e d=>h.2 M w c e ?_⟩
 obtain ⟨j,g⟩:=d
 refine ⟨by simpa using j,fun i a b=>?_⟩
 simp only [List.getElem_map]
 exact (g i a (by simpa using b)).pubA
theorem Av {c d:Bool} {cs args args':List AV} {k:AV->St->Prop} (v:AV)
  (h:ACalls P w0 f args' st fun r s=>r=v/\s=st) (he:(args++cs).map AV.pubA=args') (hk:k v st):JA P w0 c d (.clo f cs) args st k := .inl ⟨v,fun _=>h.pub he,hk⟩
theorem Jl {c d:Bool} {cs args args':List AV} {k:AV->St->Prop} (v:AV)
  (h:c=true->ACalls P w0 f args' st fun r s=>r=v/\s=st) (he:(args++cs).map AV.pubA=args') (hk:k v st):JA P w0 c d (.clo f cs) args st k := .inl ⟨v,fun q=>(h q).pub he,hk⟩
theorem Zba {cs args args':List AV} {k:AV->St->Prop} (Post:AV->St->Prop)
  (h:ACalls P w0 f args' st Post) (he:(cs++args).map AV.pubA=args') (hk:∀ v s,Post v s->k v s):JA P w0 true false (.bnd f cs) args st k := .inr ⟨rfl,Post,fun _=>h.pub he,fun v s a _=>hk v s (a rfl)⟩
theorem BE {cs args args':List AV} {k:AV->St->Prop} (Post:AV->St->Prop)
  (h:ACalls P w0 f args' st Post) (he:(args++cs).map AV.pubA=args') (hk:∀ v s,Post v s->k v s):JA P w0 true false (.clo f cs) args st k := .inr ⟨rfl,Post,fun _=>h.pub he,fun v s a _=>hk v s (a rfl)⟩
def finP (st:St) (Post:AV->St->Prop) (r:AV) (s:St):Prop :=
 st.boxes.length<=s.boxes.length/\st.rows.length<=s.rows.length/\st.loops.length<=s.loops.length/\Calm st.boxes.length st.rows.length st.loops.length (s.cut st.boxes.length st.rows.length st.loops.length) /\
  Under st.boxes.length st.rows.length st.loops.length r.pubA/\Post r.pubA (s.cut st.boxes.length st.rows.length st.loops.length)
theorem ACalls.finP {args:List AV} {Post:AV->St->Prop} (h:ACalls P w0 f args st (finP st Post)):ACalls P w0 f args st Post:=by
 refine ⟨h.1,fun M w b a c=>(h.2 M w b a c).mono ?_⟩
 rintro en n ⟨v,M',r,j,l,⟨e,g,d,m,i,k⟩,h3,h4,h5⟩
 exact ⟨v,M'.cut st.boxes.length st.rows.length st.loops.length,r.pubA,_,l,k,h3.cut (by have:=a.N;omega) (by have:=a.NR;omega) (by have:=a.loop.NL;omega) (by rw [h4.loop.NL];exact d) (by rw [h4.N];exact e) (by rw [h4.NR];exact g),h4.cut e g d m,h5.pubA.cut (by have:=h4.loop.NL;omega) i⟩
theorem J2 {B:List (List AV)} {Rw:List RowA} {L:List LoopA} {s:St} {Post:AV->St->Prop} {v:AV} (hc:Ev.Calm B.length Rw.length L.length ⟨B,Rw,L⟩) (h1:B <+: s.boxes) (h2:Rw <+: s.rows) (h3:L <+: s.loops) (hu:Under B.length Rw.length L.length v.pubA) (hp:Post v.pubA ⟨B,Rw,L⟩) :
  Go.Ev.finP ⟨B,Rw,L⟩ Post v s:=by
 obtain ⟨b,e1⟩:=h1
 obtain ⟨r,e2⟩:=h2
 obtain ⟨l,e3⟩:=h3
 obtain ⟨a,c,d⟩:=s
 simp only at e1 e2 e3
 subst e1 e2 e3
 have e:St.cut ⟨B++b,Rw++r,L++l⟩ B.length Rw.length L.length=⟨B,Rw,L⟩:=by simp [St.cut]
 exact ⟨by simp,by simp,by simp,by simp only [e];exact hc,hu,by simp only [e];exact hp⟩
end
@[go_sem] theorem ZhN (xs c:List AV) (h:xs.length=c.length):Bt xs 0 c=c:=by simp [Bt,h]
section
universe u v
variable {α:Type u} {β:Type v} {r:β}
theorem Au {c:Prop} [Decidable c] {x:Option β} (h:(if c then x else none)=some r):c/\x=some r:=by
 by_cases q:c
 ·rw [Ah q] at h;exact ⟨q,h⟩
 ·rw [Ai q] at h;cases h
theorem bind_some {o:Option α} {f:α->Option β} (h:o.bind f=some r):∃ x,o=some x/\f x=some r:=by
 cases o with
 | none=>cases h
 | some x=>exact ⟨x,rfl,h⟩
theorem Cj {b:Bool} {x y:β} (h:(if b=true then x else y)=r) (hb:b=true):x=r:=by rwa [Ah hb] at h
theorem Cm {b:Bool} {x y:β} (h:(if b=true then x else y)=r) (hb:b=false):y=r:=by rwa [Ai (by simp [hb])] at h
def Dw (xs:List α) (i:Int):Option α:=if 0<=i then xs[i.toNat]? else none
theorem Bo {xs:List α} {i:Int} {x:α} (h:Dw xs i=some x):0<=i/\i<xs.length/\xs[i.toNat]? = some x:=by
 unfold Dw at h
 obtain ⟨b,a⟩:=Au h
 have:=(Aj.1 a).1
 exact ⟨b,by omega,a⟩
theorem Zjc {xs:List α} {i:Nat} (h:i<xs.length):Dw xs (i:Int)=some xs[i]:=by simp [Dw,h]
theorem Bz {f:α->AV} {xs:List α} {i:Nat} {x:α} (h:xs[i]? = some x):(xs.map f).getD i .junk=f x:=by simp [List.getD,h]
end
abbrev BN (n:Int):Prop := -9223372036854775808<=n/\n<=9223372036854775807
theorem BP {nb nr nl nb' nr' nl':Nat} {x:AV} (h1:nb<=nb') (h2:nr<=nr') (h3:nl<=nl') (h:Under nb nr nl x):Under nb' nr' nl' x:=by
 induction h with
 | val v=>exact .val v
 | list h ho ih=>exact .list ih (by rename_i o;cases o<;>first | trivial | exact Nat.lt_of_lt_of_le ho h2)
 | elem h ih=>exact .elem ih
 | box h=>exact .box (by omega)
 | clo h ih=>exact .clo ih
 | bnd h ih=>exact .bnd ih
 | agg h ih=>exact .agg ih
 | tup h ih=>exact .tup ih
 | yld h=>exact .yld (by omega)
 | mp h=>exact .mp (by omega)
 | tab=>exact .tab
 | vec h=>exact .vec (by omega)
 | vel h=>exact .vel (by omega)
def OwnsAt (lo:Nat) (ho:Own) (rows:Ap) (x:Nat × Nat × Own):Prop:=x.2.2 = .full\/∃ id,x.2.2 = .row id/\(lo<=id\/ho = .row id)/\rows[id]? = some (.grow x.2.1 x.1)
inductive VO where
 | nil
 | row (id ver:Nat)
def G7:VO->Nat->AV
 | .nil,_ => .list [] .seed
 | .row id ver,n => .vec id ver 0 n
abbrev VE:=VO × Nat × List AV
def VAt (lo:Nat) (ho:Own) (rows:Ap) (x:VE):Prop:=(x.1 = .nil/\x.2.2=[])\/∃ id ver,x.1 = .row id ver/\(lo<=id\/ho = .row id)/\rows[id]? = some (.vec ver x.2.1 x.2.2)
def Xs (v:List VE) (i:Nat):Prop:=∀ x∈v,∀ ver,x.1 ≠ .row i ver
theorem Yb (i:Nat):Xs [] i:=fun _ h=>(nomatch h)
structure Owns (Rw rows:Ap) (l:List (Nat × Nat × Own)) (ho:Own := .none) (v:List VE:=[]):Prop where
 len:Rw.length<=rows.length
 keep:∀ i,i<Rw.length->ho ≠ .row i->rows[i]? = Rw[i]?
 calm:∀ i r,rows[i]? = some r->(Rw.length<=i\/ho = .row i)->Xs v i->r.cells=[]
 each:∀ x∈l,OwnsAt Rw.length ho rows x
 apart:l.Pairwise fun x y=>∀ id,x.2.2 = .row id->y.2.2 ≠ .row id
 veach:∀ x∈v,VAt Rw.length ho rows x
 vapart:v.Pairwise fun x y=>∀ id a b,x.1 = .row id a->y.1 ≠ .row id b
section
variable {Rw rows:List RowA} {l:List (Nat × Nat × Own)} {ho:Own} {v:List VE}
theorem Owns.none (Rw:Ap):Owns Rw Rw []:=by
 refine ⟨Nat.le_refl _,fun _ _ _=>rfl,fun i r h q _=>?_,by simp,.nil,by simp,.nil⟩
 have:=(Aj.1 h).1
 rcases q with q | q
 ·omega
 ·cases q
theorem Owns.pre (h:Owns Rw rows l .none v):Rw <+: rows:=by
 rw [List.prefix_iff_getElem?]
 intro i hi
 rw [h.keep i hi (fun q=>by cases q),List.getElem?_eq_getElem hi]
theorem Owns.sub {l':List (Nat × Nat × Own)} (h:Owns Rw rows l ho v) (hs:l'.Sublist l):Owns Rw rows l' ho v :=
 ⟨h.len,h.keep,h.calm,fun x a=>h.each x (hs.subset a),h.apart.sublist hs,h.veach,h.vapart⟩
theorem Owns.full (h:Owns Rw rows l ho v) (sz n:Nat):Owns Rw rows ((sz,n,.full)::l) ho v :=
 ⟨h.len,h.keep,h.calm,fun x hx=>by
  rcases List.mem_cons.1 hx with rfl | hx
  ·exact .inl rfl
  ·exact h.each x hx,List.pairwise_cons.2 ⟨fun _ _ id q=>(nomatch q),h.apart⟩,h.veach,h.vapart⟩
theorem VAt.up {lo:Nat} {x:VE} (h:VAt lo ho rows x) (r:Ap):VAt lo ho (rows++r) x:=by
 rcases h with h | ⟨id,ver,h1,h2,h3⟩
 ·exact .inl h
 ·exact .inr ⟨id,ver,h1,h2,by rw [List.getElem?_append_left (Aj.1 h3).1];exact h3⟩
theorem VAt.set {lo:Nat} {x:VE} (h:VAt lo ho rows x) {i:Nat} (hi:∀ ver,x.1 ≠ .row i ver) (r:RowA):VAt lo ho (rows.set i r) x:=by
 rcases h with h | ⟨id,ver,h1,h2,h3⟩
 ·exact .inl h
 ·exact .inr ⟨id,ver,h1,h2,by rw [List.getElem?_set_ne (fun (e:i=id)=>hi ver (by rw [e];exact h1))];exact h3⟩
theorem Owns.make (h:Owns Rw rows l ho v) (sz n:Nat):Owns Rw (rows++[.grow n sz]) ((sz,n,.row rows.length)::l) ho v:=by
 have f:=h.len
 refine ⟨by simp;omega,fun i b c=>?_,fun i r a q d=>?_,fun x hx=>?_,List.pairwise_cons.2 ⟨fun y e id q k=>?_,h.apart⟩,fun x hx=>(h.veach x hx).up _,h.vapart⟩
 ·rw [List.getElem?_append_left (by omega)];exact h.keep i b c
 ·by_cases b:i<rows.length
  ·rw [List.getElem?_append_left b] at a;exact h.calm i r a q d
  ·rw [List.getElem?_append_right (by omega)] at a
   have:=List.mem_of_getElem? a
   simp only [List.mem_singleton] at this;subst this;rfl
 ·rcases List.mem_cons.1 hx with rfl | hx
  ·exact .inr ⟨_,rfl,.inl f,by simp⟩
  ·rcases h.each x hx with q | ⟨id,q1,q2,q3⟩
   ·exact .inl q
   ·exact .inr ⟨id,q1,q2,by rw [List.getElem?_append_left (Aj.1 q3).1];exact q3⟩
 ·rcases h.each y e with q' | ⟨id',q1,q2,q3⟩
  ·rw [q'] at k;cases k
  ·rw [q1] at k;cases k;cases q
   exact absurd (Aj.1 q3).1 (Nat.lt_irrefl _)
theorem Owns.unders (h:Owns Rw rows l ho v):∀ x∈l,x.2.2.under rows.length:=fun x a=>by
 rcases h.each x a with q | ⟨id,q1,q2,q3⟩
 ·rw [q];trivial
 ·rw [q1];exact (Aj.1 q3).1
theorem Owns.of_eq {l':List (Nat × Nat × Own)} (h:Owns Rw rows l ho v) (he:l=l'):Owns Rw rows l' ho v:=he▸h
theorem Owns.swap {l':List (Nat × Nat × Own)} (h:Owns Rw rows l ho v) (hp:l.Perm l'):Owns Rw rows l' ho v :=
 ⟨h.len,h.keep,h.calm,fun x c=>h.each x (hp.mem_iff.2 c),(hp.pairwise_iff (R:=fun x y:Nat × Nat × Own=>∀ id,x.2.2 = .row id->y.2.2 ≠ .row id) (fun q id a b=>q id b a)).1 h.apart,h.veach,h.vapart⟩
theorem Owns.grow_off (h:Owns Rw rows l ho v) {sz n id:Nat} (hx:(sz,n,Own.row id)∈l):Xs v id:=by
 intro x hv a e
 rcases h.each _ hx with q | ⟨id',q1,q2,q3⟩
 ·cases q
 ·cases q1
  rcases h.veach x hv with w | ⟨id2,ver2,w1,w2,w3⟩
  ·rw [w.1] at e;cases e
  ·rw [w1] at e;cases e
   rw [w3] at q3;cases q3
end
theorem ND {Rw rows:List RowA} (h:Rw <+: rows) {id:Nat} (hi:Rw.length<=id) (x:RowA):Rw <+: rows.set id x:=by
 obtain ⟨t,rfl⟩:=h
 rw [List.set_append_right _ _ hi]
 exact List.prefix_append _ _
theorem Owns.more {Rw rows:List RowA} {l:List (Nat × Nat × Own)} {ho:Own} {v:List VE} {sz n id:Nat} (h:Owns Rw rows ((sz,n,.row id)::l) ho v) (m:Nat):Owns Rw (rows.set id (.grow m sz)) ((sz,m,.row id)::l) ho v:=by
 have b:=h.grow_off (List.mem_cons_self ..)
 obtain ⟨f,k,s,d,g,u,o⟩:=h
 obtain ⟨hid,hrow⟩:(Rw.length<=id\/ho = .row id)/\rows[id]? = some (.grow n sz):=by
  rcases d _ (List.mem_cons_self ..) with q | ⟨id',q1,q2,q3⟩
  ·cases q
  ·cases q1;exact ⟨q2,q3⟩
 have a:=(Aj.1 hrow).1
 obtain ⟨p1,p2⟩:=List.pairwise_cons.1 g
 refine ⟨by simpa using f,fun i j c=>?_,fun i r hr q p=>?_,fun x hx=>?_,List.pairwise_cons.2 ⟨fun y t=>p1 y t,p2⟩,fun x hx=>(u x hx).set (b x hx) _,o⟩
 ·have:id≠i:=by
   rintro rfl
   rcases hid with q | q
   ·omega
   ·exact c q
  rw [List.getElem?_set_ne this];exact k i j c
 ·by_cases e:id=i
  ·subst e
   rw [List.getElem?_set_self a] at hr
   cases hr;rfl
  ·rw [List.getElem?_set_ne e] at hr;exact s i r hr q p
 ·rcases List.mem_cons.1 hx with rfl | hx
  ·exact .inr ⟨id,rfl,hid,by simp [a]⟩
  ·rcases d x (List.mem_cons_of_mem _ hx) with q | ⟨id',q1,q2,q3⟩
   ·exact .inl q
   ·have:id'≠id:=fun e=>p1 x hx id rfl (e▸q1)
    exact .inr ⟨id',q1,q2,by rw [List.getElem?_set_ne (Ne.symm this)];exact q3⟩
theorem Owns.inV {Rw rows:List RowA} {l:List (Nat × Nat × Own)} {ho:Own} {v:List VE} (h:Owns Rw rows l ho v) {i:Nat} {r:RowA} (hr:rows[i]? = some r) (hi:¬ Xs v i):∃ x∈v,r.cells=x.2.2/\(Rw.length<=i\/ho = .row i):=by
 simp only [Xs,ne_eq,Classical.not_forall,Classical.not_not] at hi
 obtain ⟨x,a,b,e⟩:=hi
 rcases h.veach x a with w | ⟨id,ver',w1,w2,w3⟩
 ·rw [w.1] at e;cases e
 ·rw [w1] at e;cases e
  rw [w3] at hr;cases hr
  exact ⟨x,a,rfl,w2⟩
theorem Owns.rowsCalm {Rw rows:List RowA} {l:List (Nat × Nat × Own)} {ho:Own} {v:List VE} (h:Owns Rw rows l ho v) {nb nb' nl:Nat} (hb:nb<=nb') (hc:∀ r∈Rw,∀ x∈r.cells,Under nb Rw.length nl x) (hv:∀ x∈v,∀ y∈x.2.2,Under nb' rows.length nl y:=by intro x hx;cases hx):∀ r∈rows,∀ x∈r.cells,Under nb' rows.length nl x:=fun r d x hx=>by
 obtain ⟨i,c,rfl⟩:=List.mem_iff_getElem.1 d
 have b:rows[i]? = some rows[i]:=List.getElem?_eq_getElem c
 by_cases qv:Xs v i
 case neg =>
  obtain ⟨y,f,e,_⟩:=h.inV b qv
  rw [e] at hx
  exact hv y f x hx
 by_cases q:Rw.length<=i\/ho = .row i
 ·rw [h.calm i _ b q qv] at hx;cases hx
 ·have a:i<Rw.length:=by omega
  have:=h.keep i a (fun e=>q (.inr e))
  rw [b,List.getElem?_eq_getElem a] at this
  rw [Option.some.inj this] at hx
  exact BP hb h.len (Nat.le_refl _) (hc _ (List.getElem_mem a) x hx)
theorem Owns.call {Rw rows rows':List RowA} {l:List (Nat × Nat × Own)} {ho o o':Own} {v:List VE} {sz n n':Nat} (h:Owns Rw rows ((sz,n,o)::l) ho v) (hc:Owns rows rows' [(sz,n',o')] o):Owns Rw rows' ((sz,n',o')::l) ho v:=by
 have d:=h.each _ (List.mem_cons_self ..)
 have c:∀ i,o = .row i->Xs v i:=fun i e=>h.grow_off (sz:=sz) (n:=n) (by rw [<-e];exact List.mem_cons_self ..)
 obtain ⟨p1,p2⟩:=List.pairwise_cons.1 h.apart
 have b:∀ i,o = .row i->(Rw.length<=i\/ho = .row i)/\i<rows.length:=fun i e=>by
  rcases d with q | ⟨id,q1,q2,q3⟩
  ·simp only at q;rw [e] at q;cases q
  ·simp only at q1;rw [e] at q1;cases q1
   exact ⟨q2,(Aj.1 q3).1⟩
 have s:=h.len
 have t:=hc.len
 have a:=hc.each _ (List.mem_cons_self ..)
 refine ⟨by omega,fun i m g=>?_,fun i r f q p=>?_,fun x hxm=>?_,List.pairwise_cons.2 ⟨fun y j id e=>?_,p2⟩,fun x d=>?_,h.vapart⟩
 ·have:o ≠ .row i:=fun e=>by
   rcases (b i e).1 with q | q
   ·omega
   ·exact g q
  rw [hc.keep i (by omega) this];exact h.keep i m g
 ·by_cases e:rows.length<=i\/o = .row i
  ·exact hc.calm i r f e (Yb i)
  ·rw [hc.keep i (by omega) (fun k=>e (.inr k))] at f
   exact h.calm i r f q p
 ·rcases List.mem_cons.1 hxm with rfl | hxm
  ·rcases a with q | ⟨id,q1,q2,q3⟩
   ·exact .inl q
   ·refine .inr ⟨id,q1,?_,q3⟩
    rcases q2 with q2 | q2
    ·exact .inl (by omega)
    ·exact (b id q2).1
  ·rcases h.each x (List.mem_cons_of_mem _ hxm) with q | ⟨id,q1,q2,q3⟩
   ·exact .inl q
   ·refine .inr ⟨id,q1,q2,?_⟩
    rw [hc.keep id (Aj.1 q3).1 (fun e=>p1 x hxm id e q1)]
    exact q3
 ·intro k
  rcases a with q | ⟨id',q1,q2,q3⟩
  ·simp only at q e;rw [q] at e;cases e
  ·simp only at q1 e
   rw [q1] at e;cases e
   rcases q2 with q2 | q2
   ·rcases h.each y (List.mem_cons_of_mem _ j) with w | ⟨id,w1,w2,w3⟩
    ·rw [w] at k;cases k
    ·rw [w1] at k;cases k
     have:=(Aj.1 w3).1
     omega
   ·exact p1 y j _ q2 k
 ·rcases h.veach x d with w | ⟨id,ver,w1,w2,w3⟩
  ·exact .inl w
  ·refine .inr ⟨id,ver,w1,w2,?_⟩
   rw [hc.keep id (Aj.1 w3).1 (fun e=>c id e x d ver w1)]
   exact w3
theorem Owns.append {P:Program} {t el:TypeId} {sz by8 n:Nat} {ag:Bool} {Rw rows:List RowA} {l:List (Nat × Nat × Own)} {o ho:Own} {v:List VE} (h:Owns Rw rows ((sz,n,o)::l) ho v) (he:It P t=some (el,sz,ag,by8)) (hz:(Bn P el).isSome=true) (hs:0<sz) (m:Nat)
  (hb:(n+m)*by8<=140737488355328) (hb2:n+m<=4611686018427387904):∃ o' rows',Owns Rw rows' ((sz,n+m,o')::l) ho v /\
   ∀ (xs ys:List AV) (B:Ao) (L:Aq) (o2:Own),xs.length=n->ys.length=m->(∀ y∈xs,y.cells.length=sz) ->
    Bv P ⟨B,rows,L⟩ t (.list xs o) (.list ys o2)=((∀ y∈ys,y.cells.length=sz/\AP y=true),.list (xs++ys.map AV.pub) o',⟨B,rows',L⟩):=by
 have b:∀ (ys:List AV),ys.length=m->Dq P el sz by8 n ys=(∀ y∈ys,y.cells.length=sz/\AP y=true):=by
  intro ys f
  simp only [Dq,hs,hz,f,hb,hb2,true_and]
 rcases h.each _ (List.mem_cons_self ..) with q | ⟨id,q1,q2,q3⟩
 ·simp only at q;subst q
  have e:=h.sub (List.sublist_cons_self _ _)
  by_cases hm:m=0
  ·subst hm
   refine ⟨.full,rows,e.full _ _,fun xs ys B L o2 d a c=>?_⟩
   have:ys=[]:=List.length_eq_zero_iff.1 a
   subst this
   simp [Bv,he,A0,BK,hs]
  ·refine ⟨.row rows.length,rows++[.grow (n+m) sz],e.make _ _,fun xs ys B L o2 d a c=>?_⟩
   simp only [Bv,he,A0,BK]
   rw [Aa,d,b ys a,a]
   simp only [true_and,Prod.mk.injEq,eq_iff_iff,and_true]
   exact ⟨fun q=>q.1,fun q=>⟨q,c⟩⟩
 ·simp only at q1;subst q1
  refine ⟨.row id,_,h.more (n+m),fun xs ys B L o2 d a c=>?_⟩
  simp only [Bv,he,A0,BK]
  rw [d,b ys a,a]
  simp only [true_and,Prod.mk.injEq,eq_iff_iff,and_true]
  exact ⟨fun q=>q.1,fun q=>⟨q,c,q3⟩⟩
theorem XX {α:Type} {xs:List α} {i:Nat} {x:α} (h:xs[i]? = some x):xs.drop i=x::xs.drop (i+1):=by
 obtain ⟨a,rfl⟩:=Aj.1 h
 exact List.drop_eq_getElem_cons a
theorem EQ {M1:Mem} {B bs bs' XB:List (List AV)} {Rw rows rows':List RowA} {L XL lp:List LoopA} {la:LoopA} {l l':List (Nat × Nat × Own)} {oh:Own} (hra:RoundAt M1 ((St.push ⟨B++bs,rows,L⟩ la).ext ⟨XB,[],XL⟩)) (ho:Owns Rw rows l oh) (ho':Owns Rw rows' l' oh) (hlen:bs'.length=bs.length) (hr:rows.length<=rows'.length)
  (hlp:lp=(L++[la])++XL) (hbs:∀ cs∈bs',∀ x∈cs,Under (B.length+bs.length+XB.length) rows'.length lp.length x):Calm ((B++bs).length+XB.length) rows'.length lp.length ⟨(B++bs')++XB,rows',lp⟩:=by
 subst hlp
 have b:=hra.calm
 simp only [St.ext,St.push,List.append_nil] at b
 have e:((B++bs)++XB).length=(B++bs).length+XB.length:=List.length_append
 rw [e] at b
 refine ⟨fun r h x hx=>?_,fun cs h x hx=>?_,fun a g k x hx n=>BP (Nat.le_refl _) hr (Nat.le_refl _) (b.loops a g k x hx n)⟩
 ·obtain ⟨i,m,rfl⟩:=List.mem_iff_getElem.1 h
  have f:rows'[i]? = some rows'[i]:=List.getElem?_eq_getElem m
  by_cases q:Rw.length<=i\/oh = .row i
  ·rw [ho'.calm i _ f q (Yb i)] at hx;cases hx
  ·have c:i<Rw.length:=by omega
   have d:=ho'.keep i c (fun e=>q (.inr e))
   have j:=ho.keep i c (fun e=>q (.inr e))
   rw [f,<-j] at d
   exact BP (Nat.le_refl _) hr (Nat.le_refl _) (b.rows _ (List.mem_of_getElem? d.symm) x hx)
 ·rcases List.mem_append.1 h with h | h
  ·rcases List.mem_append.1 h with h | h
   ·exact BP (Nat.le_refl _) hr (Nat.le_refl _) (b.boxes cs (by simp [h]) x hx)
   ·have:=hbs cs h x hx
    rwa [List.length_append]
  ·exact BP (Nat.le_refl _) hr (Nat.le_refl _) (b.boxes cs (by simp [h]) x hx)
section
variable {P:Program} {w0:World} {n:Nat} {e:Env} {st:St} {M0:Mem} {W0:World} {ro:Option Nat} {Q:AQ} {c:Code}
theorem Zg6 (k:Nat) {a:AV} (hk:look e k=some (true,a)) (h:D8 P w0 n M0 W0 ro c Q ((k,true,a.pub)::e) st):D8 P w0 n M0 W0 ro c Q e st :=
 JD _ _ (fun M _ w b=>⟨M,.refl _ _ _,b.relabel k _ (by
  have:=b.env k _ hk
  simp only [entryOk,if_true] at this
  exact this.pub)⟩) h
theorem SH (l i:Nat) {cs:List AV} {x:AV} (hl:st.boxes[l]? = some cs) (hi:cs[i]? = some x) (h1:x.one=true) (h:D8 P w0 n M0 W0 ro c Q e { st with boxes:=st.boxes.set l (cs.set i x.pubCell) }):D8 P w0 n M0 W0 ro c Q e st :=
 JD _ _ (fun M _ w a=>⟨M,.refl _ _ _,a.st.setBox hl hi (by rw [AV.one_pubCell];exact h1) (fun v hv=>hv.pubCell),a.size,a.env⟩) h
theorem RelSt.pubBox {M:Mem} {w:World} (h:RelSt w0 M st w) {l:Nat} {cs:List AV} (hl:st.boxes[l]? = some cs):RelSt w0 M { st with boxes:=st.boxes.set l (cs.map AV.pubCell) } w:=by
 have a:l<st.boxes.length:=(Aj.1 hl).1
 refine ⟨h.below,by simp [h.N],h.NR,h.top,h.inj,fun b cs' hl'=>?_,h.row,h.rowinj,h.loop⟩
 by_cases q:b=l
 ·subst q
  rw [List.getElem?_set_self a] at hl'
  cases hl'
  obtain ⟨a1,a2,c,d,a3,a4,a5,a6⟩:=h.box b cs hl
  refine ⟨a1,a2,c,d,a3,by simp [a4],fun z i=>?_,fun j e f=>?_⟩
  ·obtain ⟨y,g,rfl⟩:=List.mem_map.1 i
   rw [AV.one_pubCell];exact a5 y g
  ·simp only [List.getElem_map]
   exact (a6 j e (by simpa using f)).pubCell
 ·rw [List.getElem?_set_ne (Ne.symm q)] at hl'
  exact h.box b cs' hl'
theorem GR (l:Nat) {cs cs':List AV} (hl:st.boxes[l]? = some cs) (he:cs.map AV.pubCell=cs') (h:D8 P w0 n M0 W0 ro c Q e { st with boxes:=st.boxes.set l cs' }):D8 P w0 n M0 W0 ro c Q e st:=by
 subst he
 exact JD _ _ (fun M _ w a=>⟨M,.refl _ _ _,a.st.pubBox hl,a.size,a.env⟩) h
theorem WA {a:AV} {xs:List AV} (h:a.pub = .list xs .none):∃ o,a = .list xs o:=by
 cases a<;>simp only [AV.pub,reduceCtorEq] at h
 ·cases h;exact ⟨_,rfl⟩
theorem Gx (l i:Nat) {cs:List AV} {a:AV} {xs:List AV} (hl:st.boxes[l]? = some cs) (hi:cs[i]? = some a) (ha:a.pub = .list xs .none) (h:D8 P w0 n M0 W0 ro c Q e { st with boxes:=st.boxes.set l (cs.set i (.list xs .none)) }):D8 P w0 n M0 W0 ro c Q e st:=by
 obtain ⟨o,rfl⟩:=WA ha
 exact SH l i hl hi rfl h
theorem Cc {nb nr nl:Nat} {f:FuncId} {cs:List AV} (h:Under nb nr nl (.clo f cs)):∀ nb' nr' nl',nb<=nb'->nr<=nr'->nl<=nl'->∀ x∈cs,Under nb' nr' nl' x :=
 fun _ _ _ a b d x c=>BP a b d (O3.1 h x c)
theorem Wb {B0 B bs X:List (List AV)} {Rw rows:List RowA} {L l':List LoopA} {l:List (Nat × Nat × Own)} {oh:Own} {v:List VE} (hN:M0.N=B0.length) (hNR:M0.NR=Rw.length) (hNL:M0.NL=L.length) (hB:B.length=B0.length) (hc:Calm B0.length Rw.length L.length ⟨B,Rw,L⟩) (ho:Owns Rw rows l oh v)
  (hbs:∀ cs∈bs,∀ x∈cs,Under (B0.length+bs.length) rows.length L.length x) (he:IA (B0.length+bs.length) rows.length L.length e)
  (h:D8 P w0 n M0 W0 ro c Q e ⟨B++bs,rows,L⟩) (hv:∀ x∈v,∀ y∈x.2.2,Under (B0.length+bs.length) rows.length L.length y:=by intro x hx;cases hx):D8 P w0 n M0 W0 ro c Q e ⟨B++(bs++X),rows,L++l'⟩:=by
 rw [<-hB] at hN hc hbs he hv
 clear hB B0
 have i:=ho.len
 have b:St.cut ⟨B++(bs++X),rows,L++l'⟩ (B.length+bs.length) rows.length L.length=⟨B++bs,rows,L⟩:=by
  simp only [St.cut,List.take_length,<-List.append_assoc]
  rw [List.take_left' (by simp),List.take_left' rfl]
 refine TJ (B.length+bs.length) rows.length L.length (by simp) (Nat.le_refl _) (by simp) (by omega) (by omega) (by omega) ?_ he (by rw [b];exact h)
 rw [b]
 refine ⟨fun r f x hx=>?_,fun cs hcs x hx=>?_,fun d a k x hx g=>?_⟩
 ·exact ho.rowsCalm (by omega) hc.rows hv r f x hx
 ·rcases List.mem_append.1 hcs with hcs | hcs
  ·exact BP (by omega) (by omega) (Nat.le_refl _) (hc.boxes cs hcs x hx)
  ·exact hbs cs hcs x hx
 ·exact BP (by omega) (by omega) (Nat.le_refl _) (hc.loops d a k x hx g)
theorem AO {B0 B bs X:List (List AV)} {Rw rows:List RowA} {L:List LoopA} {l:List (Nat × Nat × Own)} {oh:Own} {v:List VE} (hN:M0.N=B0.length) (hNR:M0.NR=Rw.length) (hNL:M0.NL=L.length) (hB:B.length=B0.length) (hc:Calm B0.length Rw.length L.length ⟨B,Rw,L⟩) (ho:Owns Rw rows l oh v)
  (hbs:∀ cs∈bs,∀ x∈cs,Under (B0.length+bs.length) rows.length L.length x) (he:IA (B0.length+bs.length) rows.length L.length e)
  (h:D8 P w0 n M0 W0 ro c Q e ⟨B++bs,rows,L⟩) (hv:∀ x∈v,∀ y∈x.2.2,Under (B0.length+bs.length) rows.length L.length y:=by intro x hx;cases hx):D8 P w0 n M0 W0 ro c Q e ⟨B++(bs++X),rows,L⟩:=by
 rw [<-hB] at hN hc hbs he hv
 clear hB B0
 have i:=ho.len
 have b:St.cut ⟨B++(bs++X),rows,L⟩ (B.length+bs.length) rows.length L.length=⟨B++bs,rows,L⟩:=by
  simp only [St.cut,List.take_length,<-List.append_assoc]
  rw [List.take_left' (by simp)]
 refine TJ (B.length+bs.length) rows.length L.length (by simp) (Nat.le_refl _) (Nat.le_refl _) (by omega) (by omega) (by omega) ?_ he (by rw [b];exact h)
 rw [b]
 refine ⟨fun r f x hx=>?_,fun cs hcs x hx=>?_,fun d a k x hx g=>?_⟩
 ·exact ho.rowsCalm (by omega) hc.rows hv r f x hx
 ·rcases List.mem_append.1 hcs with hcs | hcs
  ·exact BP (by omega) (by omega) (Nat.le_refl _) (hc.boxes cs hcs x hx)
  ·exact hbs cs hcs x hx
 ·exact BP (by omega) (by omega) (Nat.le_refl _) (hc.loops d a k x hx g)
end
theorem Yp {B0 B bs:List (List AV)} {Rw rows:List RowA} {L:List LoopA} {l:List (Nat × Nat × Own)} {oh:Own} {v:List VE} (hB:B.length=B0.length) (hc:Calm B0.length Rw.length L.length ⟨B,Rw,L⟩) (ho:Owns Rw rows l oh v)
  (hbs:∀ cs∈bs,∀ x∈cs,Under (B0.length+bs.length) rows.length L.length x) (hv:∀ x∈v,∀ y∈x.2.2,Under (B0.length+bs.length) rows.length L.length y:=by intro x hx;cases hx):Calm (B0.length+bs.length) rows.length L.length ⟨B++bs,rows,L⟩:=by
 have e:=ho.len
 refine ⟨fun r c x hx=>?_,fun cs hcs x hx=>?_,fun b a k x hx d=>?_⟩
 ·exact ho.rowsCalm (by omega) hc.rows hv r c x hx
 ·rcases List.mem_append.1 hcs with hcs | hcs
  ·exact BP (by omega) (by omega) (Nat.le_refl _) (hc.boxes cs hcs x hx)
  ·exact hbs cs hcs x hx
 ·exact BP (by omega) (by omega) (Nat.le_refl _) (hc.loops b a k x hx d)
section
variable {P:Program} {w0:World} {st:St}
theorem Qv {c d:Bool} {f:FuncId} {cs args args':List AV} {k:AV->St->Prop} (v:AV)
  (h:ACalls P w0 f args' st fun r s=>r=v/\s=st) (he:args++cs=args') (hk:k v st):JA P w0 c d (.clo f cs) args st k := .inl ⟨v,fun _=>by
 show ACalls P w0 f (args++cs) st _
 rw [he];exact h,hk⟩
theorem La {d:Bool} {fv:AV} {args:List AV} {k:AV->St->Prop} (h:k .junk st):JA P w0 false d fv args st k := .inl ⟨.junk,fun q=>(nomatch q),h⟩
theorem HM {B B' X:List (List AV)} {Rw rows:List RowA} {L:List LoopA} {Post:AV->St->Prop} {v:AV} (hc:Calm B.length Rw.length L.length ⟨B',Rw,L⟩) (hB:B'.length=B.length) (h2:Rw <+: rows) (hu:Under B.length Rw.length L.length v.pubA) (hp:Post v.pubA ⟨B',Rw,L⟩) :
  Go.Ev.finP ⟨B,Rw,L⟩ Post v ⟨B'++X,rows,L⟩:=by
 obtain ⟨r,rfl⟩:=h2
 have e:St.cut ⟨B'++X,Rw++r,L⟩ B.length Rw.length L.length=⟨B',Rw,L⟩:=by simp [St.cut,<-hB]
 exact ⟨by simp [hB],by simp,by simp,by simp only [e];exact hc,hu,by simp only [e];exact hp⟩
end
theorem FV {B B':List (List AV)} {Rw rows:List RowA} {L:List LoopA} {Post:AV->St->Prop} {v:AV} (hc:Calm B.length Rw.length L.length ⟨B',Rw,L⟩) (hB:B'.length=B.length) (h2:Rw <+: rows) (hu:Under B.length Rw.length L.length v.pubA) (hp:Post v.pubA ⟨B',Rw,L⟩) :
  Go.Ev.finP ⟨B,Rw,L⟩ Post v ⟨B',rows,L⟩:=by
 have:=HM (X:=[]) hc hB h2 hu hp
 rwa [List.append_nil] at this
theorem AK {nb nr nl:Nat} {B:List (List AV)} {Rw:List RowA} {L:List LoopA} {l:Nat} {cs:List AV} (h:Calm nb nr nl ⟨B,Rw,L⟩) (hc:∀ x∈cs,Under nb nr nl x):Calm nb nr nl ⟨B.set l cs,Rw,L⟩ :=
 ⟨h.rows,fun ds hd x a=>by
  rcases List.mem_or_eq_of_mem_set hd with hd | rfl
  ·exact h.boxes ds hd x a
  ·exact hc x a,h.loops⟩
theorem Zl6 {B B' X:List (List AV)} {Rw rows:List RowA} {L l:List LoopA} {Post:AV->St->Prop} {v:AV} (hc:Calm B.length Rw.length L.length ⟨B',Rw,L⟩) (hB:B'.length=B.length) (h2:Rw <+: rows) (hu:Under B.length Rw.length L.length v.pubA) (hp:Post v.pubA ⟨B',Rw,L⟩) :
  Go.Ev.finP ⟨B,Rw,L⟩ Post v ⟨B'++X,rows,L++l⟩:=by
 obtain ⟨r,rfl⟩:=h2
 have e:St.cut ⟨B'++X,Rw++r,L++l⟩ B.length Rw.length L.length=⟨B',Rw,L⟩:=by simp [St.cut,<-hB]
 exact ⟨by simp [hB],by simp,by simp,by simp only [e];exact hc,hu,by simp only [e];exact hp⟩
theorem AH {B:List (List AV)} {l:Nat} {cs:List AV} (h:B[l]? = some cs) :
  (∀ X R L o,Dv ⟨B++X,R,L⟩ (.box l o)=true)/\(∀ R L o,Dv ⟨B,R,L⟩ (.box l o)=true)/\(∀ X R L o,Bi ⟨B++X,R,L⟩ (.box l o)=cs)/\(∀ R L o,Bi ⟨B,R,L⟩ (.box l o)=cs) /\
  (∀ X,(B++X)[l]? = some cs)/\B[l]? = some cs/\(∀ X,(B++X).getD l []=cs)/\B.getD l []=cs/\(∀ X c,(B++X).set l c=B.set l c++X) /\
  (∀ X R L o c,Dv ⟨B.set l c++X,R,L⟩ (.box l o)=true)/\(∀ R L o c,Dv ⟨B.set l c,R,L⟩ (.box l o)=true)/\(∀ X R L o c,Bi ⟨B.set l c++X,R,L⟩ (.box l o)=c)/\(∀ R L o c,Bi ⟨B.set l c,R,L⟩ (.box l o)=c) /\
  (∀ X c,(B.set l c++X)[l]? = some c)/\(∀ c,(B.set l c)[l]? = some c)/\(∀ X c,(B.set l c++X).getD l []=c)/\(∀ c,(B.set l c).getD l []=c)/\(∀ X c d,(B.set l c++X).set l d=B.set l d++X)/\(∀ c d,(B.set l c).set l d=B.set l d)/\B.set l cs=B:=by
 have a:=(Aj.1 h).1
 have e:∀ X,(B++X)[l]? = some cs:=fun X=>by rw [List.getElem?_append_left a];exact h
 have b:∀ X c,(B.set l c++X)[l]? = some c:=fun X c=>by rw [List.getElem?_append_left (by simpa using a)];simp [a]
 have f:∀ c,(B.set l c)[l]? = some c:=fun c=>by simp [a]
 refine ⟨?_,?_,?_,?_,e,h,?_,?_,?_,?_,?_,?_,?_,b,f,?_,?_,?_,?_,?_⟩
 ·intro X R L o;simp [Dv];omega
 ·intro R L o;simp [Dv,a]
 ·intro X R L o;simp only [Bi,List.getD_eq_getElem?_getD,e,Option.getD_some]
 ·intro R L o;simp only [Bi,List.getD_eq_getElem?_getD,h,Option.getD_some]
 ·intro X;rw [List.getD_eq_getElem?_getD,e];rfl
 ·rw [List.getD_eq_getElem?_getD,h];rfl
 ·intro X c;exact List.set_append_left _ _ a
 ·intro X R L o c;simp [Dv];omega
 ·intro R L o c;simp [Dv,a]
 ·intro X R L o c;simp only [Bi,List.getD_eq_getElem?_getD,b,Option.getD_some]
 ·intro R L o c;simp only [Bi,List.getD_eq_getElem?_getD,f,Option.getD_some]
 ·intro X c;rw [List.getD_eq_getElem?_getD,b];rfl
 ·intro c;rw [List.getD_eq_getElem?_getD,f];rfl
 ·intro X c d;rw [List.set_append_left _ _ (by simpa using a),List.set_set]
 ·intro c d;exact List.set_set ..
 ·obtain ⟨g,rfl⟩:=Aj.1 h;exact List.set_getElem_self _
@[go_sem] theorem Zjh (B X:Ao) (R:Ap) (L:Aq) (i k o:Nat) (c:List AV):Dv ⟨B.set i c++X,R,L⟩ (.box (B.length+k) o)=decide (k<X.length):=by simp [Dv]
@[go_sem] theorem Zis (B X:Ao) (R:Ap) (L:Aq) (i o:Nat) (c:List AV):Dv ⟨B.set i c++X,R,L⟩ (.box B.length o)=decide (0<X.length):=by simp [Dv]
@[go_sem] theorem V7 (B X:Ao) (i k:Nat) (c:List AV):(B.set i c++X).getD (B.length+k) []=X.getD k []:=by
 have:=YD (B.set i c) X k
 rwa [List.length_set] at this
@[go_sem] theorem UE (B X:Ao) (i:Nat) (c:List AV):(B.set i c++X).getD B.length []=X.getD 0 []:=by
 have:=Wv (B.set i c) X
 rwa [List.length_set] at this
@[go_sem] theorem Zha (B X:Ao) (R:Ap) (L:Aq) (i k o:Nat) (c:List AV):Bi ⟨B.set i c++X,R,L⟩ (.box (B.length+k) o)=X.getD k []:=V7 B X i k c
@[go_sem] theorem ZfM (B X:Ao) (R:Ap) (L:Aq) (i o:Nat) (c:List AV):Bi ⟨B.set i c++X,R,L⟩ (.box B.length o)=X.getD 0 []:=UE B X i c
@[go_sem] theorem ZcG (B X:Ao) (i k:Nat) (c x:List AV):(B.set i c++X).set (B.length+k) x=B.set i c++X.set k x:=by
 have:=Zgn (B.set i c) X k x
 rwa [List.length_set] at this
@[go_sem] theorem Za0 (B X:Ao) (i:Nat) (c x:List AV):(B.set i c++X).set B.length x=B.set i c++X.set 0 x:=by
 have:=Zej (B.set i c) X x
 rwa [List.length_set] at this
@[go_sem] theorem EF (B X:Ao) (i k:Nat) (c:List AV):(B.set i c++X)[B.length+k]? = X[k]? := by
 rw [List.getElem?_append_right (by simp),List.length_set,Nat.add_sub_cancel_left]
@[go_sem] theorem DR (B X:Ao) (i:Nat) (c:List AV):(B.set i c++X)[B.length]? = X[0]? := by
 rw [List.getElem?_append_right (by simp),List.length_set,Nat.sub_self]
attribute [go_sem] List.length_set
theorem I6 {α:Type} {B B':List α} {l:Nat} {c:α} (h:B <+: B') (hl:B[l]? = some c):B'[l]? = some c:=by
 obtain ⟨t,rfl⟩:=h
 rw [List.getElem?_append_left (Aj.1 hl).1];exact hl
theorem GB {α:Type} {f:α->List AV} (sz:Nat) (hf:∀ x,(f x).length=sz):∀ {xs:List α} {i:Nat} {x:α},xs[i]? = some x->((xs.flatMap f).drop (i*sz)).take sz=f x
 | [],i,x,h=>by simp at h
 | y::ys,0,x,h=>by
  simp only [List.getElem?_cons_zero,Option.some.injEq] at h
  subst h
  simp [List.flatMap_cons,<-hf y]
 | y::ys,i+1,x,h=>by
  simp only [List.getElem?_cons_succ] at h
  rw [List.flatMap_cons,Nat.succ_mul,Nat.add_comm,List.drop_append,hf y,Nat.add_sub_cancel_left,List.drop_eq_nil_of_le (by rw [hf y];omega),List.nil_append]
  exact GB sz hf h
@[go_sem] theorem ZiE (l:List AV):Bt l 0 []=l:=by simp [Bt]
@[go_sem] theorem Zgw (a x:AV) (l xs:List AV):Bt (a::l) 0 (x::xs)=x::Bt l 0 xs:=by simp [Bt]
@[go_sem] theorem Ziz (a:AV) (l xs:List AV) (n:Nat):Bt (a::l) (n+1) xs=a::Bt l n xs:=by simp [Bt,Nat.succ_add]
@[go_sem] theorem Ea (B l:Ao) (k:Nat):(B++l)[B.length+k]? = l[k]? := by rw [List.getElem?_append_right (by omega),Nat.add_sub_cancel_left]
@[go_sem] theorem Da (B l:Ao):(B++l)[B.length]? = l[0]? := by rw [List.getElem?_append_right (by omega),Nat.sub_self]
theorem Owns.enter {Rw rows:List RowA} {l:List (Nat × Nat × Own)} {ho o:Own} {v:List VE} {sz n:Nat} (h:Owns Rw rows ((sz,n,o)::l) ho v):Owns rows rows [(sz,n,o)] o:=by
 have b:=h.each _ (List.mem_cons_self ..)
 refine ⟨Nat.le_refl _,fun _ _ _=>rfl,fun i r a q _=>?_,fun x c=>?_,by simp,by simp,.nil⟩
 ·rcases q with q | q
  ·have:=(Aj.1 a).1;omega
  ·rcases b with w | ⟨id,w1,w2,w3⟩
   ·simp only at w;rw [q] at w;cases w
   ·simp only at w1 w3;rw [q] at w1;cases w1
    rw [a] at w3;rw [Option.some.inj w3];rfl
 ·rw [List.mem_singleton.1 c]
  rcases b with w | ⟨id,w1,w2,w3⟩
  ·exact .inl w
  ·exact .inr ⟨id,w1,.inr w1,w3⟩
theorem DY {nb nr nr' nl:Nat} {st:St} (h:Calm nb nr nl st) (hr:nr<=nr'):Calm nb nr' nl st :=
 ⟨fun r a x b=>BP (Nat.le_refl _) hr (Nat.le_refl _) (h.rows r a x b),fun cs a x b=>BP (Nat.le_refl _) hr (Nat.le_refl _) (h.boxes cs a x b),fun d a k x b c=>BP (Nat.le_refl _) hr (Nat.le_refl _) (h.loops d a k x b c)⟩
section
variable {P:Program} {w0:World} {f:FuncId} {st:St}
def finG (st:St) (Post:AV->St->Prop) (r:AV) (s:St):Prop :=
 st.boxes.length<=s.boxes.length/\st.rows.length<=s.rows.length/\st.loops.length<=s.loops.length/\Calm st.boxes.length s.rows.length st.loops.length (s.cut st.boxes.length s.rows.length st.loops.length) /\
  Under st.boxes.length s.rows.length st.loops.length r.pubA/\Post r.pubA (s.cut st.boxes.length s.rows.length st.loops.length)
theorem ACalls.finG {args:List AV} {Post:AV->St->Prop} (h:ACalls P w0 f args st (finG st Post)):ACalls P w0 f args st Post:=by
 refine ⟨h.1,fun M w b a c=>(h.2 M w b a c).mono ?_⟩
 rintro en m ⟨v,M',r,d,k,⟨g,n,e,l,i,j⟩,h3,h4,h5⟩
 exact ⟨v,M'.cut st.boxes.length d.rows.length st.loops.length,r.pubA,_,k,j,h3.cut (by have:=a.N;omega) (by have:=a.NR;omega) (by have:=a.loop.NL;omega) (by rw [h4.loop.NL];exact e) (by rw [h4.N];exact g) (by rw [h4.NR];exact Nat.le_refl _),h4.cut g (Nat.le_refl _) e l,h5.pubA.cut (by have:=h4.loop.NL;omega) i⟩
theorem Zk1 {B B' X:List (List AV)} {R0 rows:List RowA} {L l:List LoopA} {Post:AV->St->Prop} {v:AV} {ow:List (Nat × Nat × Own)} {oh:Own} {ve:List VE} (ho:Owns R0 rows ow oh ve) (hc:Calm B.length rows.length L.length ⟨B',R0,L⟩) (hB:B'.length=B.length) (hu:Under B.length rows.length L.length v.pubA) (hp:Post v.pubA ⟨B',rows,L⟩) (hv:∀ x∈ve,∀ y∈x.2.2,Under B.length rows.length L.length y:=by intro x hx;cases hx) :
  Go.Ev.finG ⟨B,R0,L⟩ Post v ⟨B'++X,rows,L++l⟩:=by
 have e:St.cut ⟨B'++X,rows,L++l⟩ B.length rows.length L.length=⟨B',rows,L⟩:=by simp [St.cut,<-hB]
 refine ⟨by simp [hB],ho.len,by simp,?_,hu,by simp only [e];exact hp⟩
 simp only [e]
 refine ⟨fun r d x hx=>?_,hc.boxes,hc.loops⟩
 obtain ⟨i,c,rfl⟩:=List.mem_iff_getElem.1 d
 have b:rows[i]? = some rows[i]:=List.getElem?_eq_getElem c
 by_cases qv:Xs ve i
 case neg =>
  obtain ⟨y,f,e,_⟩:=ho.inV b qv
  rw [e] at hx
  exact hv y f x hx
 by_cases q:R0.length<=i\/oh = .row i
 ·rw [ho.calm i _ b q qv] at hx;cases hx
 ·have a:i<R0.length:=by omega
  have:=ho.keep i a (fun e=>q (.inr e))
  rw [b,List.getElem?_eq_getElem a] at this
  rw [Option.some.inj this] at hx
  exact hc.rows _ (List.getElem_mem a) x hx
end
theorem ZjM {B B' X:List (List AV)} {R0 rows:List RowA} {L:List LoopA} {Post:AV->St->Prop} {v:AV} {ow:List (Nat × Nat × Own)} {oh:Own} {ve:List VE} (ho:Owns R0 rows ow oh ve) (hc:Calm B.length rows.length L.length ⟨B',R0,L⟩) (hB:B'.length=B.length) (hu:Under B.length rows.length L.length v.pubA) (hp:Post v.pubA ⟨B',rows,L⟩) (hv:∀ x∈ve,∀ y∈x.2.2,Under B.length rows.length L.length y:=by intro x hx;cases hx) :
  Go.Ev.finG ⟨B,R0,L⟩ Post v ⟨B'++X,rows,L⟩:=by
 have:=Zk1 (X:=X) (l:=[]) ho hc hB hu hp hv
 rwa [List.append_nil] at this
section
variable {P:Program} {w0:World} {n:Nat} {e:Env} {st:St} {M0:Mem} {W0:World} {ro:Option Nat} {Q:AQ} {c:Code}
theorem EA {B0 B bs X:List (List AV)} {Rw rows:List RowA} {L:List LoopA} {l:List (Nat × Nat × Own)} {oh:Own} {v:List VE} (hN:M0.N=B0.length) (hNR:M0.NR=Rw.length) (hNL:M0.NL=L.length) (hB:B.length=B0.length) (hc:Calm B0.length rows.length L.length ⟨B,Rw,L⟩) (ho:Owns Rw rows l oh v)
  (hbs:∀ cs∈bs,∀ x∈cs,Under (B0.length+bs.length) rows.length L.length x) (he:IA (B0.length+bs.length) rows.length L.length e)
  (h:D8 P w0 n M0 W0 ro c Q e ⟨B++bs,rows,L⟩) (hv:∀ x∈v,∀ y∈x.2.2,Under (B0.length+bs.length) rows.length L.length y:=by intro x hx;cases hx):D8 P w0 n M0 W0 ro c Q e ⟨B++(bs++X),rows,L⟩:=by
 rw [<-hB] at hN hc hbs he hv
 clear hB B0
 have s:=ho.len
 have f:St.cut ⟨B++(bs++X),rows,L⟩ (B.length+bs.length) rows.length L.length=⟨B++bs,rows,L⟩:=by
  simp only [St.cut,List.take_length,<-List.append_assoc]
  rw [List.take_left' (by simp)]
 refine TJ (B.length+bs.length) rows.length L.length (by simp) (Nat.le_refl _) (Nat.le_refl _) (by omega) (by omega) (by omega) ?_ he (by rw [f];exact h)
 rw [f]
 refine ⟨fun r o x hx=>?_,fun cs hcs x hx=>?_,fun g b k x hx p=>?_⟩
 ·obtain ⟨i,j,rfl⟩:=List.mem_iff_getElem.1 o
  have d:rows[i]? = some rows[i]:=List.getElem?_eq_getElem j
  by_cases qv:Xs v i
  case neg =>
   obtain ⟨y,m,e,_⟩:=ho.inV d qv
   rw [e] at hx
   exact hv y m x hx
  by_cases q:Rw.length<=i\/oh = .row i
  ·rw [ho.calm i _ d q qv] at hx;cases hx
  ·have a:i<Rw.length:=by omega
   have:=ho.keep i a (fun e=>q (.inr e))
   rw [d,List.getElem?_eq_getElem a] at this
   rw [Option.some.inj this] at hx
   exact BP (by omega) (Nat.le_refl _) (Nat.le_refl _) (hc.rows _ (List.getElem_mem a) x hx)
 ·rcases List.mem_append.1 hcs with hcs | hcs
  ·exact BP (by omega) (Nat.le_refl _) (Nat.le_refl _) (hc.boxes cs hcs x hx)
  ·exact hbs cs hcs x hx
 ·exact BP (by omega) (Nat.le_refl _) (Nat.le_refl _) (hc.loops g b k x hx p)
end
def UD (acc:List Nat) (o:Oper):Nat:=o.after.toList.foldl (fun m e=>if Region.binds .any e then m ||| 2 ^ e.on ||| acc.getD e.on 0 else m) 0
def G2:List Oper->List Nat->List Nat
 | [],acc=>acc
 | o::os,acc=>G2 os (acc++[UD acc o])
def MM (ms:List Nat) (i j:Nat):Bool:=(ms.getD i 0).testBit j
theorem XO (acc:List Nat) (j:Nat):∀ (es:List Edge) (m:Nat),(es.foldl (fun m e=>if Region.binds .any e then m ||| 2 ^ e.on ||| acc.getD e.on 0 else m) m).testBit j=true->m.testBit j=true\/∃ e∈es,Region.binds .any e=true/\(e.on=j\/MM acc e.on j=true)
 | [],m,h => .inl h
 | e::es,m,h=>by
  simp only [List.foldl_cons] at h
  rcases XO acc j es _ h with h | ⟨e',h1,h2⟩
  ·by_cases c:Region.binds .any e=true
   ·rw [Ah c] at h
    simp only [Nat.testBit_or,Bool.or_eq_true,Nat.testBit_two_pow,decide_eq_true_eq] at h
    rcases h with (h | h) | h
    ·exact .inl h
    ·exact .inr ⟨e,List.mem_cons_self .., c,.inl h⟩
    ·exact .inr ⟨e,List.mem_cons_self .., c,.inr h⟩
   ·rw [Ai c] at h;exact .inl h
  ·exact .inr ⟨e',List.mem_cons_of_mem _ h1,h2⟩
theorem Ui (acc acc':List Nat):∀ (es:List Edge) (m:Nat),(∀ e∈es,Region.binds .any e=true->acc.getD e.on 0=acc'.getD e.on 0) ->
  es.foldl (fun m e=>if Region.binds .any e then m ||| 2 ^ e.on ||| acc.getD e.on 0 else m) m=es.foldl (fun m e=>if Region.binds .any e then m ||| 2 ^ e.on ||| acc'.getD e.on 0 else m) m
 | [],_,_=>rfl
 | e::es,m,h=>by
  simp only [List.foldl_cons]
  have:(if Region.binds .any e=true then m ||| 2 ^ e.on ||| acc.getD e.on 0 else m)=if Region.binds .any e=true then m ||| 2 ^ e.on ||| acc'.getD e.on 0 else m:=by
   by_cases c:Region.binds .any e=true
   ·rw [Ah c,Ah c,h e (List.mem_cons_self ..) c]
   ·rw [Ai c,Ai c]
  rw [this]
  exact Ui acc acc' es _ fun b a=>h b (List.mem_cons_of_mem _ a)
theorem Sl:∀ (os:List Oper) (acc:List Nat) (i:Nat),i<acc.length->(G2 os acc).getD i 0=acc.getD i 0
 | [],_,_,_=>rfl
 | o::os,acc,i,h=>by
  rw [G2,Sl os _ i (by simp;omega),List.getD_eq_getElem?_getD,List.getElem?_append_left h,List.getD_eq_getElem?_getD]
theorem YK:∀ (os:List Oper) (acc:List Nat) (k:Nat) (o:Oper),os[k]? = some o->(∀ (k:Nat) (o:Oper),os[k]? = some o->∀ e∈o.after,Region.binds .any e=true->e.on<acc.length+k)->(G2 os acc).getD (acc.length+k) 0=UD (G2 os acc) o
 | [],_,_,_,h,_=>by simp at h
 | o'::os,acc,0,o,h,hb=>by
  simp only [List.getElem?_cons_zero,Option.some.injEq] at h
  subst h
  rw [G2,Sl os _ _ (by simp)]
  have c:(acc++[UD acc o']).getD (acc.length+0) 0=UD acc o':=by simp [List.getD_eq_getElem?_getD]
  rw [c]
  refine Ui _ _ _ _ fun e b a=>?_
  have:=hb 0 o' rfl e (by simpa using b) a
  rw [Sl os _ _ (by simp;omega),List.getD_eq_getElem?_getD,List.getD_eq_getElem?_getD,List.getElem?_append_left (by omega)]
 | o'::os,acc,k+1,o,h,hb=>by
  rw [G2]
  have:=YK os (acc++[UD acc o']) k o (by simpa using h) (fun k o h e b a=>by
   have:=hb (k+1) o (by simpa using h) e b a
   simp;omega)
  rw [List.length_append,List.length_singleton,Nat.add_assoc,Nat.add_comm 1 k] at this
  exact this
def Pl (ef:List Nat) (ms:List Nat) (i j:Nat):Bool :=
 if ef.contains i then ef.contains j||MM ms i j else if ef.contains j then MM ms j i else decide (j<i)&&MM ms i j
def TM (ef:List Nat) (ms:List Nat) (i j:Nat):Bool :=
 if ef.contains i then ef.contains j||MM ms i j else ef.contains j&&MM ms j i
def KV (l:List Oper) (ef:List Nat):Bool:=(ef.all fun i=>decide (i<l.length)) &&
 (List.range l.length).all fun i=>match l[i]? with
  | some o=>(o.after.toList.all fun e => !Region.binds .any e||decide (e.on<i))&&(List.range l.length).all fun j=>match l[j]? with
   | some p=>match p.dst with
    | some s=>(decide (i=j)||o.dst != some s||TM ef (G2 l []) i j)&&(!(looks l o).contains s||Pl ef (G2 l []) i j)
    | none=>true
   | none=>true
  | none=>true
theorem FA {l:List Oper} {ef:List Nat} (hB:KV l ef=true) {i:Nat} {o:Oper} (ho:l[i]? = some o) :
  (∀ e∈o.after,Region.binds .any e=true->e.on<i)/\∀ j p s,l[j]? = some p->p.dst=some s->(o.dst=some s->i=j\/TM ef (G2 l []) i j=true)/\(s∈looks l o->Pl ef (G2 l []) i j=true):=by
 have a:=List.all_eq_true.1 (Bool.and_eq_true_iff.1 hB).2 i (List.mem_range.2 (Aj.1 ho).1)
 simp only [ho,Bool.and_eq_true] at a
 refine ⟨fun e f g=>?_,fun j p s c hs=>?_⟩
 ·have:=List.all_eq_true.1 a.1 e (by simpa using f)
  simpa [g] using this
 ·have b:=List.all_eq_true.1 a.2 j (List.mem_range.2 (Aj.1 c).1)
  simp only [c,hs,Bool.and_eq_true,Bool.or_eq_true,decide_eq_true_eq,bne_iff_ne,Bool.not_eq_true'] at b
  refine ⟨fun hd=>?_,fun d=>?_⟩
  ·rcases b.1 with (h | h) | h
   ·exact .inl h
   ·exact absurd hd h
   ·exact .inr h
  ·rcases b.2 with h3 | h3
   ·have:(looks l o).contains s=true:=by simpa using d
    rw [h3] at this;cases this
   ·exact h3
theorem Uj {l:List Oper} {ef:List Nat} (hB:KV l ef=true) {listed:Array Bool} (closed:∀ (j:Nat) (oj:Oper),l[j]? = some oj->listed.getD j false=true->∀ e∈oj.after,Region.binds .any e=true->listed.getD e.on false=true) (j:Nat) :
  ∀ (i:Nat) (o:Oper),l[i]? = some o->(∀ e∈o.after,Region.binds .any e=true->listed.getD e.on false=true)->MM (G2 l []) i j=true->listed.getD j false=true:=by
 intro i
 induction i using Nat.strongRecOn with
 | _ i ih =>
  intro o ho g a
  have f:=YK l [] i o ho (fun k o h e c n=>by have:=(FA hB h).1 e c n;simpa using this)
  simp only [List.length_nil,Nat.zero_add] at f
  unfold MM at a
  rw [f] at a
  rcases XO _ _ _ _ a with h | ⟨e,h1,h2,h3⟩
  ·simp at h
  ·have c:e∈o.after:=by simpa using h1
   have b:=g e c h2
   have d:=(FA hB ho).1 e c h2
   rcases h3 with rfl | h3
   ·exact b
   ·have m:=(Aj.1 ho).1
    exact ih e.on d _ (List.getElem?_eq_getElem (by omega)) (closed e.on _ (List.getElem?_eq_getElem (by omega)) b) h3
def Bh (ef:List Nat):Nat->List Oper->List Oper
 | _,[]=>[]
 | i,o::os=>(if ef.contains i then { o with dst:=none,op := .move (.const (.bool true)),guard:=none } else o)::Bh ef (i+1) os
theorem RA (ef:List Nat):∀ (l:List Oper) (k i:Nat),(Bh ef k l)[i]? = (l[i]?).map fun o=>if ef.contains (k+i) then { o with dst:=none,op := .move (.const (.bool true)),guard:=none } else o
 | [],_,_=>by simp [Bh]
 | o::os,k,0=>by simp [Bh]
 | o::os,k,i+1=>by simp only [Bh,List.getElem?_cons_succ];rw [RA ef os (k+1) i,Nat.add_assoc,Nat.add_comm 1 i]
theorem IV (ef:List Nat):∀ (l:List Oper) (k:Nat),(Bh ef k l).length=l.length
 | [],_=>rfl
 | o::os,k=>by simp [Bh,IV ef os]
section
variable {P:Program} {w0:World} {n:Nat}
def Cd (P:Program) (w0:World) (ev:Env) (s:St) (o:Oper) (v:AV) (s':St):Prop :=
 match o.op with
 | .call ⟨.value f,args,_⟩=>AN ev true f/\(∀ x∈args.toList,AN ev true x)/\NN P w0 (Az ev f) (args.toList.map fun x=>argP ev (Az ev x)) s fun r t=>r=v/\t=s'
 | op=>(A6 P ev true s op).1/\(A6 P ev true s op).2.1=v/\(A6 P ev true s op).2.2=s'
theorem Xq {ev:Env} {s s':St} {o:Oper} {v:AV} (hc:¬ LD o.op=true):Cd P w0 ev s o v s'=((A6 P ev true s o.op).1/\(A6 P ev true s o.op).2.1=v/\(A6 P ev true s o.op).2.2=s'):=by
 obtain ⟨e,op,c,d,b,a⟩:=o
 cases op with
 | call cc =>
  obtain ⟨callee,args,ts⟩:=cc
  cases callee with
  | value f=>exact absurd rfl hc
  | _=>rfl
 | _=>rfl
def SZ (P:Program) (w0:World) (ev:Env) (s:St) (o:Oper) (Post:AV->St->Prop):Prop :=
 (LD o.op=true/\match o.op with
  | .call ⟨.value f,args,_⟩=>AN ev true f/\(∀ x∈args.toList,AN ev true x)/\NN P w0 (Az ev f) (args.toList.map fun x=>argP ev (Az ev x)) s Post
  | _=>False)\/∃ v s',Cd P w0 ev s o v s'/\∀ r t,r=v/\t=s'->Post r t
theorem WV {M:Mem} {ev:Env} {s s':St} {a:Act} {w:World} (h:Rel w0 n M ev s a w) (ro:Option Nat) (m:Nat) {o:Oper} {v:AV} (hv:Cd P w0 ev s o v s')
  (Q:Exit->Act->World->Prop) (K:Act->World->Prop) (hK:∀ u w' M',Ext w0 M w M' w'->RelSt w0 M' s' w'->R w0 M' w' u v->K (a.put o.dst u) w'):o.wpIn (FW ro) m P a w K Q:=by
 by_cases hc:LD o.op=true
 ·obtain ⟨dst,op,l,q,j,d⟩:=o
  cases op<;>try cases hc
  rename_i cc
  obtain ⟨callee,args,ts⟩:=cc
  cases callee<;>try cases hc
  rename_i f
  obtain ⟨i,k,e⟩:=hv
  refine KF h ro m i k e Q _ (fun r t p u w' M' g b c=>?_)
  obtain ⟨rfl,rfl⟩:=p
  exact hK u w' M' g b c
 ·rw [Xq hc] at hv
  obtain ⟨i,k,e⟩:=hv
  refine Ry h ro m o i Q _ (fun u w' M' g b c=>?_)
  rw [e] at b
  rw [k] at c
  exact hK u w' M' g b c
theorem YL {M:Mem} {ev:Env} {s:St} {a:Act} {w:World} (h:Rel w0 n M ev s a w) (ro:Option Nat) (m:Nat) {o:Oper} {Post:AV->St->Prop} (hv:SZ P w0 ev s o Post)
  (Q:Exit->Act->World->Prop) (K:Act->World->Prop) (hK:∀ v s' u w' M',Post v s'->Ext w0 M w M' w'->RelSt w0 M' s' w'->R w0 M' w' u v->K (a.put o.dst u) w'):o.wpIn (FW ro) m P a w K Q:=by
 rcases hv with ⟨hc,hv⟩ | ⟨v,s',hv,d⟩
 ·obtain ⟨dst,op,j,l,i,c⟩:=o
  cases op<;>try cases hc
  rename_i cc
  obtain ⟨callee,args,ts⟩:=cc
  cases callee<;>try cases hc
  rename_i f
  obtain ⟨p,q,k⟩:=hv
  exact KF h ro m p q k Q _ (fun r t d u w' M' e b g=>hK r t u w' M' d e b g)
 ·exact WV h ro m hv Q K fun u w' M' e b g=>hK v s' u w' M' (d _ _ ⟨rfl,rfl⟩) e b g
def GoodD (P:Program) (w0:World) (n:Nat) (l:List Oper) (ef:List Nat) (F:List Nat->St->Prop) (T:Env->St->Prop):Nat->List Nat->Env->St->Prop
 | 0,_,_,_=>False
 | k+1,dn,ev,s=>F dn s/\((ef.all fun i=>dn.contains i)=true->T ev s)/\∀ i∈ef,dn.contains i=false->(ef.all fun j => !MM (G2 l []) i j||dn.contains j)=true ->
   ∃ o,l[i]? = some o/\o.guard=none/\IB n o.dst/\∃ Post:AV->St->Prop,SZ P w0 (CV true l o ev) s o Post/\∀ v s',Post v s'->GoodD P w0 n l ef F T k (i::dn) (IX ev o.dst true v) s'
abbrev Good (P:Program) (w0:World) (n:Nat) (l:List Oper) (ef:List Nat) (F:St->Prop) (T:Env->St->Prop):Nat->List Nat->Env->St->Prop:=GoodD P w0 n l ef (fun _=>F) T
structure AInv (w0:World) (n:Nat) (l:List Oper) (ef:List Nat) (s0:St) (e e1:Env) (M1:Mem) (w1:World) (ds:List Deferred) (dn:List Nat) (ev:Env) (s:St) (listed:Array Bool) (a:Act) (w:World) (M:Mem):Prop where
 size:listed.size=l.length
 ini:dn=[]->s=s0
 closed:∀ (j:Nat) (oj:Oper),l[j]? = some oj->listed.getD j false=true->∀ e∈oj.after,Region.binds .any e=true->listed.getD e.on false=true
 eff:∀ i∈ef,(listed.getD i false=true<->i∈dn)
 sub:∀ i∈dn,i∈ef
 rel:RelSt w0 M s w
 tmps:a.tmps.size=n
 defers:a.defers=ds
 ext:Ext w0 M1 w1 M w
 evn:∀ t,(∀ j∈dn,∀ o,l[j]? = some o->o.dst≠some t)->look ev t=look e1 t
 done:∀ t x,(∃ j∈dn,∃ o,l[j]? = some o/\o.dst=some t)->look ev t=some x->entryOk w0 M w (a.tmps.getD t undef) x
 new:∀ t x,(∀ j∈dn,∀ o,l[j]? = some o->o.dst≠some t)->(∃ i o,i ∉ ef/\l[i]? = some o/\o.dst=some t/\listed.getD i false=true)->look e1 t=some x->entryOk w0 M w (a.tmps.getD t undef) x
 old:∀ t x,(∀ i o,l[i]? = some o->o.dst=some t->listed.getD i false=false)->look e t=some x->entryOk w0 M w (a.tmps.getD t undef) x
def UK (l:List Oper) (ef el:List Nat):Bool:=ef.all fun i=>el.all fun j=>MM (G2 l []) i j
def Zhu (P:Program) (w0:World) (n:Nat) (l:List Oper) (e1:Env) (s:St) (o:Oper):Prop :=
 ∃ (Ei:Env) (v:AV),Kq l (CV true l o Ei) o.guard/\IB n o.dst/\Ym P w0 (CV true l o Ei) (C5 l (CV true l o Ei) o.guard) s o v/\(∀ t∈looks l o,look Ei t=look e1 t)/\∀ t,o.dst=some t->look e1 t=some (C5 l (CV true l o Ei) o.guard,v)
theorem MR {l:List Oper} {ef:List Nat} {i:Nat} {o:Oper} (hi:i ∉ ef) (ho:l[i]? = some o):(Bh ef 0 l)[i]? = some o:=by
 rw [RA,ho]
 simp [hi]
theorem O9 {l:List Oper} {ef:List Nat} {i:Nat} {o:Oper} {t:Nat} (hi:(Bh ef 0 l)[i]? = some o) (hd:o.dst=some t):i ∉ ef/\l[i]? = some o:=by
 rw [RA] at hi
 cases hl:l[i]? with
 | none=>simp [hl] at hi
 | some p =>
  rw [hl] at hi
  simp only [Option.map_some,Nat.zero_add,Option.some.injEq] at hi
  by_cases c:i∈ef
  ·simp [c] at hi
   subst hi
   cases hd
  ·simp [c] at hi
   subst hi
   exact ⟨c,rfl⟩
theorem VX {l:List Oper} {ef ef':List Nat} (hB:KV l ef=true) (hs:∀ i∈ef,i∈ef'):∀ (i j:Nat) (o p:Oper) (t:Nat),(Bh ef' 0 l)[i]? = some o->(Bh ef' 0 l)[j]? = some p->o.dst=some t->p.dst=some t->i=j:=by
 intro i j o p t e d a b
 obtain ⟨a1,a2⟩:=O9 e a
 obtain ⟨f,g⟩:=O9 d b
 have a3:i ∉ ef:=fun h=>a1 (hs i h)
 have c:j ∉ ef:=fun h=>f (hs j h)
 rcases ((FA hB a2).2 j p t g b).1 a with h | h
 ·exact h
 ·simp [TM,a3,c] at h
theorem Vi {l:List Oper} {ef:List Nat} {e e1:Env} {s:St} (hB:KV l ef=true) (h:∃ c,RQ P w0 n true l (fun e' s'=>e'=e1/\s'=s) c (Bh ef 0 l) e s) :
  (∀ t,(∀ i o,i ∉ ef->l[i]? = some o->o.dst≠some t)->look e1 t=look e t)/\∀ i o,i ∉ ef->l[i]? = some o->Zhu P w0 n l e1 s o:=by
 obtain ⟨c,D⟩:=h
 obtain ⟨E,C,V,T',r,_⟩:=QJ c _ _ D
 rw [IV] at r
 have q:∀ t j,j<=l.length->_:=fun t j v=>NM T' (VX hB fun _ h=>h) t j (by rw [IV];exact v)
 have m:∀ t,(∀ i o,i ∉ ef->l[i]? = some o->o.dst≠some t)->look e1 t=look e t:=by
  intro t x
  have:=(q t l.length (Nat.le_refl _)).1 fun i o _ J hd=>by
   obtain ⟨a1,a2⟩:=O9 J hd
   exact x i o a1 a2 hd
  rwa [r] at this
 refine ⟨m,fun i o d a=>?_⟩
 have b:i<l.length:=(Aj.1 a).1
 obtain ⟨_,H,F,w,G⟩:=T'.step i o (MR d a)
 refine ⟨E i,V i,H,F,by rw [w];exact G,fun t z=>?_,fun t hd=>?_⟩
 ·by_cases Bf:∃ i o,i ∉ ef/\l[i]? = some o/\o.dst=some t
  ·obtain ⟨j,p,k,f,g⟩:=Bf
   have y:=((FA hB a).2 j p t f g).2 z
   have u:j<i/\MM (G2 l []) i j=true:=by simpa [Pl,d,k] using y
   rw [(q t i (Nat.le_of_lt b)).2 j p u.1 (MR k f) g,<-r,(q t l.length (Nat.le_refl _)).2 j p (by omega) (MR k f) g]
  ·rw [m t fun i o k f g=>Bf ⟨i,o,k,f,g⟩]
   exact (q t i (Nat.le_of_lt b)).1 fun j p _ v hd=>by
    obtain ⟨a1,a2⟩:=O9 v hd
    exact Bf ⟨j,p,a1,a2,hd⟩
 ·rw [w,<-r]
  exact (q t l.length (Nat.le_refl _)).2 i o b (MR d a) hd
inductive PreOk (e1:Env):Env->Prop where
 | nil:PreOk e1 e1
 | cons {k:Nat} {v:Bool × AV} {r:Env} (h:look e1 k=some v) (h':PreOk e1 r):PreOk e1 ((k,v)::r)
theorem PreOk.look {e1 e':Env} (h:PreOk e1 e') (t:Nat):Go.Ev.look e' t=Go.Ev.look e1 t:=by
 induction h with
 | nil=>rfl
 | @cons k v r h _ ih =>
  show (if k=t then some v else Go.Ev.look r t)=_
  split
  ·rename_i q
   rw [<-q,h]
  ·exact ih
theorem Zaf {l:List Oper} {ef el:List Nat} {e1:Env} {s:St} (hB:KV l ef=true) (h:∃ c,RQ P w0 n true l (fun e' s'=>s'=s/\PreOk e1 e') c (Bh (ef++el) 0 l) e1 s) (i:Nat) (o:Oper) (hie:i ∉ ef) (hil:i ∉ el) (ho':l[i]? = some o):Zhu P w0 n l e1 s o:=by
 obtain ⟨c,x⟩:=h
 obtain ⟨E,C,V,T',_,k⟩:=QJ c _ _ x
 rw [IV] at k
 have b:∀ t j,j<=l.length->_:=fun t j d=>NM T' (VX hB fun _ h=>List.mem_append_left _ h) t j (by rw [IV];exact d)
 have e:i<l.length:=(Aj.1 ho').1
 have a:i ∉ ef++el:=fun h=>(List.mem_append.1 h).elim hie hil
 have fin:∀ t,look (E l.length) t=look e1 t:=k.look
 obtain ⟨_,r,q,g,u⟩:=T'.step i o (MR a ho')
 refine ⟨E i,V i,r,q,by rw [g];exact u,fun t _=>?_,fun t hd=>?_⟩
 ·by_cases Bf:∃ j p,j<i/\(Bh (ef++el) 0 l)[j]? = some p/\p.dst=some t
  ·obtain ⟨j,p,v,m,f⟩:=Bf
   rw [(b t i (Nat.le_of_lt e)).2 j p v m f,<-fin t,(b t l.length (Nat.le_refl _)).2 j p (by omega) m f]
  ·exact (b t i (Nat.le_of_lt e)).1 fun j p d w hd=>Bf ⟨j,p,d,w,hd⟩
 ·rw [g,<-fin t]
  exact (b t l.length (Nat.le_refl _)).2 i o e (MR a ho') hd
theorem V8 {l:List Oper} {ef el:List Nat} {s0:St} {e e1:Env} {F:List Nat->St->Prop} {T:Env->St->Prop} {M1:Mem} {w1:World} {ds:List Deferred} {ro:Option Nat} {m:Nat} {Q:Exit->Act->World->Prop} (hB:KV l ef=true) (hel:UK l ef el=true)
  (noE1:∀ t,(∀ i o,i ∉ ef->l[i]? = some o->o.dst≠some t)->look e1 t=look e t)
  (hF:∀ dn s,F dn s->∀ i o,i ∉ ef->(∀ j∈dn,MM (G2 l []) j i=false)->(i∈el->s=s0)->l[i]? = some o->Zhu P w0 n l e1 s o)
  (hT:∀ ev s M a w,T ev s->Rel w0 n M ev s a w->Ext w0 M1 w1 M w->a.defers=ds->Q .normal a w) :
  ∀ fuel listed a w M k dn ev s,fuel=listed.toList.count false->GoodD P w0 n l ef F T k dn ev s->AInv w0 n l ef s0 e e1 M1 w1 ds dn ev s listed a w M->wpAnyIn (FW ro) m P .any l.toArray Q fuel listed a w:=by
 intro fuel
 induction fuel with
 | zero =>
  intro listed a w M k dn ev s hf hg inv
  have y:∀ j,j<l.length->listed.getD j false=true:=by
   intro j hj
   cases hq:listed.getD j false with
   | true=>rfl
   | false =>
    exfalso
    have aq:j<listed.size:=by rw [inv.size];omega
    have:false∈listed.toList:=by
     have e1:listed[j]=false:=by simpa [aq] using hq
     rw [<-e1];simp
    have:=List.count_pos_iff.2 this
    omega
  cases k with
  | zero=>exact hg.elim
  | succ k =>
  obtain ⟨g1,g2,_⟩:=hg
  have hdn:(ef.all fun i=>dn.contains i)=true:=by
   refine List.all_eq_true.2 fun i E=>?_
   have c:i<l.length:=by simpa using List.all_eq_true.1 (Bool.and_eq_true_iff.1 hB).1 i E
   simpa using (inv.eff i E).1 (y i c)
  refine ⟨?_,hT ev s M a w (g2 hdn) ⟨inv.rel,inv.tmps,fun t x hx=>?_⟩ inv.ext inv.defers⟩
  ·refine List.eq_nil_iff_forall_not_mem.2 fun i E=>?_
   obtain ⟨J,o,ho,_⟩:=mem_ready.1 E
   have ho':l[i]? = some o:=by simpa using ho
   have:=y i (Aj.1 ho').1
   obtain ⟨q1,q2⟩:=Zu J
   obtain ⟨q3,q4⟩:=Zbq this
   rw [q2] at q4;cases q4
  ·by_cases A:∃ j∈dn,∃ o,l[j]? = some o/\o.dst=some t
   ·exact inv.done t x A hx
   ·have D:∀ j∈dn,∀ o,l[j]? = some o->o.dst≠some t:=fun j hj o ho hd=>A ⟨j,hj,o,ho,hd⟩
    rw [inv.evn t D] at hx
    by_cases Bf:∃ i o,i ∉ ef/\l[i]? = some o/\o.dst=some t
    ·obtain ⟨i,o,b1,b2,b3⟩:=Bf
     exact inv.new t x D ⟨i,o,b1,b2,b3,y i (Aj.1 b2).1⟩ hx
    ·rw [noE1 t fun i o b1 b2 b3=>Bf ⟨i,o,b1,b2,b3⟩] at hx
     refine inv.old t x (fun i o ho hd=>?_) hx
     by_cases c:i∈ef
     ·exact absurd hd (D i ((inv.eff i c).1 (y i (Aj.1 ho).1)) o ho)
     ·exact absurd ⟨i,o,c,ho,hd⟩ Bf
 | succ fuel ih =>
  intro listed a w M k dn ev s hf hg inv
  cases k with
  | zero=>exact hg.elim
  | succ k =>
  obtain ⟨g1,g2,g3⟩:=hg
  have V:∃ j,j<l.length/\listed.getD j false=false/\∀ i,i<j->listed.getD i false=true:=by
   refine SV fun y=>?_
   have:0<listed.toList.count false:=by omega
   have U:=List.count_pos_iff.1 this
   obtain ⟨i,E,he⟩:=List.mem_iff_getElem.1 U
   have b:i<listed.size:=by simpa using E
   have:=y i (by rw [<-inv.size];exact b)
   simp only [Array.getD_eq_getD_getElem?,Array.getElem?_eq_getElem b,Option.getD_some] at this
   rw [Array.getElem_toList] at he
   rw [he] at this;cases this
  obtain ⟨k0,ae,ak,af⟩:=V
  have ar:k0<listed.size:=by rw [inv.size];omega
  have am:l[k0]? = some l[k0]:=List.getElem?_eq_getElem ae
  have H:k0∈Region.ready .any l.toArray listed :=
   mem_ready.2 ⟨by simpa [ar] using ak,l[k0],by simp,fun Y he hb=>af _ ((FA hB am).1 Y he hb)⟩
  refine ⟨fun h0=>absurd H (by rw [h0];simp),fun i E=>?_⟩
  obtain ⟨J,o,ho,N⟩:=mem_ready.1 E
  have ho':l[i]? = some o:=by simpa using ho
  have av:i<l.length:=(Aj.1 ho').1
  have b:i<listed.size:=by rw [inv.size];omega
  have O:listed.getD i false=false:=by simpa [b] using J
  have C:∀ j,MM (G2 l []) i j=true->listed.getD j false=true:=fun j hj=>Uj hB inv.closed j i o ho' N hj
  have K:fuel=(listed.setIfInBounds i true).toList.count false:=by
   have ad:listed[i]=false:=by simpa [b] using J
   have au:0<listed.toList.count false:=List.count_pos_iff.2 (by rw [<-ad];simp)
   rw [Array.toList_setIfInBounds,List.count_set (by simpa using b)]
   simp only [Array.getElem_toList,ad]
   rw [Ah (show (false == false)=true from rfl),Ai (show ¬ (true == false)=true by decide)]
   omega
  have hclosed:∀ (j:Nat) (oj:Oper),l[j]? = some oj->(listed.setIfInBounds i true).getD j false=true->∀ Y∈oj.after,Region.binds .any Y=true->(listed.setIfInBounds i true).getD Y.on false=true:=by
   intro j oj hj G Y he hb
   rw [Fg b] at G ⊢
   split
   ·rfl
   ·by_cases c:i=j
    ·subst c
     rw [ho'] at hj;cases hj
     exact N Y he hb
    ·rw [Ai c] at G
     exact inv.closed j oj hj G Y he hb
  unfold wpOpIn
  simp only [ho]
  by_cases hie:i∈ef
  ·-- an effect
   have ao:dn.contains i=false:=by
    cases hq:dn.contains i with
    | false=>rfl
    | true=>have:=(inv.eff i hie).2 (by simpa using hq);rw [O] at this;cases this
   obtain ⟨o2,q1,q2,q3,Post,q4,ai⟩:=g3 i hie ao (by
    refine List.all_eq_true.2 fun j hj=>?_
    cases hq:MM (G2 l []) i j with
    | false=>rfl
    | true=>simpa using (inv.eff j hj).1 (C j hq))
   rw [ho'] at q1;cases q1
   have z:Rel w0 n M (CV true l o ev) s a w:=by
    refine ⟨inv.rel,inv.tmps,fun t x hs=>?_⟩
    simp only [CV,if_true] at hs
    have U:=MX _ _ _ _ hs
    have hx:=Jf _ _ _ _ hs
    by_cases A:∃ j∈dn,∃ o,l[j]? = some o/\o.dst=some t
    ·exact inv.done t x A hx
    ·have D:∀ j∈dn,∀ o,l[j]? = some o->o.dst≠some t:=fun j hj o ho hd=>A ⟨j,hj,o,ho,hd⟩
     rw [inv.evn t D] at hx
     by_cases Bf:∃ i o,i ∉ ef/\l[i]? = some o/\o.dst=some t
     ·obtain ⟨j,p,b1,b2,b3⟩:=Bf
      have G:=((FA hB ho').2 j p t b2 b3).2 U
      have:MM (G2 l []) i j=true:=by simpa [Pl,hie,b1] using G
      exact inv.new t x D ⟨j,p,b1,b2,b3,C j this⟩ hx
     ·rw [noE1 t fun i o b1 b2 b3=>Bf ⟨i,o,b1,b2,b3⟩] at hx
      refine inv.old t x (fun j p hp hd=>?_) hx
      by_cases c:j∈ef
      ·cases hq:listed.getD j false with
       | false=>rfl
       | true=>exact absurd hd (D j ((inv.eff j c).1 hq) p hp)
      ·exact absurd ⟨j,p,c,hp,hd⟩ Bf
   have hw:Region.wanted o (yielded l.toArray a.tmps)=true:=by simp [Region.wanted,q2]
   rw [hw,Ah rfl]
   refine YL z ro m q4 Q _ fun v s' u w' M' ab hx hst hu=>?_
   have q5:=ai v s' ab
   have keep:∀ t x,o.dst≠some t->entryOk w0 M w (a.tmps.getD t undef) x->entryOk w0 M' w' ((a.put o.dst u).tmps.getD t undef) x:=by
    intro t x f h1
    rw [JK a o.dst u t (by rw [inv.tmps];exact q3),Ai f]
    exact h1.mono hx
   refine ih _ _ _ M' k (i::dn) _ s' K q5 ⟨by simp [inv.size],fun q=>(by cases q),hclosed,fun j hj=>?_,fun j hj=>?_,hst,by rw [Q9];exact inv.tmps,by rw [He];exact inv.defers,inv.ext.trans hx,fun t ht=>?_,fun t x hA hx'=>?_,fun t x hA hN hx'=>?_,fun t x hO hx'=>?_⟩
   ·rw [Fg b]
    by_cases c:i=j
    ·subst c;simp
    ·rw [Ai c,inv.eff j hj];simp [Ne.symm c]
   ·rcases List.mem_cons.1 hj with rfl | hj
    ·exact hie
    ·exact inv.sub j hj
   ·have f:=ht i (List.mem_cons_self ..) o ho'
    have:look (IX ev o.dst true v) t=look ev t:=by
     cases hd:o.dst with
     | none=>rfl
     | some d=>rw [hd] at f;simp only [IX,look];rw [Ai (fun h=>f (by rw [h]))]
    rw [this]
    exact inv.evn t fun j hj=>ht j (List.mem_cons_of_mem _ hj)
   ·by_cases c:o.dst=some t
    ·rw [c] at hx'
     simp only [IX,look,if_true,Option.some.injEq] at hx'
     subst hx'
     rw [JK a o.dst u t (by rw [inv.tmps];exact q3),Ah c]
     simpa only [entryOk,if_true] using hu
    ·have:look (IX ev o.dst true v) t=look ev t:=by
      cases hd:o.dst with
      | none=>rfl
      | some d=>rw [hd] at c;simp only [IX,look];rw [Ai (fun h=>c (by rw [h]))]
     rw [this] at hx'
     refine keep t x c (inv.done t x ?_ hx')
     obtain ⟨j,hj,p,hp,hd⟩:=hA
     rcases List.mem_cons.1 hj with rfl | hj
     ·rw [ho'] at hp;cases hp;exact absurd hd c
     ·exact ⟨j,hj,p,hp,hd⟩
   ·have f:=hA i (List.mem_cons_self ..) o ho'
    refine keep t x f (inv.new t x (fun j hj=>hA j (List.mem_cons_of_mem _ hj)) ?_ hx')
    obtain ⟨j,p,b1,b2,b3,Z⟩:=hN
    rw [Fg b] at Z
    by_cases c:i=j
    ·subst c;exact absurd hie b1
    ·rw [Ai c] at Z;exact ⟨j,p,b1,b2,b3,Z⟩
   ·have f:o.dst≠some t:=fun hd=>by
     have:=hO i o ho' hd
     rw [Fg b,Ah rfl] at this;cases this
    refine keep t x f (inv.old t x (fun j p hp hd=>?_) hx')
    have:=hO j p hp hd
    rw [Fg b] at this
    by_cases c:i=j
    ·rw [Ah c] at this;cases this
    ·rwa [Ai c] at this
  ·-- one of the others
   have g:∀ j∈dn,∀ p,l[j]? = some p->MM (G2 l []) j i=true->False:=by
    intro j hj p hp ah
    have aj:=(inv.eff j (inv.sub j hj)).2 hj
    have:=Uj hB inv.closed i j p hp (inv.closed j p hp aj) ah
    rw [O] at this;cases this
   obtain ⟨Ei,v,t2,t3,t5,t6,t7⟩:=hF dn s g1 i o hie (fun j hj=>by
    have c:j<l.length:=by simpa using List.all_eq_true.1 (Bool.and_eq_true_iff.1 hB).1 j (inv.sub j hj)
    cases hq:MM (G2 l []) j i with
    | false=>rfl
    | true=>exact (g j hj _ (List.getElem?_eq_getElem c) hq).elim) (fun E=>by
    cases hdn:dn with
    | nil=>exact inv.ini hdn
    | cons j r =>
     have hj:j∈dn:=by rw [hdn];exact List.mem_cons_self ..
     have hje:=inv.sub j hj
     have c:j<l.length:=by simpa using List.all_eq_true.1 (Bool.and_eq_true_iff.1 hB).1 j hje
     exact (g j hj _ (List.getElem?_eq_getElem c) (List.all_eq_true.1 (List.all_eq_true.1 hel j hje) i E)).elim) ho'
   have z:Rel w0 n M (CV true l o Ei) s a w:=by
    refine ⟨inv.rel,inv.tmps,fun t x hs=>?_⟩
    simp only [CV,if_true] at hs
    have U:=MX _ _ _ _ hs
    have hx:=Jf _ _ _ _ hs
    have D:∀ j∈dn,∀ p,l[j]? = some p->p.dst≠some t:=by
     intro j hj p hp hd
     have G:=((FA hB ho').2 j p t hp hd).2 U
     have hje:=inv.sub j hj
     exact g j hj p hp (by simpa [Pl,hie,hje] using G)
    rw [t6 t U] at hx
    by_cases Bf:∃ i o,i ∉ ef/\l[i]? = some o/\o.dst=some t
    ·obtain ⟨j,p,b1,b2,b3⟩:=Bf
     have G:=((FA hB ho').2 j p t b2 b3).2 U
     have ag:j<i/\MM (G2 l []) i j=true:=by simpa [Pl,hie,b1] using G
     exact inv.new t x D ⟨j,p,b1,b2,b3,C j ag.2⟩ hx
    ·rw [noE1 t fun i o b1 b2 b3=>Bf ⟨i,o,b1,b2,b3⟩] at hx
     refine inv.old t x (fun j p hp hd=>?_) hx
     by_cases c:j∈ef
     ·cases hq:listed.getD j false with
      | false=>rfl
      | true=>exact absurd hd (D j ((inv.eff j c).1 hq) p hp)
     ·exact absurd ⟨j,p,c,hp,hd⟩ Bf
   refine Tf z ro m t2 t5 Q _ fun u w' M' hx hst hu=>?_
   have keep:∀ t x,o.dst≠some t->entryOk w0 M w (a.tmps.getD t undef) x->entryOk w0 M' w' ((a.put o.dst u).tmps.getD t undef) x:=by
    intro t x f h1
    rw [JK a o.dst u t (by rw [inv.tmps];exact t3),Ai f]
    exact h1.mono hx
   have ap:∀ t,o.dst=some t->∀ j∈dn,∀ p,l[j]? = some p->p.dst≠some t:=by
    intro t hd j hj p hp aa
    have hje:=inv.sub j hj
    rcases ((FA hB ho').2 j p t hp aa).1 hd with h | h
    ·subst h;exact hie hje
    ·exact g j hj p hp (by simpa [TM,hie,hje] using h)
   refine ih _ _ _ M' (k+1) dn ev s K ⟨g1,g2,g3⟩ ⟨by simp [inv.size],inv.ini,hclosed,fun j hj=>?_,inv.sub,hst,by rw [Q9];exact inv.tmps,by rw [He];exact inv.defers,inv.ext.trans hx,inv.evn,fun t x hA hx'=>?_,fun t x hA hN hx'=>?_,fun t x hO hx'=>?_⟩
   ·rw [Fg b,Ai (fun (h:i=j)=>hie (h▸hj))]
    exact inv.eff j hj
   ·refine keep t x (fun hd=>?_) (inv.done t x hA hx')
    obtain ⟨j,hj,p,hp,aa⟩:=hA
    exact ap t hd j hj p hp aa
   ·by_cases c:o.dst=some t
    ·rw [JK a o.dst u t (by rw [inv.tmps];exact t3),Ah c]
     have e3:=t7 t c
     rw [hx'] at e3
     cases e3
     exact hu
    ·refine keep t x c (inv.new t x hA ?_ hx')
     obtain ⟨j,p,b1,b2,b3,Z⟩:=hN
     rw [Fg b] at Z
     by_cases c':i=j
     ·subst c';rw [ho'] at b2;cases b2;exact absurd b3 c
     ·rw [Ai c'] at Z;exact ⟨j,p,b1,b2,b3,Z⟩
   ·have f:o.dst≠some t:=fun hd=>by
     have:=hO i o ho' hd
     rw [Fg b,Ah rfl] at this;cases this
    refine keep t x f (inv.old t x (fun j p hp hd=>?_) hx')
    have:=hO j p hp hd
    rw [Fg b] at this
    by_cases c:i=j
    ·rw [Ah c] at this;cases this
    ·rwa [Ai c] at this
def Conv (w0:World) (n nb:Nat) (e:Env) (s:St) (e':Env) (s':St):Prop:=∀ M a w,Rel w0 n M e s a w->∃ M',(∀ Ms ws,Ms.N=nb->Ext w0 Ms ws M w->Ext w0 Ms ws M' w)/\Rel w0 n M' e' s' a w
theorem Good.imp {l:List Oper} {ef:List Nat} {F:St->Prop} {T T':Env->St->Prop} (hT:∀ ev s,T ev s->T' ev s):∀ k dn ev s,Good P w0 n l ef F T k dn ev s->Good P w0 n l ef F T' k dn ev s
 | 0,_,_,_,h=>h
 | k+1,_,_,_,h=>⟨h.1,fun q=>hT _ _ (h.2.1 q),fun i a b c=>by
  obtain ⟨o,p1,p2,f,Post,d,g⟩:=h.2.2 i a b c
  exact ⟨o,p1,p2,f,Post,d,fun v e q=>Good.imp hT k _ _ _ (g v e q)⟩⟩
section
variable {M0:Mem} {W0:World} {ro:Option Nat} {Q:AQ} {e:Env} {st:St}
theorem Yg (hm:P.follows .mixedOrders=true) (ef el L:List Nat) {id:Nat} {l:List Oper} (hB:KV l ef=true) (hel:UK l ef el=true) (F:St->Prop) (k nb:Nat) {e1:Env} (hnb:st.boxes.length=nb)
  (hN:∀ t,(∀ i o,i ∉ ef->l[i]? = some o->o.dst≠some t)->look e1 t=look e t) (hF:∀ s,F s->∀ i o,i ∉ ef->(i∈el->s=st)->l[i]? = some o->Zhu P w0 n l e1 s o)
  (hG:Good P w0 n l ef F (fun ev s=>∃ e2 s2,Conv w0 n nb ev s e2 s2/\Q .normal (C9 L e2) s2) k [] e1 st):D8 P w0 n M0 W0 ro (.region id l.toArray true) Q e st:=by
 intro m M a w hr
 obtain ⟨d1,d2⟩:=hr.rel.st.drew
 refine wpIn_region_any hm (V8 (s0:=st) (e:=e) (e1:=e1) (M1:=M) (w1:=w) (ds:=a.defers) hB hel hN (fun _ s h i o v _ C q=>hF s h i o v C q) (fun ev s g y u d b z hd=>?_) _ _ a _ M k [] e1 st ?_ hG ?_)
 ·obtain ⟨e2,s2,d,D⟩:=d
  obtain ⟨M2,p,r⟩:=d g y u b
  have f:=p M w (hr.rel.st.N.trans hnb) z
  refine ⟨M2,_,_,⟨r.sub (BI L _),hr.ext.trans f,?_⟩,D⟩
  rw [hd]
  exact hr.marks.later f hr.rel.st
 ·simp
 ·have hnl:∀ j,(Array.replicate l.toArray.size false).getD j false=false:=fun j=>by
   by_cases c:j<l.length
   ·simp [Array.getD_eq_getD_getElem?,c]
   ·simp [Array.getD_eq_getD_getElem?,c]
  exact ⟨by simp,fun _=>rfl,fun j _ _ hl=>(by rw [hnl] at hl;cases hl),fun i _=>(by rw [hnl];simp),fun _ h=>(nomatch h),d1,hr.rel.size,rfl,d2,fun _ _=>rfl,fun _ _ ⟨_,h,_⟩=>(nomatch h),
   fun _ _ _ ⟨i,_,_,_,_,h⟩=>(by rw [hnl] at h;cases h),fun t x _ hs=>(hr.rel.env t x hs).mono d2⟩
theorem Zct (hm:P.follows .mixedOrders=true) (ef L:List Nat) {id:Nat} {l:List Oper} (hB:KV l ef=true) (F:List Nat->St->Prop) (k nb:Nat) {e1 e2:Env} {s2:St} (hnb:st.boxes.length=nb)
  (h0:∃ c,RQ P w0 n true l (fun e' s'=>e'=e1/\s'=st) c (Bh ef 0 l) e st)
  (hF:∀ dn s,F dn s->∃ el:List Nat,(el.all fun i=>dn.any fun j=>MM (G2 l []) j i)=true/\∃ c,RQ P w0 n true l (fun e' s'=>s'=s/\PreOk e1 e') c (Bh (ef++el) 0 l) e1 s)
  (hG:GoodD P w0 n l ef F (fun ev s=>Conv w0 n nb ev s e2 s2) k [] e1 st) (hQ:Q .normal (C9 L e2) s2):D8 P w0 n M0 W0 ro (.region id l.toArray true) Q e st:=by
 intro m M a w hr
 obtain ⟨d1,d2⟩:=hr.rel.st.drew
 refine wpIn_region_any hm (V8 (s0:=st) (e:=e) (e1:=e1) (M1:=M) (w1:=w) (ds:=a.defers) (el:=[]) hB (by simp [UK]) (Vi hB h0).1 (fun dn s h i o C f _ v=>?_) (fun ev s r E z g b G hd=>?_) _ _ a _ M k [] e1 st ?_ hG ?_)
 ·obtain ⟨el,d,g⟩:=hF dn s h
  refine Zaf hB g i o C (fun D=>?_) v
  obtain ⟨j,q,hj2⟩:=List.any_eq_true.1 (List.all_eq_true.1 d i D)
  rw [f j q] at hj2
  cases hj2
 ·obtain ⟨M2,u,y⟩:=g r E z b
  have p:=u M w (hr.rel.st.N.trans hnb) G
  refine ⟨M2,_,_,⟨y.sub (BI L _),hr.ext.trans p,?_⟩,hQ⟩
  rw [hd]
  exact hr.marks.later p hr.rel.st
 ·simp
 ·have hnl:∀ j,(Array.replicate l.toArray.size false).getD j false=false:=fun j=>by
   by_cases c:j<l.length
   ·simp [Array.getD_eq_getD_getElem?,c]
   ·simp [Array.getD_eq_getD_getElem?,c]
  exact ⟨by simp,fun _=>rfl,fun j _ _ hl=>(by rw [hnl] at hl;cases hl),fun i _=>(by rw [hnl];simp),fun _ h=>(nomatch h),d1,hr.rel.size,rfl,d2,fun _ _=>rfl,fun _ _ ⟨_,h,_⟩=>(nomatch h),
   fun _ _ _ ⟨i,_,_,_,_,h⟩=>(by rw [hnl] at h;cases h),fun t x _ hs=>(hr.rel.env t x hs).mono d2⟩
theorem JF (hm:P.follows .mixedOrders=true) (ef L:List Nat) {id:Nat} {l:List Oper} (hB:KV l ef=true) (F:St->Prop) (k nb:Nat) {e1:Env} (hnb:st.boxes.length=nb)
  (hF:∀ s,F s->∃ c,RQ P w0 n true l (fun e' s'=>e'=e1/\s'=s) c (Bh ef 0 l) e s) (hG:Good P w0 n l ef F (fun ev s=>∃ e2 s2,Conv w0 n nb ev s e2 s2/\Q .normal (C9 L e2) s2) k [] e1 st):D8 P w0 n M0 W0 ro (.region id l.toArray true) Q e st :=
 have a:F st:=by
  cases k with
  | zero=>exact hG.elim
  | succ k=>exact hG.1
 Yg hm ef [] L hB (by simp [UK]) F k nb hnb (Vi hB (hF st a)).1 (fun s h i o b _ d=>(Vi hB (hF s h)).2 i o b d) hG
theorem D9 (hm:P.follows .mixedOrders=true) (ef L:List Nat) {id:Nat} {l:List Oper} (hB:KV l ef=true) (F:St->Prop) (k nb:Nat) {e1 e2:Env} {s2:St} (hnb:st.boxes.length=nb)
  (hF:∀ s,F s->∃ c,RQ P w0 n true l (fun e' s'=>e'=e1/\s'=s) c (Bh ef 0 l) e s) (hG:Good P w0 n l ef F (fun ev s=>Conv w0 n nb ev s e2 s2) k [] e1 st) (hQ:Q .normal (C9 L e2) s2):D8 P w0 n M0 W0 ro (.region id l.toArray true) Q e st :=
 JF hm ef L hB F k nb hnb hF (hG.imp (fun _ _ h=>⟨e2,s2,h,hQ⟩))
theorem JG (hm:P.follows .mixedOrders=true) (ef el L:List Nat) {id:Nat} {l:List Oper} (hB:(KV l ef&&UK l ef el)=true) (F:St->Prop) (k nb:Nat) {e1 e2:Env} {s2:St} (hnb:st.boxes.length=nb)
  (h0:∃ c,RQ P w0 n true l (fun e' s'=>e'=e1/\s'=st) c (Bh ef 0 l) e st)
  (hF:∀ s,F s->∃ c,RQ P w0 n true l (fun e' s'=>s'=s/\PreOk e1 e') c (Bh (ef++el) 0 l) e1 s) (hG:Good P w0 n l ef F (fun ev s=>Conv w0 n nb ev s e2 s2) k [] e1 st) (hQ:Q .normal (C9 L e2) s2):D8 P w0 n M0 W0 ro (.region id l.toArray true) Q e st :=
 have a:=Bool.and_eq_true_iff.1 hB
 Yg hm ef el L a.1 a.2 F k nb hnb (Vi a.1 h0).1 (fun s h i o b f d=>by
  by_cases c:i∈el
  ·rw [f c];exact (Vi a.1 h0).2 i o b d
  ·exact Zaf a.1 (hF s h) i o b c d) (hG.imp (fun _ _ h=>⟨e2,s2,h,hQ⟩))
end
theorem EB (L:List Nat) {nb:Nat} {e e':Env} {s:St} (h:C9 L e=e'):Conv w0 n nb e s e' s:=fun M _ w a=>⟨M,fun _ _ _ h=>h,by rw [<-h];exact a.sub (BI L e)⟩
def WE (l:List Oper) (ef dn:List Nat):List Nat:=ef.filter fun i => !dn.contains i&&ef.all fun j => !MM (G2 l []) i j||dn.contains j
theorem Good.mk {l:List Oper} {ef dn:List Nat} {F:St->Prop} {T:Env->St->Prop} {k:Nat} {ev:Env} {s:St} (rs:List Nat) (hr:WE l ef dn=rs) (hF:F s) (hT:(ef.all fun i=>dn.contains i)=true->T ev s)
  (h:∀ i∈rs,∃ o,l[i]? = some o/\o.guard=none/\IB n o.dst/\∃ Post:AV->St->Prop,SZ P w0 (CV true l o ev) s o Post/\∀ v s',Post v s'->Good P w0 n l ef F T k (i::dn) (IX ev o.dst true v) s'):Good P w0 n l ef F T (k+1) dn ev s :=
 ⟨hF,hT,fun i b hd a=>h i (by rw [<-hr];exact List.mem_filter.2 ⟨b,by rw [hd,a];rfl⟩)⟩
theorem GoodD.mk {l:List Oper} {ef dn:List Nat} {F:List Nat->St->Prop} {T:Env->St->Prop} {k:Nat} {ev:Env} {s:St} (rs:List Nat) (hr:WE l ef dn=rs) (hF:F dn s) (hT:(ef.all fun i=>dn.contains i)=true->T ev s)
  (h:∀ i∈rs,∃ o,l[i]? = some o/\o.guard=none/\IB n o.dst/\∃ Post:AV->St->Prop,SZ P w0 (CV true l o ev) s o Post/\∀ v s',Post v s'->GoodD P w0 n l ef F T k (i::dn) (IX ev o.dst true v) s'):GoodD P w0 n l ef F T (k+1) dn ev s :=
 ⟨hF,hT,fun i b hd a=>h i (by rw [<-hr];exact List.mem_filter.2 ⟨b,by rw [hd,a];rfl⟩)⟩
theorem Um {l:List Oper} {ef dn:List Nat} {F:List Nat->St->Prop} {T:Env->St->Prop} {k i:Nat} {ev:Env} {s:St} {o:Oper} {v:AV} {s':St} (ho:l[i]? = some o) (hg:o.guard=none) (hd:IB n o.dst) (hs:Cd P w0 (CV true l o ev) s o v s')
  (hk:GoodD P w0 n l ef F T k (i::dn) (IX ev o.dst true v) s'):∃ o,l[i]? = some o/\o.guard=none/\IB n o.dst/\∃ Post:AV->St->Prop,SZ P w0 (CV true l o ev) s o Post/\∀ v s',Post v s'->GoodD P w0 n l ef F T k (i::dn) (IX ev o.dst true v) s' :=
 ⟨o,ho,hg,hd,fun r t=>r=v/\t=s',.inr ⟨v,s',hs,fun _ _ h=>h⟩,by rintro _ _ ⟨rfl,rfl⟩;exact hk⟩
theorem Bl {l:List Oper} {ef dn:List Nat} {F:St->Prop} {T:Env->St->Prop} {k i:Nat} {ev:Env} {s:St} {o:Oper} {v:AV} {s':St} (ho:l[i]? = some o) (hg:o.guard=none) (hd:IB n o.dst) (hs:Cd P w0 (CV true l o ev) s o v s')
  (hk:Good P w0 n l ef F T k (i::dn) (IX ev o.dst true v) s'):∃ o,l[i]? = some o/\o.guard=none/\IB n o.dst/\∃ Post:AV->St->Prop,SZ P w0 (CV true l o ev) s o Post/\∀ v s',Post v s'->Good P w0 n l ef F T k (i::dn) (IX ev o.dst true v) s' :=
 ⟨o,ho,hg,hd,fun r t=>r=v/\t=s',.inr ⟨v,s',hs,fun _ _ h=>h⟩,by rintro _ _ ⟨rfl,rfl⟩;exact hk⟩
theorem Ib {l:List Oper} {ef dn:List Nat} {F:St->Prop} {T:Env->St->Prop} {k i:Nat} {ev:Env} {s:St} {o:Oper} {f:Operand} {args:Array Operand} {ts:Array TypeId} {Post:AV->St->Prop} (ho:l[i]? = some o) (hg:o.guard=none) (hd:IB n o.dst) (hop:o.op = .call ⟨.value f,args,ts⟩)
  (h1:AN (CV true l o ev) true f) (h2:∀ x∈args.toList,AN (CV true l o ev) true x) (h3:NN P w0 (Az (CV true l o ev) f) (args.toList.map fun x=>argP (CV true l o ev) (Az (CV true l o ev) x)) s Post)
  (hk:∀ v s',Post v s'->Good P w0 n l ef F T k (i::dn) (IX ev o.dst true v) s'):∃ o,l[i]? = some o/\o.guard=none/\IB n o.dst/\∃ Post:AV->St->Prop,SZ P w0 (CV true l o ev) s o Post/\∀ v s',Post v s'->Good P w0 n l ef F T k (i::dn) (IX ev o.dst true v) s' :=
 ⟨o,ho,hg,hd,Post,.inl ⟨by rw [hop];rfl,by rw [hop];exact ⟨h1,h2,h3⟩⟩,hk⟩
theorem R.agree {M M':Mem} {w:World} {nb:Nat} (h1:∀ l,l<nb->M'.bx l=M.bx l) (hN:nb<=M'.N) (h2:M'.NR=M.NR) (h3:M'.NL=M.NL) (h4:M'.top=M.top) (h5:M'.fr=M.fr) (h6:M'.blk=M.blk) (h7:M'.cap=M.cap) (h8:M'.rsz=M.rsz) (h9:M'.lb=M.lb) {nr nl:Nat} {v:Value} {x:AV}
  (h:R w0 M w v x) (hu:Under nb nr nl x):R w0 M' w v x:=by
 induction h with
 | flat h=>exact .flat h
 | agg hl h1 _ ih=>exact .agg hl h1 fun i a b=>ih i a b (Dm.1 hu _ (List.getElem_mem _))
 | tup hl _ ih=>exact .tup hl fun i a b=>ih i a b (Rt.1 hu _ (List.getElem_mem _))
 | nil ho=>exact .nil ho
 | emp ho=>exact .emp ho
 | @list b off cap xs o sz us hc hm hcell _ ho ih =>
  obtain ⟨q1,q2⟩:=Qe.1 hu
  refine .list sz us hc hm (fun i c=>⟨(hcell i c).1,fun j d=>?_⟩) (fun i c=>ih i c (q1 _ (List.getElem_mem _))) ?_
  ·have:=(hcell i c).2 j d
   exact ⟨by simpa only [Mem.imm,h4] using this.1,this.2⟩
  ·cases o with
   | row id=>simpa only [ZaD,h2,h5,h6,h7,h8] using ho
   | _=>exact ho
 | elem u k hcell _ ih=>exact .elem u k (fun j d=>⟨by simpa only [Mem.imm,h4] using (hcell j d).1,(hcell j d).2⟩) (ih (PT.1 hu))
 | @box l off _=>have:=RU.1 hu;rw [<-h1 l this];exact .box (Nat.lt_of_lt_of_le this hN)
 | clo hl _ ih=>exact .clo hl fun i a b=>ih i a b (O3.1 hu _ (List.getElem_mem _))
 | bnd hl _ ih=>exact .bnd hl fun i a b=>ih i a b (Ro.1 hu _ (List.getElem_mem _))
 | @yld k hk=>rw [<-h9];exact .yld (by rw [h3];exact hk)
 | @mp k hk=>rw [<-h9];exact .mp (by rw [h3];exact hk)
 | tab h hk hn=>exact .tab h hk (by rw [h3,h9];exact hn)
 | @vec id ver o n p cap c hv h=>exact .vec (by rw [h2];exact c) (by rw [h5];exact hv) (by rw [h5,h6,h7,h8];exact h)
 | @vel id ver off a c hv h=>exact .vel (by rw [h2];exact c) (by rw [h5];exact hv) (by rw [h5,h6];exact h)
def Ky (N l:Nat):Nat:=if l=N then N+1 else if l=N+1 then N else l
theorem ZbF {e e':Env} {bs:List (List AV)} {x y:List AV} {rows:List RowA} {L:List LoopA} (hc:Calm bs.length rows.length L.length ⟨bs,rows,L⟩) (hx:∀ z∈x,Under bs.length rows.length L.length z) (hy:∀ z∈y,Under bs.length rows.length L.length z)
  (he:∀ s v,look e' s=some v->(v=(true,.box bs.length 0)/\look e s=some (true,.box (bs.length+1) 0))\/(v=(true,.box (bs.length+1) 0)/\look e s=some (true,.box bs.length 0))\/(look e s=some v/\(v.1=true->Under bs.length rows.length L.length v.2))) :
  Conv w0 n bs.length e ⟨bs++[x,y],rows,L⟩ e' ⟨bs++[y,x],rows,L⟩:=by
 intro M a w f
 have hN:M.N=bs.length+2:=by rw [f.st.N];simp
 let M':Mem:={ M with bx:=fun l=>M.bx (Ky bs.length l) }
 have p:∀ l,l<bs.length->M'.bx l=M.bx l:=fun l hl=>by
  show M.bx (Ky bs.length l)=_
  rw [Ky,Aa,Aa]
 have ag:∀ {nr nl:Nat} {v:Value} {z:AV},R w0 M w v z->Under bs.length nr nl z->R w0 M' w v z:=fun h hu=>R.agree p (by show bs.length<=M.N;omega) rfl rfl rfl rfl rfl rfl rfl rfl h hu
 have Q:M'.bx bs.length=M.bx (bs.length+1):=by show M.bx (Ky _ _)=_;rw [Ky,Ah rfl]
 have E:M'.bx (bs.length+1)=M.bx bs.length:=by show M.bx (Ky _ _)=_;rw [Ky,Aa,Ah rfl]
 have O:∀ l,Ky bs.length (Ky bs.length l)=l:=fun l=>by unfold Ky;split<;>split<;>(try split)<;>omega
 have g:∀ l,l<M.N->Ky bs.length l<M.N:=fun l hl=>by unfold Ky;split<;>(try split)<;>omega
 have m:(bs++[x,y])[bs.length]? = some x:=by simp
 have j:(bs++[x,y])[bs.length+1]? = some y:=by simp
 refine ⟨M',fun Ms ws V d=>⟨Nat.le_trans d.N (Nat.le_refl _),fun l hl=>(p l (by omega)).trans (d.bx l hl),d.NR,d.rows,d.cell,d.size,d.NL,d.lb,d.lnew,d.objs,fun b q1 q2=>let ⟨a1,a2,a3⟩:=d.keep b q1 q2;⟨a1,⟨fun l hl=>a2.1 (Ky bs.length l) (g l hl),a2.2.1,a2.2.2⟩,a3⟩⟩,⟨⟨f.st.below,by show M.N=_;rw [f.st.N];simp,f.st.NR,f.st.top,fun l K G J Z=>?_,fun l cs hl=>?_,fun id r F=>?_,f.st.rowinj,⟨f.st.loop.NL,f.st.loop.inj,fun k la hk=>?_⟩⟩,f.size,fun s v hs=>?_⟩⟩
 ·have:=f.st.inj (Ky bs.length l) (Ky bs.length K) (g l G) (g K J) Z
  rw [<-O l,this,O]
 ·by_cases c1:l<bs.length
  ·rw [List.getElem?_append_left c1] at hl
   obtain ⟨a1,a2,c,C,a3,a4,a5,a6⟩:=f.st.box l cs (by rw [List.getElem?_append_left c1];exact hl)
   rw [p l c1]
   exact ⟨a1,a2,c,C,a3,a4,a5,fun i t o=>ag (a6 i t o) (hc.boxes cs (List.mem_of_getElem? hl) _ (List.getElem_mem _))⟩
  ·rw [List.getElem?_append_right (by omega)] at hl
   have H:l-bs.length=0\/l-bs.length=1:=by
    have:=(Aj.1 hl).1
    simp at this;omega
   rcases H with q | q
   ·rw [q] at hl
    simp only [List.getElem?_cons_zero,Option.some.injEq] at hl
    subst hl
    obtain rfl:l=bs.length:=by omega
    obtain ⟨a1,a2,c,C,a3,a4,a5,a6⟩:=f.st.box _ y j
    rw [Q]
    exact ⟨a1,a2,c,C,a3,a4,a5,fun i t o=>ag (a6 i t o) (hy _ (List.getElem_mem _))⟩
   ·rw [q] at hl
    simp only [List.getElem?_cons_succ,List.getElem?_cons_zero,Option.some.injEq] at hl
    subst hl
    obtain rfl:l=bs.length+1:=by omega
    obtain ⟨a1,a2,c,C,a3,a4,a5,a6⟩:=f.st.box _ x m
    rw [E]
    exact ⟨a1,a2,c,C,a3,a4,a5,fun i t o=>ag (a6 i t o) (hx _ (List.getElem_mem _))⟩
 ·have hk:=f.st.row id r F
  have D:∀ l,l<M'.N->M'.bx l≠M.blk id:=fun l hl=>hk.ne _ (g l hl)
  cases r with
  | grow n sz=>obtain ⟨a1,a2,a3,a4,a5,a6⟩:=hk;exact ⟨a1,a2,a3,a4,D,a6⟩
  | vec v sz cs =>
   obtain ⟨a1,a2,a3,a4,a5,a6,a7,c,C,a8,Y,t,o,U⟩:=hk
   exact ⟨a1,a2,a3,a4,D,a6,a7,c,C,a8,Y,t,o,fun i G J=>ag (U i G J) (hc.rows _ (List.mem_of_getElem? F) _ (List.getElem_mem _))⟩
  | dead v=>obtain ⟨a1,a2,a3,a4⟩:=hk;exact ⟨a1,a2,D,a4⟩
 ·obtain ⟨a1,a2⟩:=f.st.loop.record k la hk
  refine ⟨a1,a2.map (fun _ q _=>q) fun s v _ hs this=>?_⟩
  unfold entryOk at this ⊢
  split
  ·rename_i c;rw [Ah c] at this;exact ag this (hc.loops la (List.mem_of_getElem? hk) s v hs c)
  ·rename_i c;rw [Ai c] at this;exact this
 ·rcases he s v hs with ⟨rfl,h⟩ | ⟨rfl,h⟩ | ⟨h,hu⟩
  ·have:=f.env s _ h
   simp only [entryOk,if_true] at this ⊢
   generalize a.tmps.getD s undef=u at this
   cases this with
   | box hl=>rw [<-Q];exact .box (M:=M') (by show _<M.N;omega)
  ·have:=f.env s _ h
   simp only [entryOk,if_true] at this ⊢
   generalize a.tmps.getD s undef=u at this
   cases this with
   | box hl=>rw [<-E];exact .box (M:=M') (by show _<M.N;omega)
  ·have:=f.env s v h
   unfold entryOk at this ⊢
   split
   ·rename_i c;rw [Ah c] at this;exact ag this (hu c)
   ·rename_i c;rw [Ai c] at this;exact this
def RG (e:Env) (N nr nl:Nat):Env->Prop
 | []=>True
 | (k,c,z)::r=>((c=true/\z = .box N 0/\look e k=some (true,.box (N+1) 0))\/(c=true/\z = .box (N+1) 0/\look e k=some (true,.box N 0))\/(look e k=some (c,z)/\Under N nr nl z))/\RG e N nr nl r
theorem Jt {e:Env} {N nr nl k:Nat} {c:Bool} {z:AV} {r:Env} (h:(c=true/\z = .box N 0/\look e k=some (true,.box (N+1) 0))\/(c=true/\z = .box (N+1) 0/\look e k=some (true,.box N 0))\/(look e k=some (c,z)/\Under N nr nl z)) (h':RG e N nr nl r):RG e N nr nl ((k,c,z)::r):=⟨h,h'⟩
theorem SS {e:Env} {N nr nl:Nat}:∀ {e':Env} {s:Nat} {v:Bool × AV},RG e N nr nl e'->look e' s=some v->(v=(true,.box N 0)/\look e s=some (true,.box (N+1) 0))\/(v=(true,.box (N+1) 0)/\look e s=some (true,.box N 0))\/(look e s=some v/\(v.1=true->Under N nr nl v.2))
 | (k,c,z)::r,s,v,h,hl=>by
  simp only [look] at hl
  by_cases q:k=s
  ·subst q
   rw [Ah rfl] at hl
   cases hl
   rcases h.1 with ⟨rfl,rfl,h'⟩ | ⟨rfl,rfl,h'⟩ | ⟨h',hu⟩
   ·exact .inl ⟨rfl,h'⟩
   ·exact .inr (.inl ⟨rfl,h'⟩)
   ·exact .inr (.inr ⟨h',fun _=>hu⟩)
  ·rw [Ai q] at hl;exact SS h.2 hl
theorem UN {e e':Env} {B own:List (List AV)} {x y:List AV} {rows:List RowA} {L:List LoopA} {N:Nat} (hN:B.length+own.length=N) (hc:Calm (B.length+own.length) rows.length L.length ⟨B++own,rows,L⟩)
  (hx:∀ z∈x,Under N rows.length L.length z) (hy:∀ z∈y,Under N rows.length L.length z) (he:RG e N rows.length L.length e'):Conv w0 n N e ⟨B++(own++[x,y]),rows,L⟩ e' ⟨B++(own++[y,x]),rows,L⟩:=by
 have a:(B++own).length=N:=by rw [List.length_append,hN]
 rw [<-List.append_assoc,<-List.append_assoc]
 rw [hN] at hc
 rw [<-a] at hc hx hy he ⊢
 exact ZbF hc hx hy fun s v h=>SS he h
theorem Zel {f:FuncId} {args args' cs:List AV} {st:St} {v:AV} (h:ACalls P w0 f args' st fun r s=>r=v/\s=st) (he:(args++cs).map AV.pubA=args'):NN P w0 (.clo f cs) args st fun r t=>r=v/\t=st:=h.pub he
end
def Tg {α:Type} (_:α):Prop:=True
theorem tg {α:Type} {a:α}:Tg a:=trivial
theorem cl {p:Prop} (h:p:=by first | (intros;omega) | (intros;(repeat' with_reducible apply Ad)<;>assumption) | (intros;simp_all;done) | (intros;simp only [Bool.or_eq_false_iff,Bool.or_eq_true,Bool.and_eq_true,Bool.and_eq_false_iff,decide_eq_true_eq,decide_eq_false_iff_not,bne_iff_ne] at *; omega)):p:=h
theorem pf {p:Prop} (h:p:=by first | exact List.prefix_append _ _ | exact List.prefix_refl _ | (rw [List.append_assoc];exact List.prefix_append _ _)):p:=h
theorem ev {p:Prop} (h:p:=by simp +decide only [go_sem,Nat.reduceAdd]):p:=h
theorem ef {p F:Prop} (f:F) (h:F->p:=by intro hs;first | rfl | (simp +decide only [go_sem,Nat.reduceAdd,hs];done)):p:=h f
theorem en {p F:Prop} (f:F) (h:F->p:=by intro hs;first | (simp +decide only [go_sem,Nat.reduceAdd,hs];done) | (simp +decide only [go_sem,Nat.reduceAdd,hs];rfl)):p:=h f
theorem ow {p:Prop} (h:p:=by (simp +decide only [go_sem,Nat.reduceAdd,IA])<;>(try (repeat' apply Ad))<;>first | omega | assumption):p:=h
theorem Uu:(0:Nat)=0:=rfl
section
variable {P:Program} {w0:World} {n:Nat} {M0:Mem} {W0:World} {ro:Option Nat} {e:Env} {st:St} {Q:AQ}
theorem Jz {c:Nat} {L:List Nat} (tc:Tg c) (tL:Tg L) {id:Nat} {l:List Oper} (h:RQ P w0 n false l (fun e' st'=>Q .normal (C9 L e') st') c l e st):D8 P w0 n M0 W0 ro (.region id l.toArray false) Q e st:=As c L h
theorem UT {L:List Nat} (t:Tg L) {c:Code} (h:D8 P w0 n M0 W0 ro c Q (C9 L e) st):D8 P w0 n M0 W0 ro c Q e st:=EZ _ h (BI _ _)
theorem Sz {h c1 c2:Nat} {L:List Nat} (tt:Tg (h,c1,c2,L)) (hm:P.follows .mixedOrders=true) {id:Nat} {l:List Oper} (hB:Wi l h=true)
  (hev:RQ P w0 n true l (fun e1 s1=>RQ P w0 n false l (fun e2 s2=>Q .normal (C9 L e2) s2) c2 (l.drop h) e1 s1) c1 (l.take h) e st):D8 P w0 n M0 W0 ro (.region id l.toArray true) Q e st:=Q3 hm h c1 c2 L hB hev
theorem H4 {c d:Bool} {fv:AV} {args:List AV} {k:AV->St->Prop} (h:JA P w0 c d fv args st k):JA P w0 c d fv args st k:=h
theorem B6 {β:Type} {F:Prop} {b:Bool} {X Y r:β} (h:(if b=true then X else Y)=r) (f:F) {c:Operand} {x y:Code} (ht:(b=true/\F)->X=r->D8 P w0 n M0 W0 ro x Q e st) (hf:(b=false/\F)->Y=r->D8 P w0 n M0 W0 ro y Q e st)
  (hc:AN e true c:=by simp +decide only [go_sem,Nat.reduceAdd]) (hb:F->Az e c = .val (.bool b):=by intro hs;first | (simp +decide only [go_sem,Nat.reduceAdd,hs];done) | (simp +decide only [go_sem,Nat.reduceAdd,hs];rfl)):D8 P w0 n M0 W0 ro (.cond c x y) Q e st :=
 A7 b hc (hb f) (fun q=>ht ⟨q,f⟩ (Cj h q)) (fun q=>hf ⟨q,f⟩ (Cm h q))
theorem td {B0 B bs X:List (List AV)} {Rw rows:List RowA} {L:List LoopA} {l:List (Nat × Nat × Own)} {c:Code} (hN:M0.N=B0.length) (hNR:M0.NR=Rw.length) (hNL:M0.NL=L.length) (hc:Calm B0.length Rw.length L.length ⟨B,Rw,L⟩) (ho:Owns Rw rows l)
  (h:D8 P w0 n M0 W0 ro c Q e ⟨B++bs,rows,L⟩) (hB:B.length=B0.length:=by first | rfl | simp only [List.length_set])
  (hbs:∀ cs∈bs,∀ x∈cs,Under (B0.length+bs.length) rows.length L.length x:=by (simp +decide only [go_sem,Nat.reduceAdd])<;>(try (repeat' apply Ad))<;>first | omega | assumption)
  (he:IA (B0.length+bs.length) rows.length L.length e:=by (simp +decide only [go_sem,Nat.reduceAdd,IA])<;>(try (repeat' apply Ad))<;>first | omega | assumption):D8 P w0 n M0 W0 ro c Q e ⟨B++(bs++X),rows,L⟩ :=
 AO hN hNR hNL hB hc ho hbs he h
end
section
variable {P:Program} {w0:World} {n:Nat} {M0:Mem} {W0:World} {ro:Option Nat} {e:Env} {st:St} {Q:AQ}
theorem IL (t:TypeId) (hn:n<=1000000) {c:Code} (h:D8 P w0 n M0 W0 ro c Q ((1000000+t,false,.junk)::e) st):D8 P w0 n M0 W0 ro c Q e st :=
 JD _ _ (fun M a w b=>⟨M,.refl _ _ _,b.st,b.size,fun s x hs=>by
  simp only [look] at hs
  by_cases q:1000000+t=s
  ·rw [Ah q] at hs
   cases hs
   have d:1000000<=s:=by rw [<-q];exact Nat.le_add_right _ _
   simp only [entryOk,Bool.false_eq_true,if_false]
   rw [Array.getD_eq_getD_getElem?,Array.getElem?_eq_none (by rw [b.size];omega)]
   rfl
  ·rw [Ai q] at hs
   exact b.env s x hs⟩) h
end
theorem rg {F p q:Prop} (L:List Nat) (f:F) (k:q) (h:Tg L->F->q->p:=by
  intro tL hs hq
  apply Am;intro K hK
  refine Jz (c:=1) tg tL ?_
  rw [An];simp +decide only [go_sem,Nat.reduceAdd,hs]
  first | (refine hK _ _ ?_;exact hq) | ((repeat' apply Ad)<;>first | (refine hK _ _ ?_;exact hq) | (clear hq;exact cl))):p:=h tg f k
theorem rc {F p q:Prop} (c:Nat) (L:List Nat) (f:F) (k:q) (h:Tg c->Tg L->F->q->p:=by
  intro tc tL hs hq
  apply Am;intro K hK
  refine Jz tc tL ?_
  rw [An];simp +decide only [go_sem,Nat.reduceAdd,hs]
  first | (refine H4 ?_;revert K;exact hq) | ((repeat' apply Ad)<;>first | (refine H4 ?_;revert K;exact hq) | (clear hq;exact cl))):p:=h tg tg f k
theorem nc {F p q:Prop} (f:F) (k:q) (h:F->q->p:=by
  intro hs hq
  rw [An];simp +decide only [go_sem,Nat.reduceAdd,hs]
  first | (refine H4 ?_;exact hq) | ((repeat' apply Ad)<;>first | (refine H4 ?_;exact hq) | (clear hq;exact cl))):p:=h f k
theorem ne {F p q:Prop} (f:F) {K:Env->St->Prop} {A:Env->St->Prop} (hK:∀ e s,A e s->K e s) (k:q) (h:F->(∀ e s,A e s->K e s)->q->p:=by
  intro hs hK hq
  rw [An];simp +decide only [go_sem,Nat.reduceAdd,hs]
  first | (refine hK _ _ ?_;exact hq) | ((repeat' apply Ad)<;>first | (refine hK _ _ ?_;exact hq) | (clear hq;exact cl))):p:=h f hK k
theorem dg {F p q:Prop} (m c1 c2:Nat) (L:List Nat) (f:F) {P:Program} (hm:P.follows .mixedOrders=true) (k:q) (h:Tg (m,c1,c2,L)->F->P.follows .mixedOrders=true->q->p:=by
  intro tt hs hm hq
  apply Am;intro K hK
  refine Sz tt hm (by kernel_rfl) ?_
  rw [An];simp +decide only [go_sem,Nat.reduceAdd,hs]
  (repeat' with_reducible apply Ad)<;>first | (rw [An];simp +decide only [go_sem,Nat.reduceAdd,hs]) | (clear hq;exact cl)
  first | (refine hK _ _ ?_;exact hq) | ((repeat' apply Ad)<;>first | (refine hK _ _ ?_;exact hq) | (clear hq;exact cl))):p:=h tg f hm k
theorem sk {F p q:Prop} (L:List Nat) (f:F) {A K:Env->St->Prop} (hK:∀ e s,A e s->K e s) (k:q) (h:Tg L->F->(∀ e s,A e s->K e s)->q->p:=by
  intro tL hs hK hq
  refine UT tL ?_
  apply Bq;simp +decide only [go_sem,Nat.reduceAdd]
  first | (refine hK _ _ ?_;exact hq) | ((repeat' apply Ad)<;>first | (refine hK _ _ ?_;exact hq) | (clear hq;exact cl))):p:=h tg f hK k
theorem sx {F p q:Prop} (L:List Nat) (f:F) {A K:Env->St->Prop} (hK:∀ e s,A e s->K e s) (k:q) (h:Tg L->F->(∀ e s,A e s->K e s)->q->p:=by
  intro tL hs hK hq
  refine UT tL ?_
  apply Gn;simp +decide only [go_sem,Nat.reduceAdd]
  first | (refine hK _ _ ?_;exact hq) | ((repeat' apply Ad)<;>first | (refine hK _ _ ?_;exact hq) | (clear hq;exact cl))):p:=h tg f hK k
theorem rl {F p q:Prop} (L:List Nat) (f:F) {A K:Env->St->Prop} (hK:∀ e s,A e s->K e s) (k:q) (h:Tg L->F->(∀ e s,A e s->K e s)->q->p:=by
  intro tL hs hK hq
  refine Jz (c:=1) tg tL ?_
  rw [An];simp +decide only [go_sem,Nat.reduceAdd,hs]
  first | (refine hK _ _ ?_;exact hq) | ((repeat' apply Ad)<;>first | (refine hK _ _ ?_;exact hq) | (clear hq;exact cl))):p:=h tg f hK k
theorem rk {F p q:Prop} (c:Nat) (L:List Nat) (f:F) (k:q) (h:Tg c->Tg L->F->q->p:=by
  intro tc tL hs hq
  refine Jz tc tL ?_
  rw [An];simp +decide only [go_sem,Nat.reduceAdd,hs]
  first | (refine H4 ?_;exact hq) | ((repeat' apply Ad)<;>first | (refine H4 ?_;exact hq) | (clear hq;exact cl))):p:=h tg tg f k
theorem hd {P:Program} {w0:World} {f:FuncId} {fn:Func} {c:Code} {n:Nat} {args:List AV} {B:List (List AV)} {Rw:List RowA} {L:List LoopA} {Post:AV->St->Prop} (rs:List ResultVar) (hf:P.funcs[f]? = some fn) (hn:fn.ntmps=n)
  (k:∀ (M0:Mem) (W0:World),M0.N=B.length->M0.NR=Rw.length->M0.NL=L.length->Calm B.length Rw.length L.length ⟨B,Rw,L⟩->(∀ x∈args,Under B.length Rw.length L.length x)->Owns Rw Rw []->(0:Nat)=0 ->
   D8 P w0 n M0 W0 none c (Zd8 P rs (finP ⟨B,Rw,L⟩ Post)) (Ax 0 args) ⟨B,Rw,L⟩)
  (hb:fn.body=some c:=by rfl) (hrs:fn.results=rs.toArray:=by rfl) (hm:fn.name ≠ "runtime.NumGoroutine" := by decide) (ha:args.length<=n:=by exact Nat.le_of_ble_eq_true rfl):ACalls P w0 f args ⟨B,Rw,L⟩ Post :=
 ACalls.finP (B7 (rs:=rs) hf hb hrs hn (AL hf (by rw [hb];rfl) hm) ha fun M0 W0 d e b a g=>k M0 W0 d e b a g (Owns.none Rw) rfl)
theorem ix {α β:Type} {l:List α} {i:Int} {F:α->Option β} {r:β} (g:α->AV) (h:(Dw l i).bind F=some r):∃ x,0<=i/\i<l.length/\(l.map g).getD i.toNat .junk=g x/\F x=some r:=by
 obtain ⟨x,d,h⟩:=bind_some h
 obtain ⟨a,b,c⟩:=Bo d
 exact ⟨x,a,b,Bz c,h⟩
abbrev Ck (e:Env) (st:St) (B:Ao) (Rw:Ap) (L:Aq) (e0:Env) (bs:Ao) (ow:List (Nat × Nat × Own)) (c:Prop):Prop :=
 ∃ (X:Ao) (rows:Ap),e=e0/\st=⟨B++(bs++X),rows,L⟩/\Owns Rw rows ow/\c
end Go.Ev
namespace Go.Proofs
open Go.Shelf
def Tryz.lays106_ren:Go.Shelf.Ren:=⟨fun | 106=>104 | 213=>145 | 265=>194 | n=>n,fun | 9=>9 | 3=>3 | n=>n,fun | n=>n⟩
theorem Tryz.lays106:Go.Proofs.Lays.n106 Tryz.prog Tryz.lays106_ren:={
 mixed:=by kernel_rfl
 f106:=Tryz.func104.trans (congrArg some (by kernel_rfl))
 f213:=Tryz.func145.trans (congrArg some (by kernel_rfl))
 f265:=Tryz.func194.trans (congrArg some (by kernel_rfl))
 t3:=Tryz.underlying3
 a3:=Tryz.isAgg3
 z3:=Tryz.sizeOf3
 v3:=Tryz.zeroValue3
 t9:=Tryz.underlying9
 a9:=Tryz.isAgg9
 z9:=Tryz.sizeOf9
 v9:=Tryz.zeroValue9 }
open Go.RowKit in
theorem Tryz.strings_Compare (a b:ByteArray) (w:World) :
  Calls Tryz.prog 104 #[.string a,.string b] w fun e w'=>e = .returned (.int .i64 (Lib.compareBytes a.data.toList b.data.toList))/\w'=w:=Any.strings_Compare Tryz.lays106 a b w
def Tryz.laysValid_ren:Go.Shelf.Ren:=⟨fun | 196=>157 | 259=>205 | n=>n,fun | 9=>9 | 4=>4 | 3=>3 | 5=>5 | 12=>12 | 119=>279 | 0=>0 | 46=>235 | 139=>282 | 138=>281 | 53=>276 | n=>n,fun | 3=>1 | 4=>2 | n=>n⟩
theorem Tryz.laysValid:Go.Proofs.Lays.n196 Tryz.prog Tryz.laysValid_ren:={
 mixed:=by kernel_rfl
 f196:=Tryz.func157.trans (congrArg some (by kernel_rfl))
 f259:=Tryz.func205.trans (congrArg some (by kernel_rfl))
 t0:=Tryz.underlying0
 a0:=Tryz.isAgg0
 z0:=Tryz.sizeOf0
 v0:=Tryz.zeroValue0
 t3:=Tryz.underlying3
 a3:=Tryz.isAgg3
 z3:=Tryz.sizeOf3
 v3:=Tryz.zeroValue3
 t4:=Tryz.underlying4
 a4:=Tryz.isAgg4
 z4:=Tryz.sizeOf4
 v4:=Tryz.zeroValue4
 t5:=Tryz.underlying5
 a5:=Tryz.isAgg5
 z5:=Tryz.sizeOf5
 v5:=Tryz.zeroValue5
 t9:=Tryz.underlying9
 a9:=Tryz.isAgg9
 z9:=Tryz.sizeOf9
 v9:=Tryz.zeroValue9
 t12:=Tryz.underlying12
 a12:=Tryz.isAgg12
 z12:=Tryz.sizeOf12
 v12:=Tryz.zeroValue12
 t46:=Tryz.underlying235
 a46:=Tryz.isAgg235
 z46:=Tryz.sizeOf235
 v46:=Tryz.zeroValue235
 t53:=Tryz.underlying276
 a53:=Tryz.isAgg276
 z53:=Tryz.sizeOf276
 v53:=Tryz.zeroValue276
 t119:=Tryz.underlying279
 a119:=Tryz.isAgg279
 z119:=Tryz.sizeOf279
 t138:=Tryz.underlying281
 a138:=Tryz.isAgg281
 z138:=Tryz.sizeOf281
 v138:=Tryz.zeroValue281
 t139:=Tryz.underlying282
 a139:=Tryz.isAgg282
 z139:=Tryz.sizeOf282
 v139:=Tryz.zeroValue282
 g3:=by kernel_rfl
 g4:=by kernel_rfl }
end Go.Proofs
namespace Go.Proofs.YtbfenpeblbonlaaGreatDoor
open Go Go.RowKit Go.Ev
@[go_sem] theorem ZlO:Dk Tryz.prog 100=none/\Dk Tryz.prog 111=none/\Dk Tryz.prog 123=none/\Dk Tryz.prog 170=none/\Dk Tryz.prog 182=none/\Dk Tryz.prog 197=some (11,1,false)/\Dk Tryz.prog 204=none/\Dk Tryz.prog 209=none/\Dk Tryz.prog 23=none/\Dk Tryz.prog 236=none/\Dk Tryz.prog 24=none/\Dk Tryz.prog 252=none:=by (repeat' apply Ad)<;>kernel_rfl
@[go_sem] theorem Zmi:Dk Tryz.prog 26=none/\Dk Tryz.prog 277=none/\Dk Tryz.prog 28=none/\Dk Tryz.prog 283=none/\Dk Tryz.prog 30=none/\Dk Tryz.prog 31=none/\Dk Tryz.prog 32=none/\Dk Tryz.prog 337=none/\Dk Tryz.prog 34=none/\Dk Tryz.prog 341=none/\Dk Tryz.prog 35=none/\Dk Tryz.prog 36=none:=by (repeat' apply Ad)<;>kernel_rfl
@[go_sem] theorem Zmq:Dk Tryz.prog 38=none/\Dk Tryz.prog 39=none/\Dk Tryz.prog 40=none/\Dk Tryz.prog 413=some (13,1,false)/\Dk Tryz.prog 42=none/\Dk Tryz.prog 425=some (12,1,false)/\Dk Tryz.prog 45=none/\Dk Tryz.prog 46=none/\Dk Tryz.prog 47=none/\Dk Tryz.prog 49=none/\Dk Tryz.prog 51=none/\Dk Tryz.prog 53=none:=by (repeat' apply Ad)<;>kernel_rfl
@[go_sem] theorem ZmH:Dk Tryz.prog 54=none/\Dk Tryz.prog 56=none/\Dk Tryz.prog 57=none/\Dk Tryz.prog 58=none/\Dk Tryz.prog 59=none/\Dk Tryz.prog 60=none/\Dk Tryz.prog 62=none/\Dk Tryz.prog 64=none/\Dk Tryz.prog 68=none/\Dk Tryz.prog 70=none/\Dk Tryz.prog 73=none/\Dk Tryz.prog 75=none:=by (repeat' apply Ad)<;>kernel_rfl
@[go_sem] theorem ZmA:Dk Tryz.prog 77=none/\Dk Tryz.prog 9=none/\Dk Tryz.prog 92=none/\Dk Tryz.prog 95=none/\Dk Tryz.prog 98=none/\ML Tryz.prog 4=true/\I9 Tryz.prog 21=false/\I9 Tryz.prog 235=false/\I9 Tryz.prog 283=true/\I9 Tryz.prog 3=false/\I9 Tryz.prog 5=false/\I9 Tryz.prog 9=false:=by (repeat' apply Ad)<;>kernel_rfl
@[go_sem] theorem Zhy:It Tryz.prog 170=some (209,3,true,32):=by kernel_rfl
@[go_sem] theorem ZaH:It Tryz.prog 204=some (170,1,false,24):=by kernel_rfl
@[go_sem] theorem Zjy:It Tryz.prog 26=some (53,23,true,304):=by kernel_rfl
@[go_sem] theorem ZjC:It Tryz.prog 28=some (62,7,true,136):=by kernel_rfl
@[go_sem] theorem ZmO:It Tryz.prog 197=none/\It Tryz.prog 236=some (194,1,false,8)/\It Tryz.prog 24=some (70,4,true,4)/\It Tryz.prog 277=some (89,1,false,8)/\It Tryz.prog 283=some (5,1,false,1)/\It Tryz.prog 30=some (9,1,false,16)/\It Tryz.prog 31=some (34,7,true,104)/\It Tryz.prog 32=some (123,11,true,160)/\It Tryz.prog 341=some (337,2,true,16)/\It Tryz.prog 35=some (95,5,true,80)/\It Tryz.prog 36=some (98,6,true,96)/\It Tryz.prog 39=some (100,2,true,40):=by (repeat' apply Ad)<;>kernel_rfl
@[go_sem] theorem Zjb:It Tryz.prog 40=some (3,1,false,8):=by kernel_rfl
@[go_sem] theorem P7:It Tryz.prog 46=some (49,6,true,88):=by kernel_rfl
@[go_sem] theorem SG:It Tryz.prog 47=some (68,7,true,104):=by kernel_rfl
@[go_sem] theorem RY:It Tryz.prog 54=some (92,10,true,152):=by kernel_rfl
@[go_sem] theorem ZiV:It Tryz.prog 57=some (77,11,true,160):=by kernel_rfl
@[go_sem] theorem ZiT:It Tryz.prog 58=some (64,11,true,152):=by kernel_rfl
@[go_sem] theorem WU:It Tryz.prog 59=some (75,6,true,96):=by kernel_rfl
@[go_sem] theorem Z8:It Tryz.prog 60=some (51,10,true,152):=by kernel_rfl
@[go_sem] theorem ZjF:It Tryz.prog 73=some (45,2,true,32):=by kernel_rfl
@[go_sem] theorem Zmn:It Tryz.prog 413=none/\It Tryz.prog 425=none/\It Tryz.prog 9=none:=by (repeat' apply Ad)<;>kernel_rfl
@[go_sem] theorem Zfz (xs ys:List AV):S0 Tryz.prog .neq 209 xs ys=(obK [(some .i64,false),(some .i64,false),(none,true)] xs ys,!Q2 xs ys):=Zbs (by kernel_rfl) xs ys
@[go_sem] theorem ZiL:Ba Tryz.prog 100 0=some (0,1,false)/\Ba Tryz.prog 100 1=some (1,1,true)/\Ba Tryz.prog 111 2=some (43,7,true)/\Ba Tryz.prog 123 1=some (1,1,false)/\Ba Tryz.prog 123 2=some (2,1,false)/\Ba Tryz.prog 123 3=some (3,7,true)/\Ba Tryz.prog 123 4=some (10,1,false)/\Ba Tryz.prog 209 0=some (0,1,false)/\Ba Tryz.prog 209 1=some (1,1,false)/\Ba Tryz.prog 209 2=some (2,1,false)/\Ba Tryz.prog 23 0=some (0,1,false)/\Ba Tryz.prog 23 1=some (1,1,false):=by (repeat' apply Ad)<;>kernel_rfl
@[go_sem] theorem ZkE:Ba Tryz.prog 23 2=some (2,1,false)/\Ba Tryz.prog 23 3=some (3,1,false)/\Ba Tryz.prog 252 1=some (6,1,false)/\Ba Tryz.prog 337 0=some (0,1,false)/\Ba Tryz.prog 337 1=some (1,1,false)/\Ba Tryz.prog 34 0=some (0,1,false)/\Ba Tryz.prog 34 4=some (4,1,false)/\Ba Tryz.prog 34 5=some (5,1,false)/\Ba Tryz.prog 34 6=some (6,1,false)/\Ba Tryz.prog 38 0=some (0,1,false)/\Ba Tryz.prog 42 0=some (0,1,false)/\Ba Tryz.prog 42 1=some (1,1,false):=by (repeat' apply Ad)<;>kernel_rfl
@[go_sem] theorem ZjU:Ba Tryz.prog 42 11=some (17,1,true)/\Ba Tryz.prog 42 12=some (18,1,false)/\Ba Tryz.prog 42 5=some (5,1,false)/\Ba Tryz.prog 42 6=some (6,1,false)/\Ba Tryz.prog 42 8=some (8,7,true)/\Ba Tryz.prog 42 9=some (15,1,false)/\Ba Tryz.prog 45 0=some (0,1,false)/\Ba Tryz.prog 45 1=some (1,1,false)/\Ba Tryz.prog 49 0=some (0,1,false)/\Ba Tryz.prog 49 1=some (1,1,false)/\Ba Tryz.prog 49 2=some (2,1,false)/\Ba Tryz.prog 49 3=some (3,1,false):=by (repeat' apply Ad)<;>kernel_rfl
@[go_sem] theorem Zkf:Ba Tryz.prog 49 4=some (4,1,false)/\Ba Tryz.prog 49 5=some (5,1,false)/\Ba Tryz.prog 51 0=some (0,2,true)/\Ba Tryz.prog 51 1=some (2,1,false)/\Ba Tryz.prog 51 2=some (3,1,false)/\Ba Tryz.prog 51 3=some (4,6,true)/\Ba Tryz.prog 53 0=some (0,1,false)/\Ba Tryz.prog 53 1=some (1,1,false)/\Ba Tryz.prog 53 2=some (2,2,true)/\Ba Tryz.prog 53 3=some (4,10,true)/\Ba Tryz.prog 53 4=some (14,1,false)/\Ba Tryz.prog 53 5=some (15,1,false):=by (repeat' apply Ad)<;>kernel_rfl
@[go_sem] theorem ZkQ:Ba Tryz.prog 53 6=some (16,1,false)/\Ba Tryz.prog 53 7=some (17,6,true)/\Ba Tryz.prog 56 0=some (0,1,false)/\Ba Tryz.prog 56 1=some (1,1,false)/\Ba Tryz.prog 56 2=some (2,1,false)/\Ba Tryz.prog 62 0=some (0,3,true)/\Ba Tryz.prog 62 1=some (3,1,false)/\Ba Tryz.prog 62 2=some (4,1,false)/\Ba Tryz.prog 62 3=some (5,1,false)/\Ba Tryz.prog 62 4=some (6,1,false)/\Ba Tryz.prog 64 0=some (0,2,true)/\Ba Tryz.prog 64 1=some (2,1,false):=by (repeat' apply Ad)<;>kernel_rfl
@[go_sem] theorem Zj6:Ba Tryz.prog 64 2=some (3,1,false)/\Ba Tryz.prog 64 3=some (4,1,false)/\Ba Tryz.prog 64 4=some (5,6,true)/\Ba Tryz.prog 68 0=some (0,1,false)/\Ba Tryz.prog 68 1=some (1,6,true)/\Ba Tryz.prog 70 0=some (0,1,false)/\Ba Tryz.prog 70 1=some (1,1,false)/\Ba Tryz.prog 70 2=some (2,1,false)/\Ba Tryz.prog 70 3=some (3,1,false)/\Ba Tryz.prog 75 0=some (0,2,true)/\Ba Tryz.prog 75 1=some (2,1,false)/\Ba Tryz.prog 75 2=some (3,1,false):=by (repeat' apply Ad)<;>kernel_rfl
@[go_sem] theorem Zko:Ba Tryz.prog 75 3=some (4,1,false)/\Ba Tryz.prog 75 4=some (5,1,false)/\Ba Tryz.prog 77 0=some (0,1,false)/\Ba Tryz.prog 77 1=some (1,10,true)/\Ba Tryz.prog 92 0=some (0,6,true)/\Ba Tryz.prog 92 1=some (6,1,false)/\Ba Tryz.prog 92 2=some (7,1,false)/\Ba Tryz.prog 92 3=some (8,1,false)/\Ba Tryz.prog 92 4=some (9,1,false)/\Ba Tryz.prog 95 0=some (0,1,false)/\Ba Tryz.prog 95 1=some (1,1,false)/\Ba Tryz.prog 95 2=some (2,1,false):=by (repeat' apply Ad)<;>kernel_rfl
@[go_sem] theorem Zki:Ba Tryz.prog 95 3=some (3,1,false)/\Ba Tryz.prog 95 4=some (4,1,false)/\Ba Tryz.prog 98 0=some (0,1,false)/\Ba Tryz.prog 98 1=some (1,5,true)/\Nj Tryz.prog 21=some .i32/\Nj Tryz.prog 235=some .u64/\Nj Tryz.prog 283=none/\Nj Tryz.prog 3=some .i64/\Nj Tryz.prog 5=some .u8/\Nj Tryz.prog 9=none/\BD Tryz.prog 100=some [(0,1),(1,1)]/\BD Tryz.prog 111=some [(0,20),(20,23),(43,7)]:=by (repeat' apply Ad)<;>kernel_rfl
@[go_sem] theorem Zh9:BD Tryz.prog 123=some [(0,1),(1,1),(2,1),(3,7),(10,1)]/\BD Tryz.prog 182=some [(0,1),(1,1)]/\BD Tryz.prog 197=none/\BD Tryz.prog 209=some [(0,1),(1,1),(2,1)]/\BD Tryz.prog 23=some [(0,1),(1,1),(2,1),(3,1)]/\BD Tryz.prog 252=some [(0,6),(6,1)]/\BD Tryz.prog 337=some [(0,1),(1,1)]/\BD Tryz.prog 34=some [(0,1),(1,1),(2,1),(3,1),(4,1),(5,1),(6,1)]/\BD Tryz.prog 38=some [(0,1)]/\BD Tryz.prog 413=none/\BD Tryz.prog 42=some [(0,1),(1,1),(2,1),(3,1),(4,1),(5,1),(6,1),(7,1),(8,7),(15,1),(16,1),(17,1),(18,1),(19,1)]/\BD Tryz.prog 425=none:=by (repeat' apply Ad)<;>kernel_rfl
@[go_sem] theorem ZiQ:BD Tryz.prog 45=some [(0,1),(1,1)]/\BD Tryz.prog 49=some [(0,1),(1,1),(2,1),(3,1),(4,1),(5,1)]/\BD Tryz.prog 51=some [(0,2),(2,1),(3,1),(4,6)]/\BD Tryz.prog 53=some [(0,1),(1,1),(2,2),(4,10),(14,1),(15,1),(16,1),(17,6)]/\BD Tryz.prog 56=some [(0,1),(1,1),(2,1)]/\BD Tryz.prog 62=some [(0,3),(3,1),(4,1),(5,1),(6,1)]/\BD Tryz.prog 64=some [(0,2),(2,1),(3,1),(4,1),(5,6)]/\BD Tryz.prog 68=some [(0,1),(1,6)]/\BD Tryz.prog 70=some [(0,1),(1,1),(2,1),(3,1)]/\BD Tryz.prog 75=some [(0,2),(2,1),(3,1),(4,1),(5,1)]/\BD Tryz.prog 77=some [(0,1),(1,10)]/\BD Tryz.prog 92=some [(0,6),(6,1),(7,1),(8,1),(9,1)]:=by (repeat' apply Ad)<;>kernel_rfl
@[go_sem] theorem Zi6:BD Tryz.prog 95=some [(0,1),(1,1),(2,1),(3,1),(4,1)]/\BD Tryz.prog 98=some [(0,1),(1,5)]/\DU Tryz.prog 170=false/\DU Tryz.prog 197=false/\DU Tryz.prog 204=false/\DU Tryz.prog 21=false/\DU Tryz.prog 235=false/\DU Tryz.prog 236=false/\DU Tryz.prog 24=false/\DU Tryz.prog 26=false/\DU Tryz.prog 277=false/\DU Tryz.prog 28=false:=by (repeat' apply Ad)<;>kernel_rfl
@[go_sem] theorem Zlf:DU Tryz.prog 283=false/\DU Tryz.prog 3=false/\DU Tryz.prog 30=false/\DU Tryz.prog 31=false/\DU Tryz.prog 32=false/\DU Tryz.prog 341=false/\DU Tryz.prog 35=false/\DU Tryz.prog 36=false/\DU Tryz.prog 39=false/\DU Tryz.prog 40=false/\DU Tryz.prog 413=false/\DU Tryz.prog 425=false:=by (repeat' apply Ad)<;>kernel_rfl
@[go_sem] theorem Znd:DU Tryz.prog 46=false/\DU Tryz.prog 47=false/\DU Tryz.prog 5=false/\DU Tryz.prog 54=false/\DU Tryz.prog 57=false/\DU Tryz.prog 58=false/\DU Tryz.prog 59=false/\DU Tryz.prog 60=false/\DU Tryz.prog 73=false/\DU Tryz.prog 9=true/\GT Tryz.prog 123=some (11,true)/\GT Tryz.prog 161=some (1,false):=by (repeat' apply Ad)<;>kernel_rfl
@[go_sem] theorem Zml:GT Tryz.prog 169=some (1,false)/\GT Tryz.prog 170=some (1,false)/\GT Tryz.prog 182=some (2,true)/\GT Tryz.prog 194=some (1,false)/\GT Tryz.prog 197=some (11,true)/\GT Tryz.prog 209=some (3,true)/\GT Tryz.prog 23=some (4,true)/\GT Tryz.prog 298=some (1,false)/\GT Tryz.prog 3=some (1,false)/\GT Tryz.prog 30=some (1,false)/\GT Tryz.prog 31=some (1,false)/\GT Tryz.prog 32=some (1,false):=by (repeat' apply Ad)<;>kernel_rfl
@[go_sem] theorem ZmE:GT Tryz.prog 337=some (2,true)/\GT Tryz.prog 34=some (7,true)/\GT Tryz.prog 35=some (1,false)/\GT Tryz.prog 36=some (1,false)/\GT Tryz.prog 38=some (1,true)/\GT Tryz.prog 39=some (1,false)/\GT Tryz.prog 4=some (1,false)/\GT Tryz.prog 40=some (1,false)/\GT Tryz.prog 413=some (13,true)/\GT Tryz.prog 42=some (20,true)/\GT Tryz.prog 45=some (2,true)/\GT Tryz.prog 46=some (1,false):=by (repeat' apply Ad)<;>kernel_rfl
@[go_sem] theorem ZnJ:GT Tryz.prog 47=some (1,false)/\GT Tryz.prog 49=some (6,true)/\GT Tryz.prog 5=some (1,false)/\GT Tryz.prog 51=some (10,true)/\GT Tryz.prog 53=some (23,true)/\GT Tryz.prog 54=some (1,false)/\GT Tryz.prog 56=some (3,true)/\GT Tryz.prog 57=some (1,false)/\GT Tryz.prog 58=some (1,false)/\GT Tryz.prog 59=some (1,false)/\GT Tryz.prog 60=some (1,false)/\GT Tryz.prog 62=some (7,true):=by (repeat' apply Ad)<;>kernel_rfl
@[go_sem] theorem Znt:GT Tryz.prog 64=some (11,true)/\GT Tryz.prog 68=some (7,true)/\GT Tryz.prog 70=some (4,true)/\GT Tryz.prog 73=some (1,false)/\GT Tryz.prog 75=some (6,true)/\GT Tryz.prog 89=some (1,false)/\GT Tryz.prog 9=some (1,false)/\GT Tryz.prog 92=some (10,true)/\GT Tryz.prog 95=some (5,true)/\GT Tryz.prog 98=some (6,true)/\Bn Tryz.prog 100=some [.val (.string ⟨#[]⟩),.list [] .full]/\Bn Tryz.prog 111=some [.val (.string ⟨#[]⟩),Ak 0,Ak 0,Ak 0,Ak 0,Ak 0,Ak 0,.val (.string ⟨#[]⟩),Ak 0,Ak 0,Ak 0,Ak 0,.list [] .full,.list [] .full,.list [] .full,.list [] .full,.list [] .full,.list [] .full,.list [] .full,.list [] .full,Ak 0,Ak 0,Ak 0,.list [] .full,Ak 0,.list [] .full,Ak 0,.list [] .full,Ak 0,Ak 0,Ak 0,.val (.string ⟨#[]⟩),.list [] .full,.list [] .full,Ak 0,.val (.bool false),.val (.bool false),Ak 0,Ak 0,Ak 0,.val (.string ⟨#[]⟩),.list [] .full,.list [] .full,Ak 0,Ak 0,.list [] .full,.list [] .full,.list [] .full,.list [] .full,.list [] .full]:=by (repeat' apply Ad)<;>kernel_rfl
@[go_sem] theorem V9:Bn Tryz.prog 170=some [.list [] .full]:=by kernel_rfl
@[go_sem] theorem Zbt:Bn Tryz.prog 209=some [Ak 0,Ak 0,.val (.string ⟨#[]⟩)]:=by kernel_rfl
@[go_sem] theorem Zf3:Bn Tryz.prog 3=some [Ak 0]:=by kernel_rfl
@[go_sem] theorem Zkh:Bn Tryz.prog 123=some [Ak 0,.val (.string ⟨#[]⟩),Ak 0,Ak 0,Ak 0,Ak 0,Ak 0,.list [] .full,.list [] .full,.list [] .full,.list [] .full]/\Bn Tryz.prog 160=some [.list [] .full,Ak 0]/\Bn Tryz.prog 182=some [.val .nilFunc,.val (.bool false)]/\Bn Tryz.prog 194=some [.val .nilFunc]/\Bn Tryz.prog 197=some [.val .nilFunc,.val .nilFunc,.val .nilFunc,.val .nilFunc,.val .nilFunc,.val .nilFunc,.val .nilFunc,.val .nilFunc,.val .nilFunc,.val .nilFunc,.val .nilFunc]/\Bn Tryz.prog 23=some [.val (.int .u8 0),.val (.int .u8 0),.val (.int .u8 0),.val (.int .u8 0)]/\Bn Tryz.prog 252=some [Ak 0,Ak 0,Ak 0,.val (.string ⟨#[]⟩),.list [] .full,.list [] .full,Ak 0]/\Bn Tryz.prog 298=some [.val .nilFunc]/\Bn Tryz.prog 337=some [Ak 0,Ak 0]/\Bn Tryz.prog 34=some [Ak 0,Ak 0,Ak 0,Ak 0,.list [] .full,.list [] .full,.list [] .full]/\Bn Tryz.prog 378=some [.val (.pointer none),.list [] .full]/\Bn Tryz.prog 38=some [.list [] .full]:=by (repeat' apply Ad)<;>kernel_rfl
@[go_sem] theorem Zez:Bn Tryz.prog 45=some [Ak 0,.list [] .full]:=by kernel_rfl
@[go_sem] theorem KJ:Bn Tryz.prog 49=some [Ak 0,Ak 0,Ak 0,.val (.string ⟨#[]⟩),.list [] .full,.list [] .full]:=by kernel_rfl
@[go_sem] theorem U4:Bn Tryz.prog 51=some [Ak 0,.list [] .full,Ak 0,.list [] .full,Ak 0,Ak 0,Ak 0,.val (.string ⟨#[]⟩),.list [] .full,.list [] .full]:=by kernel_rfl
@[go_sem] theorem Zev:Bn Tryz.prog 53=some [Ak 0,Ak 0,Ak 0,.list [] .full,Ak 0,.list [] .full,Ak 0,.list [] .full,Ak 0,Ak 0,Ak 0,.val (.string ⟨#[]⟩),.list [] .full,.list [] .full,Ak 0,.val (.bool false),.val (.bool false),Ak 0,Ak 0,Ak 0,.val (.string ⟨#[]⟩),.list [] .full,.list [] .full]:=by kernel_rfl
@[go_sem] theorem ZcI:Bn Tryz.prog 62=some [Ak 0,Ak 0,.list [] .full,.list [] .full,.list [] .full,.list [] .full,.list [] .full]:=by kernel_rfl
@[go_sem] theorem ZcD:Bn Tryz.prog 64=some [Ak 0,.list [] .full,.val (.string ⟨#[]⟩),Ak 0,.val (.bool false),Ak 0,Ak 0,Ak 0,.val (.string ⟨#[]⟩),.list [] .full,.list [] .full]:=by kernel_rfl
@[go_sem] theorem MC:Bn Tryz.prog 68=some [.val (.string ⟨#[]⟩),Ak 0,Ak 0,Ak 0,.val (.string ⟨#[]⟩),.list [] .full,.list [] .full]:=by kernel_rfl
@[go_sem] theorem QI:Bn Tryz.prog 75=some [Ak 0,.list [] .full,Ak 0,.val (.string ⟨#[]⟩),.list [] .full,.val (.string ⟨#[]⟩)]:=by kernel_rfl
@[go_sem] theorem Zdj:Bn Tryz.prog 77=some [Ak 0,Ak 0,.list [] .full,Ak 0,.list [] .full,Ak 0,Ak 0,Ak 0,.val (.string ⟨#[]⟩),.list [] .full,.list [] .full]:=by kernel_rfl
@[go_sem] theorem MS:Bn Tryz.prog 92=some [Ak 0,Ak 0,Ak 0,.val (.string ⟨#[]⟩),.list [] .full,.list [] .full,Ak 0,Ak 0,.list [] .full,.list [] .full]:=by kernel_rfl
@[go_sem] theorem Zms:Bn Tryz.prog 4=some [.val (.bool false)]/\Bn Tryz.prog 40=some [.list [] .full]/\Bn Tryz.prog 413=some [Ak 0,Ak 0,Ak 0,Ak 0,Ak 0,Ak 0,Ak 0,Ak 0,Ak 0,Ak 0,Ak 0,Ak 0,Ak 0]/\Bn Tryz.prog 42=some [.val (.string ⟨#[]⟩),Ak 0,Ak 0,Ak 0,Ak 0,Ak 0,Ak 0,.val (.string ⟨#[]⟩),Ak 0,Ak 0,Ak 0,Ak 0,.list [] .full,.list [] .full,.list [] .full,.list [] .full,.list [] .full,.list [] .full,.list [] .full,.list [] .full]/\Bn Tryz.prog 425=some [Ak 0,Ak 0,Ak 0,Ak 0,Ak 0,Ak 0,Ak 0,Ak 0,Ak 0,Ak 0,Ak 0,Ak 0]/\Bn Tryz.prog 56=some [Ak 0,Ak 0,.list [] .full]/\Bn Tryz.prog 70=some [.val (.int .u8 0),.val (.int .u8 0),.val (.int .u8 0),.val (.int .u8 0)]/\Bn Tryz.prog 89=some [Ak 0]/\Bn Tryz.prog 9=some [.val (.string ⟨#[]⟩)]/\Bn Tryz.prog 95=some [Ak 0,Ak 0,.val (.string ⟨#[]⟩),.list [] .full,.list [] .full]/\Bn Tryz.prog 98=some [.val (.string ⟨#[]⟩),Ak 0,Ak 0,.val (.string ⟨#[]⟩),.list [] .full,.list [] .full]:=by (repeat' apply Ad)<;>kernel_rfl
theorem G6:Tryz.prog.follows .mixedOrders=true:=by kernel_rfl
inductive Vl where
 | mk (kind int scale:Int) (text:ByteArray) (list:List Vl) (fields:List (ByteArray × Vl))
inductive Ty where
 | mk (kind min max scale:Int) (words:List ByteArray) (elem:List Ty) (fields:List (Int × ByteArray × Int × Ty × List Vl))
abbrev CQ:List AV:=[Ak 0,Ak 0,Ak 0,.val (.string ⟨#[]⟩),.list [] .full,.list [] .full]
namespace Vl
def kind:Vl->Int | mk k _ _ _ _ _=>k
def int:Vl->Int | mk _ i _ _ _ _=>i
def scale:Vl->Int | mk _ _ s _ _ _=>s
def text:Vl->ByteArray | mk _ _ _ t _ _=>t
def list:Vl->List Vl | mk _ _ _ _ l _=>l
def fields:Vl->List (ByteArray × Vl) | mk _ _ _ _ _ f=>f
end Vl
mutual
def Vl.size:Vl->Nat
 | .mk _ _ _ _ l f=>1+JS l+JZ f
def JS:List Vl->Nat
 | []=>0
 | v::r=>v.size+JS r
def JZ:List (ByteArray × Vl)->Nat
 | []=>0
 | (_,v)::r=>v.size+JZ r
end
mutual
def Vl.cs:Vl->List AV
 | .mk k i s t l f=>[.val (.int .i64 k),.val (.int .i64 i),.val (.int .i64 s),.val (.string t),.list (E0 l) .none,.list (JH f) .none]
def E0:List Vl->List AV
 | []=>[]
 | v::r => .agg v.cs::E0 r
def JH:List (ByteArray × Vl)->List AV
 | []=>[]
 | (n,v)::r => .agg (.val (.string n)::v.cs)::JH r
end
mutual
def Ty.size:Ty->Nat
 | .mk _ _ _ _ _ e f=>1+Zv e+O2 f
def Zv:List Ty->Nat
 | []=>0
 | t::r=>t.size+Zv r
def O2:List (Int × ByteArray × Int × Ty × List Vl)->Nat
 | []=>0
 | (_,_,_,t,_)::r=>t.size+O2 r
end
mutual
def Ty.cs:Ty->List AV
 | .mk k lo hi s w e f=>[.val (.int .i64 k),.val (.int .i64 lo),.val (.int .i64 hi),.val (.int .i64 s),.list (w.map fun x => .val (.string x)) .none,.list (NY e) .none,.list (Je f) .none]
def NY:List Ty->List AV
 | []=>[]
 | t::r => .agg t.cs::NY r
def Je:List (Int × ByteArray × Int × Ty × List Vl)->List AV
 | []=>[]
 | (n,s,d,t,l)::r => .agg (.val (.int .i64 n) :: .val (.string s) :: .val (.int .i64 d)::(t.cs++[.list (E0 l) .none]))::Je r
end
theorem Ge:∀ l:List Vl,E0 l=l.map fun v => .agg v.cs
 | []=>rfl
 | v::r=>by simp [E0,Ge r]
theorem O1:∀ l:List (ByteArray × Vl),JH l=l.map fun p => .agg (.val (.string p.1)::p.2.cs)
 | []=>rfl
 | (n,v)::r=>by simp [JH,O1 r]
@[go_sem] theorem QM (l:List Vl):(E0 l).length=l.length:=by simp [Ge]
@[go_sem] theorem XA (l:List (ByteArray × Vl)):(JH l).length=l.length:=by simp [O1]
theorem Sj:∀ l:List Ty,NY l=l.map fun v => .agg v.cs
 | []=>rfl
 | v::r=>by simp [NY,Sj r]
theorem P2:∀ l:List (Int × ByteArray × Int × Ty × List Vl),Je l=l.map fun p => .agg (Ak p.1 :: .val (.string p.2.1)::Ak p.2.2.1::(p.2.2.2.1.cs++[.list (E0 p.2.2.2.2) .none]))
 | []=>rfl
 | (n,s,d,t,l)::r=>by simp [Je,P2 r]
@[go_sem] theorem ZgH (l:List Ty):(NY l).length=l.length:=by simp [Sj]
@[go_sem] theorem ZeS (l:List (Int × ByteArray × Int × Ty × List Vl)):(Je l).length=l.length:=by simp [P2]
theorem Vl.cs_eq (v:Vl):v.cs=[.val (.int .i64 v.kind),.val (.int .i64 v.int),.val (.int .i64 v.scale),.val (.string v.text),.list (E0 v.list) .none,.list (JH v.fields) .none]:=by cases v;rfl
@[go_sem] theorem Vl.cs_length (v:Vl):v.cs.length=6:=by cases v;rfl
@[go_sem] theorem Vl.cs_pub (v:Vl):v.cs.map AV.pubCell=v.cs:=by cases v;rfl
mutual
theorem Vl.under (nb nr nl:Nat):∀ v:Vl,∀ x∈v.cs,Under nb nr nl x
 | .mk k i s t l f=>by
  intro x a
  simp only [Vl.cs,List.mem_cons,List.not_mem_nil,or_false] at a
  rcases a with rfl | rfl | rfl | rfl | rfl | rfl
  ·exact .val _
  ·exact .val _
  ·exact .val _
  ·exact .val _
  ·exact .list (JE nb nr nl l) trivial
  ·exact .list (Lx nb nr nl f) trivial
theorem JE (nb nr nl:Nat):∀ l:List Vl,∀ x∈E0 l,Under nb nr nl x
 | []=>fun _ h=>by simp [E0] at h
 | v::r=>by
  intro x hx
  simp only [E0,List.mem_cons] at hx
  rcases hx with rfl | hx
  ·exact .agg (Vl.under nb nr nl v)
  ·exact JE nb nr nl r x hx
theorem Lx (nb nr nl:Nat):∀ l:List (ByteArray × Vl),∀ x∈JH l,Under nb nr nl x
 | []=>fun _ h=>by simp [JH] at h
 | (n,v)::r=>by
  intro x hx
  simp only [JH,List.mem_cons] at hx
  rcases hx with rfl | hx
  ·refine .agg fun y hy=>?_
   rcases List.mem_cons.1 hy with rfl | hy
   ·exact .val _
   ·exact Vl.under nb nr nl v y hy
  ·exact Lx nb nr nl r x hx
end
mutual
theorem Ty.under (nb nr nl:Nat):∀ v:Ty,∀ x∈v.cs,Under nb nr nl x
 | .mk k lo hi s w e f=>by
  intro x a
  simp only [Ty.cs,List.mem_cons,List.not_mem_nil,or_false] at a
  rcases a with rfl | rfl | rfl | rfl | rfl | rfl | rfl
  ·exact .val _
  ·exact .val _
  ·exact .val _
  ·exact .val _
  ·refine .list (fun y b=>?_) trivial
   obtain ⟨z,_,rfl⟩:=List.mem_map.1 b
   exact .val _
  ·exact .list (OO nb nr nl e) trivial
  ·exact .list (Kv nb nr nl f) trivial
theorem OO (nb nr nl:Nat):∀ l:List Ty,∀ x∈NY l,Under nb nr nl x
 | []=>fun _ h=>by simp [NY] at h
 | v::r=>by
  intro x hx
  simp only [NY,List.mem_cons] at hx
  rcases hx with rfl | hx
  ·exact .agg (Ty.under nb nr nl v)
  ·exact OO nb nr nl r x hx
theorem Kv (nb nr nl:Nat):∀ l:List (Int × ByteArray × Int × Ty × List Vl),∀ x∈Je l,Under nb nr nl x
 | []=>fun _ h=>by simp [Je] at h
 | (n,s,d,t,l)::r=>by
  intro x hx
  simp only [Je,List.mem_cons] at hx
  rcases hx with rfl | hx
  ·refine .agg fun y hy=>?_
   simp only [List.mem_cons,List.mem_append,List.not_mem_nil,or_false] at hy
   rcases hy with rfl | rfl | rfl | hy | rfl
   ·exact .val _
   ·exact .val _
   ·exact .val _
   ·exact Ty.under nb nr nl t y hy
   ·exact .list (JE nb nr nl l) trivial
  ·exact Kv nb nr nl r x hx
end
@[go_sem] theorem ZlS (nb nr nl:Nat) (v:Vl):Under nb nr nl (.agg v.cs)<->True:=iff_true_intro (.agg (v.under nb nr nl))
@[go_sem] theorem Zj9 (nb nr nl:Nat) (v:Ty):Under nb nr nl (.agg v.cs)<->True:=iff_true_intro (.agg (v.under nb nr nl))
@[go_sem] theorem Zh8 (nb nr nl:Nat) (l:List Vl):(∀ x∈E0 l,Under nb nr nl x)<->True:=iff_true_intro (JE nb nr nl l)
@[go_sem] theorem Zie (nb nr nl:Nat) (l:List (ByteArray × Vl)):(∀ x∈JH l,Under nb nr nl x)<->True:=iff_true_intro (Lx nb nr nl l)
@[go_sem] theorem Zh2 (nb nr nl:Nat) (l:List Ty):(∀ x∈NY l,Under nb nr nl x)<->True:=iff_true_intro (OO nb nr nl l)
@[go_sem] theorem ZgA (nb nr nl:Nat) (l:List (Int × ByteArray × Int × Ty × List Vl)):(∀ x∈Je l,Under nb nr nl x)<->True:=iff_true_intro (Kv nb nr nl l)
theorem Ty.cs_eq (t:Ty):∃ k lo hi s w e f,t = .mk k lo hi s w e f:=by cases t;exact ⟨_,_,_,_,_,_,_,rfl⟩
@[go_sem] theorem Ty.cs_length (v:Ty):v.cs.length=7:=by cases v;rfl
@[go_sem] theorem Ty.cs_pub (v:Ty):v.cs.map AV.pubCell=v.cs:=by cases v;rfl
namespace Ty
def kind:Ty->Int | mk k _ _ _ _ _ _=>k
def min:Ty->Int | mk _ m _ _ _ _ _=>m
def max:Ty->Int | mk _ _ m _ _ _ _=>m
def scale:Ty->Int | mk _ _ _ s _ _ _=>s
def words:Ty->List ByteArray | mk _ _ _ _ w _ _=>w
def elem:Ty->List Ty | mk _ _ _ _ _ e _=>e
def fields:Ty->List (Int × ByteArray × Int × Ty × List Vl) | mk _ _ _ _ _ _ f=>f
end Ty
section
variable (v:Vl) (t:Ty) (x d:AV) (l:List AV)
@[go_sem] theorem Vl.g0:v.cs.getD 0 d = .val (.int .i64 v.kind):=by cases v;rfl
@[go_sem] theorem Vl.g1:v.cs.getD 1 d = .val (.int .i64 v.int):=by cases v;rfl
@[go_sem] theorem Vl.g2:v.cs.getD 2 d = .val (.int .i64 v.scale):=by cases v;rfl
@[go_sem] theorem Vl.g3:v.cs.getD 3 d = .val (.string v.text):=by cases v;rfl
@[go_sem] theorem Vl.g4:v.cs.getD 4 d = .list (E0 v.list) .none:=by cases v;rfl
@[go_sem] theorem Vl.g5:v.cs.getD 5 d = .list (JH v.fields) .none:=by cases v;rfl
@[go_sem] theorem Vl.take6:v.cs.take 6=v.cs:=by cases v;rfl
@[go_sem] theorem Vl.take6a:(v.cs++l).take 6=v.cs:=by cases v;rfl
@[go_sem] theorem Ty.g0:t.cs.getD 0 d = .val (.int .i64 t.kind):=by cases t;rfl
@[go_sem] theorem Ty.g1:t.cs.getD 1 d = .val (.int .i64 t.min):=by cases t;rfl
@[go_sem] theorem Ty.g2:t.cs.getD 2 d = .val (.int .i64 t.max):=by cases t;rfl
@[go_sem] theorem Ty.g3:t.cs.getD 3 d = .val (.int .i64 t.scale):=by cases t;rfl
@[go_sem] theorem Ty.g4:t.cs.getD 4 d = .list (t.words.map fun x => .val (.string x)) .none:=by cases t;rfl
@[go_sem] theorem Ty.g5:t.cs.getD 5 d = .list (NY t.elem) .none:=by cases t;rfl
@[go_sem] theorem Ty.g6:t.cs.getD 6 d = .list (Je t.fields) .none:=by cases t;rfl
@[go_sem] theorem Ty.take7:t.cs.take 7=t.cs:=by cases t;rfl
@[go_sem] theorem Ty.a0:(t.cs++l).getD 0 d = .val (.int .i64 t.kind):=by cases t;rfl
@[go_sem] theorem Ty.a1:(t.cs++l).getD 1 d = .val (.int .i64 t.min):=by cases t;rfl
@[go_sem] theorem Ty.a2:(t.cs++l).getD 2 d = .val (.int .i64 t.max):=by cases t;rfl
@[go_sem] theorem Ty.a3:(t.cs++l).getD 3 d = .val (.int .i64 t.scale):=by cases t;rfl
@[go_sem] theorem Ty.a4:(t.cs++l).getD 4 d = .list (t.words.map fun x => .val (.string x)) .none:=by cases t;rfl
@[go_sem] theorem Ty.a5:(t.cs++l).getD 5 d = .list (NY t.elem) .none:=by cases t;rfl
@[go_sem] theorem Ty.a6:(t.cs++l).getD 6 d = .list (Je t.fields) .none:=by cases t;rfl
@[go_sem] theorem Ty.a7:(t.cs++[x]).getD 7 d=x:=by cases t;rfl
@[go_sem] theorem Ty.take7a:(t.cs++l).take 7=t.cs:=by cases t;rfl
@[go_sem] theorem Ty.take8a:(t.cs++[x]).take 8=t.cs++[x]:=by cases t;rfl
@[go_sem] theorem Ty.drop7a:(t.cs++l).drop 7=l:=by cases t;rfl
attribute [go_sem] List.length_append List.map_append
end
end Go.Proofs.YtbfenpeblbonlaaGreatDoor
namespace Go.Proofs.YtbfenpeblbonlaaGreatDoor
open Go Go.RowKit Go.Ev
theorem ZhJ (t:ByteArray):MY t ⟨#[]⟩=decide (t.size=0):=by
 by_cases h:t.size=0
 ·have:t=⟨#[]⟩:=by
   obtain ⟨⟨l⟩⟩:=t
   simp [ByteArray.size] at h
   subst h;rfl
  subst this
  rfl
 ·simp only [h,decide_false]
  obtain ⟨⟨l⟩⟩:=t
  simp [ByteArray.size] at h
  simp [MY,h]
theorem X2 (w0:World) (B:Ao) (Rw:Ap) (L:Aq) (a:Int) :
  ACalls Tryz.prog w0 87 [Ak a] ⟨B,Rw,L⟩ fun r st=>r = .val (.bool false)/\st=⟨B,Rw,L⟩:=by
 refine ACalls.finP (B7 (rs:=[.tmp 2]) Tryz.func87 rfl rfl Tryz.ntmps87 (AL Tryz.func87 rfl (by decide)) (Nat.le_of_ble_eq_true rfl) ?_)
 intro M0 W0 h e f b g
 simp only [Ax]
 apply Am;intro K1 d
 apply As 1 [0]
 rw [An];simp +decide only [go_sem]
 (repeat' apply Ad)<;>first | refine d _ _ ?_ | exact cl
 clear d
 apply Am;intro K2 c
 apply As 1 [2]
 rw [An];simp +decide only [go_sem]
 (repeat' apply Ad)<;>first | refine c _ _ ?_ | exact cl
 clear c
 apply BB;simp +decide only [go_sem]
 refine J2 b pf pf pf (by simp +decide only [go_sem]) ⟨?_,rfl⟩
 rw [Ld]
theorem I7 (w0:World) (B:Ao) (Rw:Ap) (L:Aq) (a b:Int) :
  ACalls Tryz.prog w0 53 [Ak a,Ak b] ⟨B,Rw,L⟩ fun r st=>r=Ak (if a<b then -1 else if a=b then 0 else 1)/\st=⟨B,Rw,L⟩:=by
 refine ACalls.finP (B7 (rs:=[.tmp 4]) Tryz.func53 rfl rfl Tryz.ntmps53 (AL Tryz.func53 rfl (by decide)) (Nat.le_of_ble_eq_true rfl) ?_)
 intro M0 W0 w t u c v
 simp only [Ax]
 apply Am;intro K1 n
 apply As 1 [0,1]
 rw [An];simp +decide only [go_sem]
 (repeat' apply Ad)<;>first | refine n _ _ ?_ | exact cl
 clear n
 apply Am;intro K2 q
 apply As 2 [0,1,5]
 rw [An];simp +decide only [go_sem]
 (repeat' apply Ad)<;>first | refine Ot _ (X2 w0 _ Rw L _) ?_ | exact cl
 rw [An];simp +decide only [go_sem]
 (repeat' apply Ad)<;>first | refine q _ _ ?_ | exact cl
 clear q
 apply Am;intro K3 p
 apply As 2 [0,1,5,6]
 rw [An];simp +decide only [go_sem]
 (repeat' apply Ad)<;>first | refine Ot _ (X2 w0 _ Rw L _) ?_ | exact cl
 rw [An];simp +decide only [go_sem]
 (repeat' apply Ad)<;>first | refine p _ _ ?_ | exact cl
 clear p
 apply Am;intro K4 o
 apply Am;intro K5 s
 apply As 1 [0,1,6,11]
 rw [An];simp +decide only [go_sem]
 (repeat' apply Ad)<;>first | refine s _ _ ?_ | exact cl
 clear s
 refine A7 _ (by simp +decide only [go_sem]) (by simp +decide only [go_sem];rfl) (fun d=>?_) (fun d=>?_)
 ·simp at d
 skip
 apply Bq;simp only [go_sem]
 (repeat' apply Ad)<;>first | refine o _ _ ?_ | exact cl
 clear o
 apply Am;intro K10 j
 apply Am;intro K11 h
 apply As 1 [0,1,13]
 rw [An];simp +decide only [go_sem]
 (repeat' apply Ad)<;>first | refine h _ _ ?_ | exact cl
 clear h
 refine A7 _ (by simp +decide only [go_sem]) (by simp +decide only [go_sem];rfl) (fun d=>?_) (fun d=>?_)
 ·simp at d
 try simp at d
 apply Bq;simp only [go_sem]
 (repeat' apply Ad)<;>first | refine j _ _ ?_ | exact cl
 clear j
 apply Am;intro K13 e
 apply Am;intro K14 k
 apply As 1 [0,1,16]
 rw [An];simp +decide only [go_sem]
 (repeat' apply Ad)<;>first | refine k _ _ ?_ | exact cl
 clear k
 refine A7 _ (by simp +decide only [go_sem]) (by simp +decide only [go_sem];rfl) (fun d=>?_) (fun d=>?_)
 ·try simp at d
  apply Am;intro K15 l
  apply As 1 [4]
  rw [An];simp +decide only [go_sem]
  (repeat' apply Ad)<;>first | refine l _ _ ?_ | exact cl
  clear l
  apply BB;simp +decide only [go_sem]
  refine J2 c pf pf pf (by simp +decide only [go_sem]) ⟨?_,rfl⟩
  rw [Ld]
  rw [Ab]
 try simp at d
 apply Bq;simp only [go_sem]
 (repeat' apply Ad)<;>first | refine e _ _ ?_ | exact cl
 clear e
 apply Am;intro K16 f
 apply Am;intro K17 g
 apply As 1 [19]
 rw [An];simp +decide only [go_sem]
 (repeat' apply Ad)<;>first | refine g _ _ ?_ | exact cl
 clear g
 refine A7 _ (by simp +decide only [go_sem]) (by simp +decide only [go_sem];rfl) (fun d=>?_) (fun d=>?_)
 ·try simp at d
  apply Am;intro K18 i
  apply As 1 [4]
  rw [An];simp +decide only [go_sem]
  (repeat' apply Ad)<;>first | refine i _ _ ?_ | exact cl
  clear i
  apply BB;simp +decide only [go_sem]
  refine J2 c pf pf pf (by simp +decide only [go_sem]) ⟨?_,rfl⟩
  rw [Ld]
  rw [Aa,Aa]
 try simp at d
 apply Bq;simp only [go_sem]
 (repeat' apply Ad)<;>first | refine f _ _ ?_ | exact cl
 clear f
 apply Am;intro K19 m
 apply As 1 [4]
 rw [An];simp +decide only [go_sem]
 (repeat' apply Ad)<;>first | refine m _ _ ?_ | exact cl
 clear m
 apply BB;simp +decide only [go_sem]
 refine J2 c pf pf pf (by simp +decide only [go_sem]) ⟨?_,rfl⟩
 rw [Ld]
 rw [Aa,Ab]
def LM (c:Nat):Bool:=decide (97<=c)&&decide (c<=122)
def TS (c:Nat):Bool:=LM c||decide (c=95)||(decide (48<=c)&&decide (c<=57))
def Zen (l:List UInt8):Bool:=decide (1<=l.length/\l.length<=32)&&LM (l.headD 0).toNat&&l.all fun c=>TS c.toNat
def QK (s:ByteArray):Bool:=Zen s.data.toList
theorem UO (s:ByteArray) (k:Nat) (h:k<s.size):s.get! k=s.data.toList[k]'(by simpa using h):=by
 rw [Utf8W.get!_of_lt s k h];rfl
theorem Zc0 (s:ByteArray) (f:UInt8->Bool) (k:Nat) (h:k<s.size):(s.data.toList.drop k).all f=(f (s.get! k)&&(s.data.toList.drop (k+1)).all f):=by
 rw [List.drop_eq_getElem_cons (by simpa using h),UO s k h];rfl
theorem Zdz (s:ByteArray) (h:0<s.size):s.data.toList.headD 0=s.get! 0:=by
 rw [UO s 0 h]
 have b:0<s.data.toList.length:=by simpa using h
 have:∀ (l:List UInt8) (q:0<l.length),l.headD 0=l[0]:=fun l q=>by
  cases l with
  | nil=>simp at q
  | cons a l=>rfl
 exact this _ b
theorem ZbK (s:ByteArray) (k:Nat) (h:k<s.size):(Ho s.data.toList).getD k .junk = .val (.int .u8 (s.get! k).toNat):=by
 have a:s.data.toList.length=s.size:=by simp
 rw [UO s k h]
 simp [Ho,a,h,List.getD]
theorem WN (s:ByteArray):(Ho s.data.toList).length=s.size:=by
 have a:s.data.toList.length=s.size:=by simp
 simp [Ho,a]
theorem Zbv (c:Nat):TS c=decide ((97<=(c:Int)/\(c:Int)<=122)\/(c:Int)=95\/(48<=(c:Int)/\(c:Int)<=57)):=by
 rw [Bool.eq_iff_iff]
 simp [TS,LM]
 omega
theorem S4 (c:Nat):LM c=decide (97<=(c:Int)/\(c:Int)<=122):=by
 rw [Bool.eq_iff_iff]
 simp [LM]
 omega
theorem TW (s:ByteArray) (h1:1<=s.size) (h2:s.size<=32):QK s=(LM (s.get! 0).toNat&&s.data.toList.all fun c=>TS c.toNat):=by
 have a:s.data.toList.length=s.size:=by simp
 rw [QK,Zen,Ag (by omega),Zdz s h1];rfl
theorem YZ (s:ByteArray) (h:¬ (1<=s.size/\s.size<=32)):QK s=false:=by
 have a:s.data.toList.length=s.size:=by simp
 rw [QK,Zen,Ac];rfl
theorem Pe (w0:World) (B:Ao) (Rw:Ap) (L:Aq) (s:ByteArray) (hs:s.size<=maxLen) :
  ACalls Tryz.prog w0 163 [.val (.string s)] ⟨B,Rw,L⟩ fun r st=>r = .val (.bool (QK s))/\st=⟨B,Rw,L⟩:=by
 refine ACalls.finP (B7 (rs:=[.tmp 2]) Tryz.func163 rfl rfl Tryz.ntmps163 (AL Tryz.func163 rfl (by decide)) (Nat.le_of_ble_eq_true rfl) ?_)
 intro M0 W0 O F G b N
 unfold maxLen at hs
 have H:s.data.toList.length=s.size:=by simp
 have f:=ZhJ s
 obtain ⟨d,hd⟩:∃ d,(s.get! 0).toNat=d:=⟨_,rfl⟩
 have a:=WN s
 simp only [Ax]
 apply Am;intro K1 t
 apply As 1 [0]
 rw [An];simp +decide only [go_sem,hd,a,f]
 (repeat' apply Ad)<;>first | refine t _ _ ?_ | exact cl
 clear t
 apply Am;intro K2 z
 apply Am;intro K3 y
 apply As 1 [0,21]
 rw [An];simp +decide only [go_sem,hd,a,f]
 (repeat' apply Ad)<;>first | refine y _ _ ?_ | exact cl
 clear y
 refine A7 _ (by simp +decide only [go_sem]) (by simp +decide only [go_sem];rfl) (fun g=>?_) (fun g=>?_)
 ·simp only [Bool.or_eq_true,Bool.or_eq_false_iff,Bool.and_eq_true,Bool.and_eq_false_iff,decide_eq_true_eq,decide_eq_false_iff_not,Bool.not_eq_true',Bool.not_eq_false',Bool.not_eq_eq_eq_not,Bool.not_true,Bool.not_false] at g
  apply Am;intro K4 v
  apply As 1 [2]
  rw [An];simp +decide only [go_sem,hd,a,f]
  (repeat' apply Ad)<;>first | refine v _ _ ?_ | exact cl
  clear v
  apply BB;simp +decide only [go_sem]
  refine J2 b pf pf pf (by simp +decide only [go_sem]) ⟨?_,rfl⟩
  rw [Ld]
  congr 2
  symm
  by_cases hz:1<=s.size/\s.size<=32
  ·rw [TW s hz.1 hz.2,hd,S4,Ac];rfl
  ·exact YZ s hz
 simp only [Bool.or_eq_true,Bool.or_eq_false_iff,Bool.and_eq_true,Bool.and_eq_false_iff,decide_eq_true_eq,decide_eq_false_iff_not,Bool.not_eq_true',Bool.not_eq_false',Bool.not_eq_eq_eq_not,Bool.not_true,Bool.not_false] at g
 have K:1<=s.size/\s.size<=32/\97<=d/\d<=122:=by omega
 clear g
 have h:LM d=true:=by rw [S4];exact Ag (by omega)
 apply Bq;simp only [go_sem]
 (repeat' apply Ad)<;>first | refine z _ _ ?_ | exact cl
 clear z
 apply Am;intro K5 C
 apply Am;intro K6 D
 apply As 1 [23,24,25]
 rw [An];simp +decide only [go_sem,hd,a,f]
 (repeat' apply Ad)<;>first | refine D _ _ ?_ | exact cl
 clear D
 apply Ar
 refine AA (fun m e st=>∃ k:Nat,k<=s.size/\m=s.size-k/\LM d=true/\(s.data.toList.all fun c=>TS c.toNat)=((s.data.toList.drop k).all fun c=>TS c.toNat)/\e=[(23,true,.list (Ho s.data.toList) .none),(24,true,Ak s.size),(25,true,Ak k)]/\st=⟨B,Rw,L⟩) s.size ⟨0,by omega,rfl,by assumption,rfl,rfl,rfl⟩ ?_
 rintro m e st ⟨k,Q,rfl,J,p,rfl,rfl⟩ KR E
 obtain ⟨c,hc⟩:∃ c,(s.get! k).toNat=c:=⟨_,rfl⟩
 obtain ⟨x,hn1⟩:∃ x,(Ho s.data.toList).getD k .junk=x:=⟨_,rfl⟩
 apply Am;intro K7 u
 apply As 1 [23,24,25,26]
 rw [An];simp +decide only [go_sem,hn1,a]
 (repeat' apply Ad)<;>first | refine u _ _ ?_ | exact cl
 clear u
 apply Am;intro K8 q
 refine A7 _ (by simp +decide only [go_sem]) (by simp +decide only [go_sem];rfl) (fun g=>?_) (fun g=>?_)
 rotate_left
 ·simp only [Bool.or_eq_true,Bool.or_eq_false_iff,Bool.and_eq_true,Bool.and_eq_false_iff,decide_eq_true_eq,decide_eq_false_iff_not,Bool.not_eq_true',Bool.not_eq_false',Bool.not_eq_eq_eq_not,Bool.not_true,Bool.not_false] at g
  apply Gn;simp +decide only [go_sem,hn1,a]
  (repeat' apply Ad)<;>first | refine C _ _ ?_ | exact cl
  clear C
  apply Am;intro K9 w
  apply As 1 [2]
  rw [An];simp +decide only [go_sem,hn1,a]
  (repeat' apply Ad)<;>first | refine w _ _ ?_ | exact cl
  clear w
  apply BB;simp +decide only [go_sem]
  refine J2 b pf pf pf (by simp +decide only [go_sem]) ⟨?_,rfl⟩
  rw [Ld]
  have:k=s.size:=by omega
  subst this
  rw [TW s (by omega) (by omega),hd,h,p,List.drop_eq_nil_of_le (by omega)];rfl
 simp only [Bool.or_eq_true,Bool.or_eq_false_iff,Bool.and_eq_true,Bool.and_eq_false_iff,decide_eq_true_eq,decide_eq_false_iff_not,Bool.not_eq_true',Bool.not_eq_false',Bool.not_eq_eq_eq_not,Bool.not_true,Bool.not_false] at g
 have i:=Zc0 s (fun c=>TS c.toNat) k (by omega)
 simp only [hc] at i
 rw [Zbv c] at i
 have hn2:=ZbK s k (by omega)
 rw [hn1,hc] at hn2
 subst hn2
 apply Bq;simp only [go_sem]
 (repeat' apply Ad)<;>first | refine q _ _ ?_ | exact cl
 clear q
 apply Am;intro K10 n
 apply Ar
 apply Am;intro K11 l
 apply As 1 [4,23,24,25]
 rw [An];simp +decide only [go_sem,hn1,a]
 (repeat' apply Ad)<;>first | refine l _ _ ?_ | exact cl
 clear l
 apply Am;intro K12 o
 apply As 1 [23,24,25,46]
 rw [An];simp +decide only [go_sem,hn1,a]
 (repeat' apply Ad)<;>first | refine o _ _ ?_ | exact cl
 clear o
 refine A7 _ (by simp +decide only [go_sem]) (by simp +decide only [go_sem];rfl) (fun g=>?_) (fun g=>?_)
 ·simp only [Bool.or_eq_true,Bool.or_eq_false_iff,Bool.and_eq_true,Bool.and_eq_false_iff,decide_eq_true_eq,decide_eq_false_iff_not,Bool.not_eq_true',Bool.not_eq_false',Bool.not_eq_eq_eq_not,Bool.not_true,Bool.not_false] at g
  apply Am;intro K13 j
  apply As 1 [2]
  rw [An];simp +decide only [go_sem,hn1,a]
  (repeat' apply Ad)<;>first | refine j _ _ ?_ | exact cl
  clear j
  apply BB;simp +decide only [go_sem]
  refine J2 b pf pf pf (by simp +decide only [go_sem]) ⟨?_,rfl⟩
  rw [Ld]
  rw [TW s (by omega) (by omega),hd,h,p,i,Ac];rfl
 simp only [Bool.or_eq_true,Bool.or_eq_false_iff,Bool.and_eq_true,Bool.and_eq_false_iff,decide_eq_true_eq,decide_eq_false_iff_not,Bool.not_eq_true',Bool.not_eq_false',Bool.not_eq_eq_eq_not,Bool.not_true,Bool.not_false] at g
 apply Bq;simp only [go_sem]
 (repeat' apply Ad)<;>first | refine n _ _ ?_ | exact cl
 clear n
 apply As 1 [23,24,25]
 rw [An];simp +decide only [go_sem,hn1,a]
 (repeat' apply Ad)<;>first | refine E (s.size-(k+1)) _ _ ?_ ⟨k+1,?_,rfl,?_,?_,?_,rfl⟩ | exact cl
 ·omega
 ·omega
 ·exact h
 ·rw [p,i,Ag (by omega)];rfl
 ·simp
def VV (a b:ByteArray):Int:=Lib.compareBytes a.data.toList b.data.toList
theorem XY (w0:World) (st:St) (a b:ByteArray):ACalls Tryz.prog w0 104 [.val (.string a),.val (.string b)] st fun v s'=>v=Ak (VV a b)/\s'=st :=
 J9 (AL Tryz.func104 rfl (by decide)) rfl fun M w d i c=>by
  have:=QW (us:=[.string a,.string b]) c
  subst this
  exact (Tryz.strings_Compare a b w).mono fun e h ⟨f,g⟩=>⟨f,g▸Below.refl _ _⟩
theorem ZbE (w0:World) (st:St) (hT:Lib.Utf8Tabs 1 2 w0) (s:ByteArray) (hs:s.size<=maxLen):ACalls Tryz.prog w0 157 [.val (.string s)] st fun v s'=>v = .val (.bool (Lib.validD s.data.toList))/\s'=st :=
 J9 (AL Tryz.func157 rfl (by decide)) rfl fun M w b c a=>by
  have:=QW (us:=[.string s]) a
  subst this
  exact Any.utf8_ValidString Tryz.laysValid s w hs (Utf8Tabs_below hT c)
def GK (v:Vl):List Vl:=if v.kind=8\/v.kind=10 then v.list else if v.kind=9 then v.fields.map (·.2) else []
@[go_sem] theorem ZhT (l:List Vl):(∀ y∈E0 l,y.cells.length=6)<->True:=iff_true_intro (by
 rw [Ge];intro y a
 obtain ⟨v,_,rfl⟩:=List.mem_map.1 a
 exact v.cs_length)
@[go_sem] theorem Zl9 (l:List Vl):(∀ y∈E0 l,y.cells.length=6/\AP y=true)<->True:=iff_true_intro (by
 rw [Ge];intro y a
 obtain ⟨v,_,rfl⟩:=List.mem_map.1 a
 exact ⟨v.cs_length,rfl⟩)
@[go_sem] theorem Zkk (l:List Vl):(E0 l).map AV.pub=E0 l:=by
 rw [Ge,List.map_map]
 refine List.map_congr_left fun v _=>?_
 simp only [Function.comp,AV.pub,Vl.cs_pub]
theorem Za9 (l:List Vl) (k:Nat) (h:k<l.length):(E0 l).getD k .junk = .agg (l[k]).cs:=by
 simp [Ge,List.getD,h]
theorem Zbb (l:List (ByteArray × Vl)) (k:Nat) (h:k<l.length):(JH l).getD k .junk = .agg (.val (.string (l[k]).1)::(l[k]).2.cs):=by
 simp [O1,List.getD,h]
theorem ZJ (l:List (ByteArray × Vl)) (k:Nat) (h:k<l.length):E0 ((l.take (k+1)).map (·.2))=E0 ((l.take k).map (·.2))++[.agg (l[k]).2.cs]:=by
 rw [Ge,Ge,List.take_succ_eq_append_getElem h,List.map_append,List.map_append];rfl
theorem XS (l:List (ByteArray × Vl)) (k:Nat) (h:k<=l.length):(E0 ((l.take k).map (·.2))).length=k:=by
 rw [QM,List.length_map,List.length_take];omega
theorem ZdI (w0:World) (B:Ao) (Rw:Ap) (L:Aq) (v:Vl) (hl:v.list.length<=1000000000000) (hf:v.fields.length<=1000000000000) :
  ACalls Tryz.prog w0 206 [.agg v.cs] ⟨B,Rw,L⟩ fun r st=>r = .list (E0 (GK v)) .none/\st=⟨B,Rw,L⟩:=by
 refine ACalls.finP (B7 (rs:=[.tmp 2]) Tryz.func206 rfl rfl Tryz.ntmps206 (AL Tryz.func206 rfl (by decide)) (Nat.le_of_ble_eq_true rfl) ?_)
 intro M0 W0 V K N b U
 have O:=XA v.fields
 simp only [Ax]
 apply Am;intro K1 w
 apply As 1 [1]
 rw [An];simp +decide only [go_sem]
 (repeat' apply Ad)<;>first | refine w _ _ ?_ | exact cl
 clear w
 apply Am;intro K2 D
 apply Am;intro K3 z
 apply As 1 [1,7]
 rw [An];simp +decide only [go_sem]
 (repeat' apply Ad)<;>first | refine z _ _ ?_ | exact cl
 clear z
 apply Ar
 apply Am;intro K4 f
 apply Am;intro K5 E
 apply As 1 [1,7,8]
 rw [An];simp +decide only [go_sem]
 (repeat' apply Ad)<;>first | refine E _ _ ?_ | exact cl
 clear E
 refine A7 _ (by simp +decide only [go_sem]) (by simp +decide only [go_sem];rfl) (fun a=>?_) (fun a=>?_)
 -- JOIN
 ·simp only [Bool.or_eq_true,Bool.or_eq_false_iff,Bool.and_eq_true,Bool.and_eq_false_iff,decide_eq_true_eq,decide_eq_false_iff_not,Bool.not_eq_true',Bool.not_eq_false',Bool.not_eq_eq_eq_not,Bool.not_true,Bool.not_false] at a
  apply Bq;simp only [go_sem]
  (repeat' apply Ad)<;>first | refine f _ _ ?_ | exact cl
  clear f
  refine A7 _ (by simp +decide only [go_sem]) (by simp +decide only [go_sem];rfl) (fun a=>?_) (fun a=>?_)
  ·simp only [Bool.or_eq_true,Bool.or_eq_false_iff,Bool.and_eq_true,Bool.and_eq_false_iff,decide_eq_true_eq,decide_eq_false_iff_not,Bool.not_eq_true',Bool.not_eq_false',Bool.not_eq_eq_eq_not,Bool.not_true,Bool.not_false] at a
   apply Am;intro K6 F
   apply As 1 [2]
   rw [An];simp +decide only [go_sem]
   (repeat' apply Ad)<;>first | refine F _ _ ?_ | exact cl
   clear F
   apply BB;simp +decide only [go_sem]
   refine J2 b pf pf pf ?_ ⟨?_,rfl⟩
   ·simp +decide only [go_sem]
   ·simp only [go_sem]
    rw [GK,Ab]
  simp only [Bool.or_eq_true,Bool.or_eq_false_iff,Bool.and_eq_true,Bool.and_eq_false_iff,decide_eq_true_eq,decide_eq_false_iff_not,Bool.not_eq_true',Bool.not_eq_false',Bool.not_eq_eq_eq_not,Bool.not_true,Bool.not_false] at a
  omega
 simp only [Bool.or_eq_true,Bool.or_eq_false_iff,Bool.and_eq_true,Bool.and_eq_false_iff,decide_eq_true_eq,decide_eq_false_iff_not,Bool.not_eq_true',Bool.not_eq_false',Bool.not_eq_eq_eq_not,Bool.not_true,Bool.not_false] at a
 apply As 1 [1,7,8]
 rw [An];simp +decide only [go_sem]
 (repeat' apply Ad)<;>first | refine f _ _ ?_ | exact cl
 clear f
 refine A7 _ (by simp +decide only [go_sem]) (by simp +decide only [go_sem];rfl) (fun a=>?_) (fun a=>?_)
 ·simp only [Bool.or_eq_true,Bool.or_eq_false_iff,Bool.and_eq_true,Bool.and_eq_false_iff,decide_eq_true_eq,decide_eq_false_iff_not,Bool.not_eq_true',Bool.not_eq_false',Bool.not_eq_eq_eq_not,Bool.not_true,Bool.not_false] at a
  apply Am;intro K17 j
  apply As 1 [2]
  rw [An];simp +decide only [go_sem]
  (repeat' apply Ad)<;>first | refine j _ _ ?_ | exact cl
  clear j
  apply BB;simp +decide only [go_sem]
  refine J2 b pf pf pf ?_ ⟨?_,rfl⟩
  ·simp +decide only [go_sem]
  ·simp only [go_sem]
   rw [GK,Ab]
 simp only [Bool.or_eq_true,Bool.or_eq_false_iff,Bool.and_eq_true,Bool.and_eq_false_iff,decide_eq_true_eq,decide_eq_false_iff_not,Bool.not_eq_true',Bool.not_eq_false',Bool.not_eq_eq_eq_not,Bool.not_true,Bool.not_false] at a
 apply Am;intro K18 l
 apply As 1 [1,13]
 rw [An];simp +decide only [go_sem]
 (repeat' apply Ad)<;>first | refine l _ _ ?_ | exact cl
 clear l
 refine A7 _ (by simp +decide only [go_sem]) (by simp +decide only [go_sem];rfl) (fun a=>?_) (fun a=>?_)
 ·simp only [Bool.or_eq_true,Bool.or_eq_false_iff,Bool.and_eq_true,Bool.and_eq_false_iff,decide_eq_true_eq,decide_eq_false_iff_not,Bool.not_eq_true',Bool.not_eq_false',Bool.not_eq_eq_eq_not,Bool.not_true,Bool.not_false] at a
  apply Am;intro K19 u
  apply As 1 [1,3]
  rw [An];simp +decide only [go_sem]
  (repeat' apply Ad)<;>first | refine u _ _ ?_ | exact cl
  clear u
  apply Am;intro K20 g
  apply Am;intro K21 q
  apply As 1 [3,16,17,18]
  rw [An];simp +decide only [go_sem]
  (repeat' apply Ad)<;>first | refine q _ _ ?_ | exact cl
  clear q
  apply Ar
  refine AA (fun m e st=>∃ (k:Nat) (o:Ev.Own) (r:Ap) (X:Ao),k<=v.fields.length/\m=v.fields.length-k/\Grow Rw 6 (E0 ((v.fields.take k).map (·.2))) o r /\
   e=[(3,true,.list (E0 ((v.fields.take k).map (·.2))) o),(16,true,.list (JH v.fields) .none),(17,true,Ak v.fields.length),(18,true,Ak k)]/\st=⟨B++X,Rw++r,L⟩) v.fields.length ⟨0,.full,[],[v.cs],by omega,rfl,.nil _ _,rfl,by simp⟩ ?_
  rintro m e st ⟨k,o,r,X,Q,rfl,J,rfl,rfl⟩ KR G
  obtain ⟨x,hx⟩:∃ x,(JH v.fields).getD k .junk=x:=⟨_,rfl⟩
  have d:=VF (P:=Tryz.prog) P7 (by rw [KJ];rfl) (by decide) J
  have c:=XS v.fields k Q
  apply Am;intro K22 p
  apply As 1 [3,16,17,18,19]
  rw [An];simp +decide only [go_sem,hx,d,c]
  (repeat' apply Ad)<;>first | refine p _ _ ?_ | exact cl
  clear p
  apply Am;intro K23 h
  refine A7 _ (by simp +decide only [go_sem]) (by simp +decide only [go_sem];rfl) (fun a=>?_) (fun a=>?_)
  rotate_left
  ·simp only [Bool.or_eq_true,Bool.or_eq_false_iff,Bool.and_eq_true,Bool.and_eq_false_iff,decide_eq_true_eq,decide_eq_false_iff_not,Bool.not_eq_true',Bool.not_eq_false',Bool.not_eq_eq_eq_not,Bool.not_true,Bool.not_false] at a
   apply Gn;simp +decide only [go_sem,hx,d,c]
   (repeat' apply Ad)<;>first | refine g _ _ ?_ | exact cl
   clear g
   apply Am;intro K24 t
   apply As 1 [2]
   rw [An];simp +decide only [go_sem,hx,d,c]
   (repeat' apply Ad)<;>first | refine t _ _ ?_ | exact cl
   clear t
   apply BB;simp +decide only [go_sem]
   refine J2 b pf pf pf ?_ ⟨?_,rfl⟩
   ·simp +decide only [go_sem]
   ·simp only [go_sem]
    rw [GK,Aa,Ab,List.take_of_length_le (by omega)]
  simp only [Bool.or_eq_true,Bool.or_eq_false_iff,Bool.and_eq_true,Bool.and_eq_false_iff,decide_eq_true_eq,decide_eq_false_iff_not,Bool.not_eq_true',Bool.not_eq_false',Bool.not_eq_eq_eq_not,Bool.not_true,Bool.not_false] at a
  have C:k<v.fields.length:=by omega
  have hx2:=Zbb v.fields k C
  rw [hx] at hx2
  subst hx2
  have H:=ZJ v.fields k C
  have y:=XS v.fields (k+1) (by omega)
  apply Bq;simp only [go_sem]
  (repeat' apply Ad)<;>first | refine h _ _ ?_ | exact cl
  clear h
  apply Am;intro K25 s
  apply Ar
  apply Am;intro K26 n
  apply As 1 [3,5,16,17,18]
  rw [An];simp +decide only [go_sem,hx,d,c]
  (repeat' apply Ad)<;>first | refine n _ _ ?_ | exact cl
  clear n
  apply As 1 [3,16,17,18]
  rw [An];simp +decide only [go_sem,hx,d,c]
  (repeat' apply Ad)<;>first | refine s _ _ ?_ | exact cl
  clear s
  apply As 1 [3,16,17,18]
  rw [An];simp +decide only [go_sem,hx,d,c]
  (repeat' apply Ad)<;>first | refine G (v.fields.length-(k+1)) _ _ ?_ ⟨k+1,.row Rw.length,[.grow (k+1) 6],_,?_,rfl,.more _ _ _ _ y,?_,rfl⟩ | exact cl
  ·omega
  ·omega
  ·rw [H];simp
 simp only [Bool.or_eq_true,Bool.or_eq_false_iff,Bool.and_eq_true,Bool.and_eq_false_iff,decide_eq_true_eq,decide_eq_false_iff_not,Bool.not_eq_true',Bool.not_eq_false',Bool.not_eq_eq_eq_not,Bool.not_true,Bool.not_false] at a
 apply Bq;simp only [go_sem]
 (repeat' apply Ad)<;>first | refine D _ _ ?_ | exact cl
 clear D
 apply Am;intro K27 i
 apply As 1 [2]
 rw [An];simp +decide only [go_sem]
 (repeat' apply Ad)<;>first | refine i _ _ ?_ | exact cl
 clear i
 apply BB;simp +decide only [go_sem]
 refine J2 b pf pf pf ?_ ⟨?_,rfl⟩
 ·simp +decide only [go_sem]
 ·simp only [go_sem]
  rw [GK,Aa,Aa];rfl
mutual
def JR (lv:Nat):Vl->List (Nat × Vl)
 | .mk k i s t l f=>(lv,.mk k i s t l f)::(if k=8\/k=10 then ZaQ (lv+1) l else if k=9 then Zat (lv+1) f else [])
def ZaQ (lv:Nat):List Vl->List (Nat × Vl)
 | []=>[]
 | v::r=>JR lv v++ZaQ lv r
def Zat (lv:Nat):List (ByteArray × Vl)->List (Nat × Vl)
 | []=>[]
 | (_,v)::r=>JR lv v++Zat lv r
end
theorem YJ (lv:Nat):∀ l,ZaQ lv l=l.flatMap (JR lv)
 | []=>rfl
 | v::r=>by simp [ZaQ,YJ lv r]
theorem Yl (lv:Nat):∀ l,Zat lv l=(l.map (·.2)).flatMap (JR lv)
 | []=>rfl
 | (_,v)::r=>by simp [Zat,Yl lv r]
theorem Zg5 (lv:Nat) (v:Vl):JR lv v=(lv,v)::(GK v).flatMap (JR (lv+1)):=by
 obtain ⟨k,i,s,t,l,f⟩:=v
 simp only [JR,GK,Vl.kind,Vl.list,Vl.fields,YJ,Yl]
 by_cases h1:k=8\/k=10
 ·simp only [h1,if_true]
 ·by_cases h2:k=9
  ·subst h2;simp
  ·simp only [h1,h2,if_false,List.flatMap_nil]
theorem WG {α β:Type} (f:α->List β) (l:List α) (q:Nat) (h:q<l.length):((l.take (q+1)).flatMap f).length=((l.take q).flatMap f).length+(f l[q]).length:=by
 rw [List.take_succ_eq_append_getElem h,List.flatMap_append,List.length_append];simp
theorem X4 {α β:Type} (f:α->List β) (l:List α) (q:Nat) (h:q<l.length) (j:Nat) (x:β) (hx:(f l[q])[j]? = some x):(l.flatMap f)[((l.take q).flatMap f).length+j]? = some x:=by
 have e:l=l.take q++l[q]::l.drop (q+1):=by rw [<-List.drop_eq_getElem_cons h,List.take_append_drop]
 have a:l.flatMap f=(l.take q).flatMap f++(f l[q]++(l.drop (q+1)).flatMap f):=by
  conv=>lhs;rw [e]
  rw [List.flatMap_append,List.flatMap_cons]
 rw [a,List.getElem?_append_right (by omega),Nat.add_sub_cancel_left,List.getElem?_append_left (Aj.1 hx).1,hx]
theorem NB:∀ (l:List Vl) (v:Vl),v∈l->v.size<=JS l
 | [],_,h=>by simp at h
 | a::r,v,h=>by
  rcases List.mem_cons.1 h with rfl | h
  ·simp [JS]
  ·have:=NB r v h
   simp [JS];omega
theorem NG:∀ (l:List (ByteArray × Vl)) (p:ByteArray × Vl),p∈l->p.2.size<=JZ l
 | [],_,h=>by simp at h
 | (n,a)::r,p,h=>by
  rcases List.mem_cons.1 h with rfl | h
  ·simp [JZ]
  ·have:=NG r p h
   simp [JZ];omega
theorem Vl.size_pos (v:Vl):0<v.size:=by cases v;simp [Vl.size];omega
theorem P8:∀ l:List Vl,l.length<=JS l
 | []=>Nat.le_refl _
 | v::r=>by have:=P8 r;have:=v.size_pos;simp [JS];omega
theorem P1:∀ l:List (ByteArray × Vl),l.length<=JZ l
 | []=>Nat.le_refl _
 | (n,v)::r=>by have:=P1 r;have:=v.size_pos;simp [JZ];omega
theorem Vl.size_eq (v:Vl):v.size=1+JS v.list+JZ v.fields:=by cases v;simp [Vl.size,Vl.list,Vl.fields]
theorem Zbi (v x:Vl) (h:x∈GK v):x.size<v.size:=by
 have e:=v.size_eq
 unfold GK at h
 split at h
 ·have:=NB _ _ h;omega
 ·split at h
  ·obtain ⟨p,a,rfl⟩:=List.mem_map.1 h
   have:=NG _ _ a;omega
  ·simp at h
theorem SC (v:Vl):v.list.length<v.size/\v.fields.length<v.size/\(GK v).length<v.size:=by
 have e:=v.size_eq
 have a:=P8 v.list
 have b:=P1 v.fields
 refine ⟨by omega,by omega,?_⟩
 unfold GK
 split
 ·omega
 ·split
  ·simp;omega
  ·simp;omega
mutual
def Vl.wide:Vl->Bool
 | .mk _ _ _ _ l f=>decide (l.length<=1000000000000)&&decide (f.length<=1000000000000)&&Up l&&Uy f
def Up:List Vl->Bool
 | []=>true
 | v::r=>v.wide&&Up r
def Uy:List (ByteArray × Vl)->Bool
 | []=>true
 | (_,v)::r=>v.wide&&Uy r
end
theorem Ve:∀ l,Up l=true<->∀ v∈l,v.wide=true
 | []=>by simp [Up]
 | v::r=>by simp [Up,Ve r]
theorem U0:∀ l,Uy l=true<->∀ p∈l,p.2.wide=true
 | []=>by simp [Uy]
 | (n,v)::r=>by simp [Uy,U0 r]
theorem Vl.wide_iff (v:Vl):v.wide=true<->v.list.length<=1000000000000/\v.fields.length<=1000000000000/\(∀ x∈v.list,x.wide=true)/\∀ p∈v.fields,p.2.wide=true:=by
 cases v;simp only [Vl.wide,Bool.and_eq_true,decide_eq_true_eq,Ve,U0,Vl.list,Vl.fields,and_assoc]
theorem ZaT {v x:Vl} (h:v.wide=true) (hx:x∈GK v):x.wide=true:=by
 obtain ⟨_,_,a,c⟩:=v.wide_iff.1 h
 unfold GK at hx
 split at hx
 ·exact a x hx
 ·split at hx
  ·obtain ⟨p,b,rfl⟩:=List.mem_map.1 hx
   exact c p b
  ·simp at hx
theorem M5:∀ (k:Nat) (v:Vl),v.size<=k->v.size<=1000000000000->v.wide=true
 | 0,v,h,_=>by have:=v.size_pos;omega
 | k+1,v,h,h2=>by
  have e:=v.size_eq
  obtain ⟨a,b,_⟩:=SC v
  refine v.wide_iff.2 ⟨by omega,by omega,fun x c=>?_,fun p d=>?_⟩
  ·have:=NB _ _ c;exact M5 k x (by omega) (by omega)
  ·have:=NG _ _ d;exact M5 k p.2 (by omega) (by omega)
mutual
def Vl.depth:Vl->Nat
 | .mk _ _ _ _ l f=>1+max (Ph l) (O7 f)
def Ph:List Vl->Nat
 | []=>0
 | t::r=>max t.depth (Ph r)
def O7:List (ByteArray × Vl)->Nat
 | []=>0
 | (_,t)::r=>max t.depth (O7 r)
end
theorem Ue:∀ (l:List Vl) (d:Nat),Ph l<=d<->∀ v∈l,v.depth<=d
 | [],d=>by simp [Ph]
 | v::r,d=>by simp [Ph,Nat.max_le,Ue r d]
theorem Vg:∀ (l:List (ByteArray × Vl)) (d:Nat),O7 l<=d<->∀ v∈l,v.2.depth<=d
 | [],d=>by simp [O7]
 | (_,t)::r,d=>by simp [O7,Nat.max_le,Vg r d]
theorem Vl.depth_eq (v:Vl):v.depth=1+Max.max (Ph v.list) (O7 v.fields):=by cases v;simp [Vl.depth,Vl.list,Vl.fields]
theorem Y3 {v x:Vl} (h:x∈GK v):x.depth<v.depth:=by
 have e:=v.depth_eq
 unfold GK at h
 split at h
 ·have:=(Ue v.list _).1 (Nat.le_refl _) x h;omega
 ·split at h
  ·obtain ⟨p,a,rfl⟩:=List.mem_map.1 h
   have:=(Vg v.fields _).1 (Nat.le_refl _) p a;omega
  ·simp at h
def ZaG (p:Nat × Vl):List AV:=[Ak p.1,.agg p.2.cs]
def ZC (w0:World) (items:Ao) (k:Nat) (J:Nat->St->Prop) (Jx:St->Prop):Prop :=
 ∀ i SB SR SL x XB XL,J i ⟨SB,SR,SL⟩->items[i]? = some x->UI Tryz.prog w0 k x ⟨SB++XB,SR,SL++XL⟩ fun r s'=>∃ TB TR TL b,r = .val (.bool b)/\s'=⟨TB++XB,TR,TL++XL⟩/\TB.length=SB.length/\SR.length<=TR.length/\TL.length=SL.length/\(b=true->J (i+1) ⟨TB,TR,TL⟩)/\(b=false->Jx ⟨TB,TR,TL⟩)
def Zz (w0:World) (items:Ao) (k:Nat) (J:Nat->St->Prop) (Jx:St->Prop) (v:Vl):Prop :=
 ∀ (lv i:Nat) (lvi:Int) SB SR SL XB XL,lv+v.depth<=4611686018427387904->v.wide=true->J i ⟨SB,SR,SL⟩->lvi=lv->(∀ j x,(JR lv v)[j]? = some x->items[i+j]? = some (ZaG x)) ->
  ACalls Tryz.prog w0 166 [.agg v.cs,Ak lvi,.yld k] ⟨SB++XB,SR,SL++XL⟩ fun r s'=>∃ TB TR TL XB' b,r = .val (.bool b)/\s'=⟨TB++(XB++XB'),TR,TL++XL⟩/\TB.length=SB.length/\SR.length<=TR.length/\TL.length=SL.length/\(b=true->J (i+(JR lv v).length) ⟨TB,TR,TL⟩)/\(b=false->Jx ⟨TB,TR,TL⟩)
theorem ZH (w0:World) (items:Ao) (k:Nat) (J:Nat->St->Prop) (Jx:St->Prop) (hY:ZC w0 items k J Jx) (v:Vl) (ih:∀ x,x.size<v.size->Zz w0 items k J Jx x):Zz w0 items k J Jx v:=by
 intro d i af SB SR SL XB XL ai g h0 hle F
 subst hle
 obtain ⟨K,C,_⟩:=v.wide_iff.1 g
 have aa:(GK v).length<=1000000000000:=by
  unfold GK
  split
  ·exact K
  ·split
   ·simpa using C
   ·simp
 refine B7 (rs:=[.tmp 6]) Tryz.func166 rfl rfl Tryz.ntmps166 (AL Tryz.func166 rfl (by decide)) (Nat.le_of_ble_eq_true rfl) ?_
 intro M0 W0 hN ag ah ab hu
 obtain ⟨ae,aj,O⟩:=SC v
 have f:=Zg5 d v
 have c:=QM (GK v)
 obtain ⟨ps,hpe⟩:∃ ps,GK v=ps:=⟨_,rfl⟩
 have w:items[i]? = some (ZaG (d,v)):=by
  have:=F 0 (d,v) (by rw [f];rfl)
  simpa using this
 simp only [Ax]
 apply Am;intro K1 t
 apply As 1 [1,2,3]
 rw [An];simp +decide only [go_sem]
 (repeat' apply Ad)<;>first | refine t _ _ ?_ | exact cl
 clear t
 apply Am;intro K2 G
 apply Am;intro K3 E
 apply As 2 [1,2,3,13]
 rw [An];simp +decide only [go_sem]
 (repeat' apply Ad)<;>first | refine S9 _ (fun _=>hY i SB SR SL _ (XB++[v.cs]) XL h0 w) (fun r s' hp _=>?_) | exact cl
 obtain ⟨TB,TR,TL,b,rfl,rfl,l1,l2,l3,ad,hp2⟩:=hp rfl
 rw [<-l1]
 rw [An];simp +decide only [go_sem]
 (repeat' apply Ad)<;>first | refine E _ _ ?_ | exact cl
 clear E
 refine A7 _ (by simp +decide only [go_sem]) (by simp +decide only [go_sem];rfl) (fun hb=>?_) (fun hb=>?_)
 ·simp only [Bool.not_eq_true'] at hb
  apply Am;intro K4 y
  apply As 1 [6]
  rw [An];simp +decide only [go_sem]
  (repeat' apply Ad)<;>first | refine y _ _ ?_ | exact cl
  clear y
  apply BB;simp +decide only [go_sem]
  exact ⟨TB,TR,TL,[v.cs],false,rfl,rfl,l1,l2,l3,fun h=>(by cases h),fun _=>hp2 hb⟩
 simp only [Bool.not_eq_false'] at hb
 apply Bq;simp only [go_sem]
 (repeat' apply Ad)<;>first | refine G _ _ ?_ | exact cl
 clear G
 apply Am;intro K5 H
 apply Am;intro K6 N
 apply As 2 [1,2,15,16,17]
 rw [An];simp +decide only [go_sem]
 (repeat' apply Ad)<;>first | refine Ot _ (ZdI w0 _ TR _ v K C) ?_ | exact cl
 rw [hpe] at c O aa f ⊢
 rw [An];simp +decide only [go_sem]
 (repeat' apply Ad)<;>first | refine N _ _ ?_ | exact cl
 clear N
 apply Ar
 refine AA (fun m e st=>∃ (q:Nat) (UB:Ao) (UR:Ap) (UL:Aq) (XB':Ao),q<=ps.length/\m=ps.length-q/\J (i+1+((ps.take q).flatMap (JR (d+1))).length) ⟨UB,UR,UL⟩/\UB.length=SB.length/\SR.length<=UR.length/\UL.length=SL.length/\e=[(1,true,Ak d),(2,true,.yld k),(15,true,.list (E0 ps) .none),(16,true,Ak ps.length),(17,true,Ak q)]/\st=⟨UB++(XB++XB'),UR,UL++XL⟩) ps.length ⟨0,TB,TR,TL,[v.cs],by omega,rfl,by simpa using ad hb,l1,l2,l3,rfl,by simp⟩ ?_
 rintro m e st ⟨q,UB,UR,UL,XB',hq,rfl,Y,m1,m2,m3,rfl,rfl⟩ KR U
 obtain ⟨x,hx⟩:∃ x,(E0 ps).getD q .junk=x:=⟨_,rfl⟩
 apply Am;intro K7 u
 apply As 1 [1,2,15,16,17,18]
 rw [An];simp +decide only [go_sem,hx,c]
 (repeat' apply Ad)<;>first | refine u _ _ ?_ | exact cl
 clear u
 apply Am;intro K8 s
 refine A7 _ (by simp +decide only [go_sem]) (by simp +decide only [go_sem];rfl) (fun hb=>?_) (fun hb=>?_)
 rotate_left
 ·simp only [Bool.or_eq_true,Bool.or_eq_false_iff,Bool.and_eq_true,Bool.and_eq_false_iff,decide_eq_true_eq,decide_eq_false_iff_not,Bool.not_eq_true',Bool.not_eq_false',Bool.not_eq_eq_eq_not,Bool.not_true,Bool.not_false] at hb
  apply Gn;simp +decide only [go_sem,hx,c]
  (repeat' apply Ad)<;>first | refine H _ _ ?_ | exact cl
  clear H
  apply Am;intro K9 D
  apply As 1 [6]
  rw [An];simp +decide only [go_sem,hx,c]
  (repeat' apply Ad)<;>first | refine D _ _ ?_ | exact cl
  clear D
  apply BB;simp +decide only [go_sem]
  refine ⟨UB,UR,UL,XB',true,rfl,rfl,m1,m2,m3,fun _=>?_,fun h=>(by cases h)⟩
  rw [List.take_of_length_le (by omega)] at Y
  rw [f,List.length_cons,show i+((ps.flatMap (JR (d+1))).length+1)=i+1+(ps.flatMap (JR (d+1))).length by omega]
  exact Y
 simp only [Bool.or_eq_true,Bool.or_eq_false_iff,Bool.and_eq_true,Bool.and_eq_false_iff,decide_eq_true_eq,decide_eq_false_iff_not,Bool.not_eq_true',Bool.not_eq_false',Bool.not_eq_eq_eq_not,Bool.not_true,Bool.not_false] at hb
 have a:q<ps.length:=by omega
 have hx2:=Za9 ps q a
 rw [hx] at hx2
 subst hx2
 have Z:=WG (JR (d+1)) ps q a
 have z:∀ j x,(JR (d+1) (ps[q]'a))[j]? = some x->items[i+1+((ps.take q).flatMap (JR (d+1))).length+j]? = some (ZaG x):=fun j x V=>by
  have h1:=X4 (JR (d+1)) ps q a j x V
  have h2:=F (((ps.take q).flatMap (JR (d+1))).length+j+1) x (by rw [f,List.getElem?_cons_succ,h1])
  rw [show i+1+((ps.take q).flatMap (JR (d+1))).length+j=i+(((ps.take q).flatMap (JR (d+1))).length+j+1) by omega]
  exact h2
 apply Bq;simp only [go_sem]
 (repeat' apply Ad)<;>first | refine s _ _ ?_ | exact cl
 clear s
 apply Am;intro K10 o
 apply Ar
 apply Am;intro K11 n
 apply As 1 [1,2,8,15,16,17]
 rw [An];simp +decide only [go_sem,hx,c]
 (repeat' apply Ad)<;>first | refine n _ _ ?_ | exact cl
 clear n
 apply Am;intro K12 p
 apply As 2 [1,2,15,16,17,26]
 rw [An];simp +decide only [go_sem,hx,c]
 (repeat' apply Ad)<;>first | refine UJ _ (ih (ps[q]'a) (Zbi v _ (by rw [hpe];exact List.getElem_mem a)) (d+1) _ _ UB UR UL (XB++(XB'++[(ps[q]'a).cs])) XL (by have:=Y3 (v:=v) (x:=ps[q]'a) (by rw [hpe];exact List.getElem_mem a);omega) (ZaT g (by rw [hpe];exact List.getElem_mem a)) Y (by omega) z) ?_ | exact cl
 rintro r s' ⟨VB,VR,VL,XB2,b2,rfl,rfl,n1,n2,n3,Q,np2⟩
 rw [An];simp +decide only [go_sem,hx,c]
 (repeat' apply Ad)<;>first | refine p _ _ ?_ | exact cl
 clear p
 refine A7 _ (by simp +decide only [go_sem]) (by simp +decide only [go_sem];rfl) (fun hb=>?_) (fun hb=>?_)
 ·simp only [Bool.not_eq_true'] at hb
  apply Am;intro K13 l
  apply As 1 [6]
  rw [An];simp +decide only [go_sem,hx,c]
  (repeat' apply Ad)<;>first | refine l _ _ ?_ | exact cl
  clear l
  apply BB;simp +decide only [go_sem]
  exact ⟨VB,VR,VL,XB'++([(ps[q]'a).cs]++XB2),false,rfl,by simp,by omega,by omega,by omega,fun h=>(by cases h),fun _=>np2 hb⟩
 simp only [Bool.not_eq_false'] at hb
 apply Bq;simp only [go_sem]
 (repeat' apply Ad)<;>first | refine o _ _ ?_ | exact cl
 clear o
 apply As 1 [1,2,15,16,17]
 rw [An];simp +decide only [go_sem,hx,c]
 (repeat' apply Ad)<;>first | refine U (ps.length-(q+1)) _ _ ?_ ⟨q+1,VB,VR,VL,XB'++([(ps[q]'a).cs]++XB2),?_,rfl,?_,?_,?_,?_,?_,?_⟩ | exact cl
 ·omega
 ·omega
 ·rw [Z];have:=Q hb;rwa [Nat.add_assoc (i+1)] at this
 ·omega
 ·omega
 ·omega
 ·simp
 ·simp
theorem XT (w0:World) (items:Ao) (k:Nat) (J:Nat->St->Prop) (Jx:St->Prop) (hY:ZC w0 items k J Jx):∀ (n:Nat) (v:Vl),v.size<=n->Zz w0 items k J Jx v
 | 0,v,h=>by have:=v.size_pos;omega
 | n+1,v,h=>ZH w0 items k J Jx hY v fun x a=>XT w0 items k J Jx hY n x (by omega)
def Ll (v:Vl):List (List AV):=(JR 1 v).map ZaG
theorem Vy (w0:World) (v:Vl) (hv:v.depth<4611686018427387904/\v.wide=true) (l:Nat):ZiD Tryz.prog w0 165 [.box l 0] (Ll v) (fun st=>st.boxes[l]? = some v.cs):=by
 intro k J Jx D Q U y
 have C:ZC w0 (Ll v) k J (fun s=>Jx s):=by
  intro i SB SR SL x XB XL G g
  have:=Q i ⟨SB,SR,SL⟩ x ⟨XB,[],XL⟩ rfl G g
  simp only [St.ext,List.append_nil] at this
  intro M w d K V
  obtain ⟨O,e,t,f,m,p⟩:=this M w d K V
  refine ⟨O,e,t,f,m,fun n=>(p n).mono ?_⟩
  intro en Z N
  refine N.mono ?_
  rintro r s ⟨⟨TB,TR,TL⟩,rfl,⟨q1,q2,q3⟩,hp⟩
  rcases hp with ⟨rfl,hp⟩ | ⟨rfl,hp⟩
  ·exact ⟨TB,TR,TL,true,rfl,rfl,q1,q2,q3,fun _=>hp,fun h=>(by cases h)⟩
  ·exact ⟨TB,TR,TL,false,rfl,rfl,q1,q2,q3,fun h=>(by cases h),fun _=>hp⟩
 obtain ⟨a,H⟩:=D _ _ y
 obtain ⟨SB,SR,SL⟩:=U
 have z:l<SB.length:=(Aj.1 a).1
 have m:Dv ⟨SB,SR,SL⟩ (.box l 0)=true:=by simp [Dv,z]
 have p:Bi ⟨SB,SR,SL⟩ (.box l 0)=v.cs:=by
  simp only at a
  simp [Bi,List.getD,a]
 have c:=XT w0 (Ll v) k J Jx C v.size v (Nat.le_refl _) 1 0 1 SB SR SL [] [] (by omega) hv.2 y rfl (fun j x g=>by simp [Ll,g])
 simp only [List.append_nil,List.nil_append,Nat.zero_add] at c
 refine B7 (rs:=[]) Tryz.func165 rfl rfl Tryz.ntmps165 (AL Tryz.func165 rfl (by decide)) (Nat.le_of_ble_eq_true rfl) ?_
 intro M0 W0 hN E F o Y
 simp only [Ax]
 apply As 2 []
 rw [An];simp +decide only [go_sem,m,p]
 (repeat' apply Ad)<;>first | refine UJ _ c ?_ | exact cl
 rintro r s ⟨TB,TR,TL,XB',b,rfl,rfl,q1,q2,q3,u,q⟩
 rw [An];simp +decide only [go_sem]
 refine ⟨⟨TB,TR,TL⟩,⟨XB',[],[]⟩,rfl,by simp [St.ext],?_⟩
 cases b with
 | true=>exact .inl (by have:=u rfl;simpa [Ll] using this)
 | false=>exact .inr (q rfl)
theorem Vx (v:Vl):(Ll v).length=(JR 1 v).length:=by simp [Ll]
theorem Y8 (v:Vl) (i:Nat) (x:List AV) (h:(Ll v)[i]? = some x):∃ p,(JR 1 v)[i]? = some p/\x=[Ak p.1,.agg p.2.cs]/\i<(JR 1 v).length:=by
 simp only [Ll,List.getElem?_map,Option.map_eq_some_iff] at h
 obtain ⟨p,a,rfl⟩:=h
 exact ⟨p,a,rfl,(Aj.1 a).1⟩
theorem Z4 (v:Vl) (x:List AV) (h:x∈Ll v):x.length=2:=by
 obtain ⟨p,_,rfl⟩:=List.mem_map.1 h
 rfl
theorem Yi (w0:World) (B:Ao) (Rw:Ap) (L:Aq) (v:Vl) :
  ACalls Tryz.prog w0 116 [.agg v.cs] ⟨B,Rw,L⟩ fun r st=>r = .clo 165 [.box B.length 0]/\st=⟨B++[v.cs],Rw,L⟩:=by
 refine B7 (rs:=[.tmp 2]) Tryz.func116 rfl rfl Tryz.ntmps116 (AL Tryz.func116 rfl (by decide)) (Nat.le_of_ble_eq_true rfl) ?_
 intro M0 W0 g d e c f
 simp only [Ax]
 apply Am;intro K1 b
 apply As 1 [1]
 rw [An];simp +decide only [go_sem]
 (repeat' apply Ad)<;>first | refine b _ _ ?_ | exact cl
 clear b
 apply Am;intro K2 a
 apply As 1 [2]
 rw [An];simp +decide only [go_sem]
 (repeat' apply Ad)<;>first | refine a _ _ ?_ | exact cl
 clear a
 apply BB;simp +decide only [go_sem]
 skip
def Vr:List AV:=[.val .nilFunc,.clo 150 [],.clo 152 [],.clo 153 [],.clo 155 [],.clo 158 [],.clo 159 [],.clo 160 [],.clo 161 [],.clo 162 [],.clo 164 []]
theorem Zdn (w0:World) (B:Ao) (Rw:Ap) (L:Aq)  :
  ACalls Tryz.prog w0 115 [] ⟨B,Rw,L⟩ fun r st=>r = .agg Vr/\st=⟨B,Rw,L⟩:=by
 refine ACalls.finP (B7 (rs:=[.cell 0 197]) Tryz.func115 rfl rfl Tryz.ntmps115 (AL Tryz.func115 rfl (by decide)) (Nat.le_of_ble_eq_true rfl) ?_)
 intro M0 W0 g d e a f
 simp only [Ax]
 apply Am;intro K1 c
 apply As 1 [0]
 rw [An];simp +decide only [go_sem,QS,OA,J1,Bt,List.getElem?_cons_zero,List.getElem?_cons_succ,List.nil_append,List.cons_append]
 (repeat' apply Ad)<;>first | refine c _ _ ?_ | exact cl
 clear c
 apply Am;intro K2 b
 apply As 1 [0]
 rw [An];simp +decide only [go_sem,QS,OA,J1,Bt,List.getElem?_cons_zero,List.getElem?_cons_succ,List.nil_append,List.cons_append]
 (repeat' apply Ad)<;>first | refine b _ _ ?_ | exact cl
 clear b
 apply BB;simp +decide only [go_sem]
 refine J2 a pf pf pf (by simp +decide only [go_sem]) ⟨?_,rfl⟩
 rfl
inductive Ex where
 | mk (op int:Int) (text:ByteArray) (value:List Vl) (args:List Ex)
namespace Ex
def op:Ex->Int | mk o _ _ _ _=>o
def int:Ex->Int | mk _ i _ _ _=>i
def text:Ex->ByteArray | mk _ _ t _ _=>t
def value:Ex->List Vl | mk _ _ _ v _=>v
def args:Ex->List Ex | mk _ _ _ _ a=>a
end Ex
mutual
def Ex.size:Ex->Nat
 | .mk _ _ _ _ a=>1+Zef a
def Zef:List Ex->Nat
 | []=>0
 | e::r=>e.size+Zef r
end
mutual
def Ex.cs:Ex->List AV
 | .mk o i t v a=>[.val (.int .i64 o),.val (.int .i64 i),.val (.string t),.list (E0 v) .none,.list (OV a) .none]
def OV:List Ex->List AV
 | []=>[]
 | e::r => .agg e.cs::OV r
end
theorem O8:∀ l:List Ex,OV l=l.map fun v => .agg v.cs
 | []=>rfl
 | v::r=>by simp [OV,O8 r]
@[go_sem] theorem ZgN (l:List Ex):(OV l).length=l.length:=by simp [O8]
mutual
theorem Ex.under (nb nr nl:Nat):∀ v:Ex,∀ x∈v.cs,Under nb nr nl x
 | .mk o i t v a=>by
  intro x b
  simp only [Ex.cs,List.mem_cons,List.not_mem_nil,or_false] at b
  rcases b with rfl | rfl | rfl | rfl | rfl
  ·exact .val _
  ·exact .val _
  ·exact .val _
  ·exact .list (JE nb nr nl v) trivial
  ·exact .list (OT nb nr nl a) trivial
theorem OT (nb nr nl:Nat):∀ l:List Ex,∀ x∈OV l,Under nb nr nl x
 | []=>fun _ h=>by simp [OV] at h
 | v::r=>by
  intro x hx
  simp only [OV,List.mem_cons] at hx
  rcases hx with rfl | hx
  ·exact .agg (Ex.under nb nr nl v)
  ·exact OT nb nr nl r x hx
end
@[go_sem] theorem ZkG (nb nr nl:Nat) (v:Ex):Under nb nr nl (.agg v.cs)<->True:=iff_true_intro (.agg (v.under nb nr nl))
@[go_sem] theorem Zip (nb nr nl:Nat) (l:List Ex):(∀ x∈OV l,Under nb nr nl x)<->True:=iff_true_intro (OT nb nr nl l)
@[go_sem] theorem Ex.cs_length (v:Ex):v.cs.length=5:=by cases v;rfl
@[go_sem] theorem Ex.cs_pub (v:Ex):v.cs.map AV.pubCell=v.cs:=by cases v;rfl
section
variable (v:Ex) (d:AV) (l:List AV)
@[go_sem] theorem Ex.g0:v.cs.getD 0 d = .val (.int .i64 v.op):=by cases v;rfl
@[go_sem] theorem Ex.g1:v.cs.getD 1 d = .val (.int .i64 v.int):=by cases v;rfl
@[go_sem] theorem Ex.g2:v.cs.getD 2 d = .val (.string v.text):=by cases v;rfl
@[go_sem] theorem Ex.g3:v.cs.getD 3 d = .list (E0 v.value) .none:=by cases v;rfl
@[go_sem] theorem Ex.g4:v.cs.getD 4 d = .list (OV v.args) .none:=by cases v;rfl
@[go_sem] theorem Ex.take5:v.cs.take 5=v.cs:=by cases v;rfl
@[go_sem] theorem Ex.take5a:(v.cs++l).take 5=v.cs:=by cases v;rfl
end
end Go.Proofs.YtbfenpeblbonlaaGreatDoor
