/-
  Part 3 of the proof: rules and walks that the claim's last text uses.
-/
import Derived.Ground.Names2Prog
import Derived.Ground.NamesProg
import Derived.Ground.SlgfProg
import Derived.Ground.SlgnProg
import Derived.Ground.SlsfProg
import Derived.Shelf.LaysC
import Derived.Shelf.LaysM
import Derived.Shelf.Small.Bits
import Derived.Shelf.Small.Strs
import Derived.Shelf.Small.Utf8
import Derived.Shelf.Small.Wraps
import Derived.Shelf.Strconv.Atoi
import Derived.Shelf.Strconv.AtoiAll
import Derived.Shelf.Strconv.AtoiErrFast
import Derived.Shelf.Strconv.AtoiFail
import Derived.Shelf.Strconv.AtoiInnerAll
import Derived.Shelf.Strconv.AtoiLong
import Derived.Shelf.Strconv.Clone
import Derived.Shelf.Strconv.Itoa0
import Derived.Shelf.Strconv.Itoa1
import Derived.Shelf.Strconv.Itoa2
import Derived.Shelf.Strconv.Itoa3
import Derived.Shelf.Strconv.Lower
import Derived.Shelf.Strconv.ParseInt10
import Derived.Shelf.Strconv.ParseIntEmpty
import Derived.Shelf.Strconv.ParseUint10
import Derived.Shelf.Strconv.ParseUint10Any
import Derived.Shelf.Strconv.ParseUint10Empty
import Derived.Shelf.Strconv.ParseUint10b16
import Derived.Shelf.Strconv.ParseUint10b32
import Derived.Shelf.Strconv.ParseUint10b64
import Derived.Shelf.Strconv.ParseUint10b8
import Derived.Shelf.Strconv.ParseUintEmpty
import Derived.Shelf.Strconv.RangeError
import Derived.Shelf.Strconv.SyntaxError
import Derived.Shelf.Strconv.ToError
import Derived.Shelf.Strconv.ToErrorRange
import Derived.Shelf.Strings.AsciiSet
import Derived.Shelf.Strings.Cut
import Derived.Shelf.Strings.IndexAny
import Derived.Shelf.Strings.IndexAnyAll
import Derived.Shelf.Strings.Repeat
import Derived.Shelf.Strings.Runes
import Derived.Shelf.Strings.Search1
import Derived.Shelf.Strings.Search2
import Derived.Shelf.Strings.Shaped
import Derived.Shelf.Unicode.Decode
import Derived.Shelf.Unicode.DecodeAny
import Derived.Shelf.Unicode.DecodeSlow
import Derived.Shelf.Unicode.ValidAny
import Derived.Shelf.Utf8.AppendRunePlain
import Derived.Test.YtcpmjgdlioggjaaGreatDoorProg
import Derived.Test.YtcpmjgdlioggjaaGreatDoorKb1
import Derived.Test.YtcpmjgdlioggjaaGreatDoorKb2
set_option linter.unusedSimpArgs false
set_option linter.unusedVariables false
set_option maxRecDepth 100000
set_option maxHeartbeats 4000000
namespace Go.Ev
open Go Go.RowKit
section
variable {P:Program} {w0:World} {n:Nat} {M:Mem} {e:Env} {st:St} {a:Act} {w:World}
theorem R.seed {v:Value} (h:R w0 M w v (.list [] .full)):R w0 M w v (.list [] .seed):=by
 cases h with
 | nil ho=>exact .nil (fun id=>by simp)
 | emp ho=>exact .emp (fun id=>by simp)
 | list sz us hc hm hcell hu ho=>exact .list (xs:=[]) sz us hc hm hcell hu ho
theorem Iy {M0:Mem} {W0:World} {ro:Option Nat} {Q:AQ} {c:Code} (e':Env) (st':St)
  (hc:∀ M a w,Rel w0 n M e st a w->∃ M',Ext w0 M w M' w/\Rel w0 n M' e' st' a w) (h:CW P w0 n M0 W0 ro c Q e' st'):CW P w0 n M0 W0 ro c Q e st:=by
 intro m M a w b
 obtain ⟨M',d,f⟩:=hc M a w b.rel
 exact h m M' a w ⟨f,b.ext.trans d,b.marks.later d b.rel.st⟩
theorem Rel.relabel (h:Rel w0 n M e st a w) (k:Nat) (x:AV) (hx:R w0 M w (a.tmps.getD k undef) x):Rel w0 n M ((k,true,x)::e) st a w :=
 ⟨h.st,h.size,fun s y hs=>by
  simp only [look] at hs
  by_cases q:k=s
  ·subst q
   rw [Ad rfl] at hs
   cases hs
   exact hx
  ·rw [Ae q] at hs
   exact h.env s y hs⟩
theorem Zbf {M0:Mem} {W0:World} {ro:Option Nat} {Q:AQ} {c:Code} (k:Nat) (hk:look e k=some (true,.list [] .full)) (h:CW P w0 n M0 W0 ro c Q ((k,true,.list [] .seed)::e) st):CW P w0 n M0 W0 ro c Q e st :=
 Iy _ _ (fun M a w b=>⟨M,.refl _ _ _,b.relabel k _ (by
  have:=b.env k _ hk
  simp only [entryOk,if_true] at this
  exact this.seed)⟩) h
theorem RelSt.setBox (h:RelSt w0 M st w) {l i:Nat} {cs:List AV} (hl:st.boxes[l]? = some cs) {x y:AV} (hi:cs[i]? = some x) (hone:y.one=true) (hR:∀ v,R w0 M w v x->R w0 M w v y) :
  RelSt w0 M { st with boxes:=st.boxes.set l (cs.set i y) } w:=by
 have b:l<st.boxes.length:=(Af.1 hl).1
 have f:i<cs.length:=(Af.1 hi).1
 refine ⟨h.below,by simp [h.N],h.NR,h.top,h.inj,fun d cs' hl'=>?_,h.row,h.rowinj,h.loop⟩
 by_cases q:d=l
 ·subst q
  rw [List.getElem?_set_self b] at hl'
  cases hl'
  obtain ⟨a1,a2,c,m,a3,a4,a5,a6⟩:=h.box d cs hl
  refine ⟨a1,a2,c,m,a3,by simp [a4],fun z a=>?_,fun j g k=>?_⟩
  ·rcases List.mem_or_eq_of_mem_set a with a | rfl
   ·exact a5 z a
   ·exact hone
  ·by_cases e:j=i
   ·subst e
    rw [List.getElem_set_self]
    obtain ⟨q1,q2⟩:=Af.1 hi
    exact hR _ (q2▸a6 j g q1)
   ·rw [List.getElem_set_ne (Ne.symm e)]
    exact a6 j g (by simpa using k)
 ·rw [List.getElem?_set_ne (Ne.symm q)] at hl'
  exact h.box d cs' hl'
theorem LW {M0:Mem} {W0:World} {ro:Option Nat} {Q:AQ} {c:Code} (l i:Nat) {cs:List AV} (hl:st.boxes[l]? = some cs) (hi:cs[i]? = some (.list [] .full)) (h:CW P w0 n M0 W0 ro c Q e { st with boxes:=st.boxes.set l (cs.set i (.list [] .seed)) }):CW P w0 n M0 W0 ro c Q e st :=
 Iy _ _ (fun M a w b=>⟨M,.refl _ _ _,b.st.setBox hl hi rfl (fun v hv=>hv.seed),b.size,b.env⟩) h
def M5 (sz:Nat) (ag:Bool) (cs:List AV) (o m:Nat):List AV:=(List.range m).map fun i=>OJ ag cs ((o+i)*sz) sz
theorem Xe (sz:Nat) (ag:Bool) (cs:List AV) (o m:Nat):(M5 sz ag cs o m).length=m:=by simp [M5]
def Mem.freeze (M:Mem) (id k:Nat):Mem:={ M with fr:=fun i=>if i=id then M.fr i+1 else M.fr i,top:=fun b=>if b=M.blk id then k else M.top b }
theorem RelSt.freeze (h:RelSt w0 M st w) {id ver sz:Nat} {cs:List AV} (hid:st.rows[id]? = some (.vec ver sz cs)) :
  Ext w0 M w (M.freeze id cs.length) w/\RelSt w0 (M.freeze id cs.length) { st with rows:=st.rows.set id (.dead (ver+1)) } w:=by
 have d:id<st.rows.length:=(Af.1 hid).1
 have a:id<M.NR:=by rw [h.NR];exact d
 obtain ⟨z,J,y,f4,p,O,K,c,r,o,Q,F,H,D⟩:=h.row id _ hid
 have f:Ext w0 M w (M.freeze id cs.length) w :=
  ⟨Nat.le_refl _,fun _ _=>rfl,Nat.le_refl _,fun i hi=>by
   simp only [Mem.freeze]
   by_cases q:i=id
   ·rw [Ad q];exact ⟨Nat.le_succ _,fun e=>absurd e (by omega)⟩
   ·rw [Ae q];exact ⟨Nat.le_refl _,fun _=>⟨trivial,trivial,trivial⟩⟩,fun b u v hi C=>⟨C,hi.imp (fun q=>q) fun q=>by
    simp only [Mem.freeze]
    split
    ·rename_i e;rw [e,f4] at q;omega
    ·exact q⟩,Nat.le_refl _,Nat.le_refl _,fun _ _=>rfl,fun _ j g=>absurd g (Nat.not_lt.2 j),fun _ _ h _ _=>h,fun b _ q=>⟨rfl,q,by
    simp only [Mem.freeze]
    rw [Ae (fun e=>q.2.1 id a e.symm)]⟩⟩
 refine ⟨f,h.below,h.N,by simp [Mem.freeze,h.NR],fun b E=>?_,h.inj,fun l cs' s=>?_,fun i x hi=>?_,h.rowinj,h.loop.mono f rfl (KeepsObj.refl _)⟩
 ·have G:=(Array.getElem?_eq_some_iff.1 o).1
  simp only [Mem.freeze]
  rw [Aa]
  exact h.top b E
 ·obtain ⟨a1,a2,c,r,a3,a4,a5,a6⟩:=h.box l cs' s
  have n:l<M.N:=by rw [h.N];exact (Af.1 s).1
  refine ⟨a1,?_,c,r,a3,a4,a5,fun i j g=>(a6 i j g).mono f⟩
  show (M.freeze id cs.length).top (M.bx l)=0
  simp only [Mem.freeze]
  rw [Ae (p l n)]
  exact a2
 ·by_cases q:i=id
  ·subst q
   rw [List.getElem?_set_self d] at hi
   cases hi
   exact ⟨by simp [Mem.freeze,z],y,p,(Array.getElem?_eq_some_iff.1 o).1⟩
  ·rw [List.getElem?_set_ne (Ne.symm q)] at hi
   have k:i<M.NR:=by rw [h.NR];exact (Af.1 hi).1
   have t:=h.row i x hi
   have m:M.blk i≠M.blk id:=fun e=>q (h.rowinj i id k a e)
   exact t.keep f (by simp [Mem.freeze,q]) rfl rfl rfl (by simp [Mem.freeze,m]) t.ne rfl
theorem R.freeze (h:RelSt w0 M st w) {id ver sz:Nat} {cs:List AV} (hid:st.rows[id]? = some (.vec ver sz cs)) {ag:Bool} (hag:ag=true\/sz=1) {o m:Nat} (hb:(o+m)*sz<=cs.length) {v:Value} (hv:R w0 M w v (.vec id ver o m)) :
  R w0 (M.freeze id cs.length) w v (.list (M5 sz ag cs o m) .none):=by
 obtain ⟨J,_⟩:=h.freeze hid
 obtain ⟨G,E,U,N,Q,V,O,c,H,F,Y,K,r,n⟩:=h.row id _ hid
 cases hv with
 | @vec _ _ _ _ p cap d hver hh =>
 obtain ⟨rfl,z,C⟩:=hh G.symm
 have s:(M5 sz ag cs o m).length=m:=Xe _ _ _ _ _
 have k:∀ i,i<m->(o+i)*sz+sz<=cs.length:=fun i d=>by
  have:(o+i+1)*sz<=(o+m)*sz:=Nat.mul_le_mul_right _ (by omega)
  rw [Nat.succ_mul] at this
  omega
 let us:Nat->Value:=fun i=>if ag then .agg ((List.range sz).map fun j=>c.getD ((o+i)*sz+j) undef).toArray else c.getD ((o+i)*sz) undef
 have u:∀ i,i<m->R w0 M w (us i) (OJ ag cs ((o+i)*sz) sz):=fun i d=>by
  refine PU (f:=fun j=>c.getD ((o+i)*sz+j) undef) r (k i d) hag (fun j l=>?_)
  have a:(o+i)*sz+j<c.size:=by omega
  rw [Array.getD_eq_getD_getElem?,Array.getElem?_eq_getElem a]
  exact n _ a l
 have g:∀ i,i<m->(us i).cells.size=sz/\∀ j,j<sz->(us i).cells[j]? = c[(o+i)*sz+j]? := fun i d=>by
  by_cases q:ag=true
  ·have e:us i = .agg ((List.range sz).map fun j=>c.getD ((o+i)*sz+j) undef).toArray:=by simp [us,q]
   rw [e]
   refine ⟨by simp [Value.cells],fun j l=>?_⟩
   have a:(o+i)*sz+j<c.size:=by have:=k i d;omega
   simp [Value.cells,l,Array.getElem?_eq_getElem a]
  ·have x:sz=1:=hag.resolve_left q
   have e:us i=c.getD ((o+i)*sz) undef:=by simp [us,q]
   have a:(o+i)*sz<c.size:=by have:=k i d;omega
   have y:(o+i)*sz<cs.length:=by have:=k i d;omega
   have t:=(n _ a y).cells_one (r _ (List.getElem_mem _))
   rw [e,Array.getD_eq_getD_getElem?,Array.getElem?_eq_getElem a,Option.getD_some,t.1]
   refine ⟨by simp [x],fun j l=>?_⟩
   obtain rfl:j=0:=by omega
   simp [Array.getElem?_eq_getElem a]
 have:=R.list (w0:=w0) (M:=M.freeze id cs.length) (w:=w) (b:=M.blk id) (off:=o*sz) (cap:=cap) (xs:=M5 sz ag cs o m) (o := .none) sz us (by rw [s];exact C) (by omega)
  (fun i d=>by
   rw [s] at d
   refine ⟨(g i d).1,fun j l=>⟨.inr ?_,?_⟩⟩
   ·have D:=k i d
    rw [Nat.add_mul] at D
    simp only [Mem.freeze,if_true]
    omega
   ·rw [(g i d).2 j l,Nat.add_mul,cell_of_row w _ _ c H _ F]) (fun i d=>by
   rw [s] at d
   simp only [M5,List.getElem_map,List.getElem_range]
   exact (u i d).mono J) trivial
 rw [s] at this
 rw [E]
 exact this
theorem XN {M0:Mem} {W0:World} {ro:Option Nat} {Q:AQ} {c:Code} (k:Nat) {id ver sz o m:Nat} {cs:List AV} (ag:Bool) (hk:look e k=some (true,.vec id ver o m)) (hid:Df st.rows id ver=some (sz,cs)) (hag:ag=true\/sz=1) (hb:(o+m)*sz<=cs.length)
  (h:CW P w0 n M0 W0 ro c Q ((k,true,.list (M5 sz ag cs o m) .none)::e) { st with rows:=st.rows.set id (.dead (ver+1)) }):CW P w0 n M0 W0 ro c Q e st :=
 Iy _ _ (fun M a w b=>by
  obtain ⟨d,f⟩:=b.st.freeze (DY hid)
  refine ⟨_,d,Rel.relabel ⟨f,b.size,fun s x hs=>(b.env s x hs).mono d⟩ k _ ?_⟩
  have:=b.env k _ hk
  simp only [entryOk,if_true] at this
  exact R.freeze b.st (DY hid) hag hb this) h
theorem NX {M0:Mem} {W0:World} {ro:Option Nat} {Q:AQ} {c:Code} (l i:Nat) {id ver sz o m:Nat} {bs cs:List AV} (ag:Bool) (hl:st.boxes[l]? = some bs) (hi:bs[i]? = some (.vec id ver o m)) (hid:Df st.rows id ver=some (sz,cs)) (hag:ag=true\/sz=1) (hb:(o+m)*sz<=cs.length)
  (h:CW P w0 n M0 W0 ro c Q e { st with boxes:=st.boxes.set l (bs.set i (.list (M5 sz ag cs o m) .none)),rows:=st.rows.set id (.dead (ver+1)) }):CW P w0 n M0 W0 ro c Q e st :=
 Iy _ _ (fun M a w d=>by
  obtain ⟨t,b⟩:=d.st.freeze (DY hid)
  have f:=d.st.box l bs hl
  obtain ⟨a1,a2,c,K,a3,a4,a5,a6⟩:=f
  obtain ⟨q1,q2⟩:=Af.1 hi
  have F:R w0 (M.freeze id cs.length) w (c[i]'(by omega)) (.list (M5 sz ag cs o m) .none):=R.freeze d.st (DY hid) hag hb (q2▸a6 i (by omega) q1)
  have r:l<st.boxes.length:=(Af.1 hl).1
  refine ⟨_,t,⟨b.below,by simpa using b.N,b.NR,b.top,b.inj,fun k cs' hl'=>?_,b.row,b.rowinj,b.loop⟩,d.size,fun s x hs=>(d.env s x hs).mono t⟩
  by_cases q:k=l
  ·subst q
   simp only [List.getElem?_set_self r,Option.some.injEq] at hl'
   subst hl'
   obtain ⟨J,G,v,g,u,y,D,C⟩:=b.box k bs hl
   have ec:v=c:=by
    have:=u.symm.trans a3
    simp only [Option.some.injEq,Obj.cells.injEq] at this
    exact this.1
   subst ec
   refine ⟨J,G,v,g,u,by simp [y],fun z p=>?_,fun j H E=>?_⟩
   ·rcases List.mem_or_eq_of_mem_set p with p | rfl
    ·exact D z p
    ·rfl
   ·by_cases e:j=i
    ·subst e
     rw [List.getElem_set_self]
     exact F
    ·rw [List.getElem_set_ne (Ne.symm e)]
     exact C j H (by simpa using E)
  ·simp only [List.getElem?_set_ne (Ne.symm q)] at hl'
   exact b.box k cs' hl') h
end
def AV.pubA:AV->AV
 | .tup vs => .tup (vs.map AV.pub)
 | .agg cs => .agg (cs.map AV.pubCell)
 | .list xs _ => .list xs .none
 | x=>x
section
variable (vs cs xs:List AV) (o:Own) (v:Value) (x:AV) (i j k m:Nat)
@[go_sem] theorem ZiP:AV.pubA (.tup vs) = .tup (vs.map AV.pub):=rfl
@[go_sem] theorem Ziq:AV.pubA (.agg cs) = .agg (cs.map AV.pubCell):=rfl
@[go_sem] theorem ZhD:AV.pubA (.list xs o) = .list xs .none:=rfl
@[go_sem] theorem JO:AV.pubA (.val v) = .val v:=rfl
@[go_sem] theorem Zh9:AV.pubA (.elem x i) = .elem x i:=rfl
@[go_sem] theorem Zjn:AV.pubA (.box i j) = .box i j:=rfl
@[go_sem] theorem ZiS:AV.pubA (.clo i xs) = .clo i xs:=rfl
@[go_sem] theorem Zi6:AV.pubA (.bnd i xs) = .bnd i xs:=rfl
@[go_sem] theorem Zjp:AV.pubA (.yld i) = .yld i:=rfl
@[go_sem] theorem Zj3:AV.pubA (.mp i) = .mp i:=rfl
@[go_sem] theorem Zik (l:List (Int × FuncId)):AV.pubA (.tab l) = .tab l:=rfl
@[go_sem] theorem ZiY:AV.pubA (.vec i j k m) = .vec i j k m:=rfl
@[go_sem] theorem Zjf:AV.pubA (.vel i j k) = .vel i j k:=rfl
@[go_sem] theorem ZjE:AV.pub (.agg cs) = .agg (cs.map AV.pubCell):=rfl
@[go_sem] theorem Zjx:AV.pub (.list xs o) = .list xs .none:=rfl
@[go_sem] theorem ZjY:AV.pub (.val v) = .val v:=rfl
@[go_sem] theorem Zju:AV.pub (.elem x i) = .elem x i:=rfl
@[go_sem] theorem ZjW:AV.pub (.box i j) = .box i j:=rfl
@[go_sem] theorem Zkm:AV.pub (.clo i xs) = .clo i xs:=rfl
@[go_sem] theorem ZjT:AV.pub (.bnd i xs) = .bnd i xs:=rfl
@[go_sem] theorem Zkq:AV.pub (.yld i) = .yld i:=rfl
@[go_sem] theorem ZkF:AV.pub (.mp i) = .mp i:=rfl
@[go_sem] theorem ZjQ (l:List (Int × FuncId)):AV.pub (.tab l) = .tab l:=rfl
@[go_sem] theorem Zkd:AV.pub (.vec i j k m) = .vec i j k m:=rfl
@[go_sem] theorem ZjN:AV.pub (.vel i j k) = .vel i j k:=rfl
@[go_sem] theorem Zd9:AV.pubCell (.list xs o) = .list xs .none:=rfl
@[go_sem] theorem ZfA:AV.pubCell (.val v) = .val v:=rfl
@[go_sem] theorem ZeX:AV.pubCell (.elem x i) = .elem x i:=rfl
@[go_sem] theorem ZfM:AV.pubCell (.box i j) = .box i j:=rfl
@[go_sem] theorem ZfP:AV.pubCell (.clo i xs) = .clo i xs:=rfl
@[go_sem] theorem ZfR:AV.pubCell (.bnd i xs) = .bnd i xs:=rfl
@[go_sem] theorem ZfY:AV.pubCell (.yld i) = .yld i:=rfl
@[go_sem] theorem Zgs:AV.pubCell (.mp i) = .mp i:=rfl
@[go_sem] theorem ZfL (l:List (Int × FuncId)):AV.pubCell (.tab l) = .tab l:=rfl
@[go_sem] theorem Zfr:AV.pubCell (.vec i j k m) = .vec i j k m:=rfl
@[go_sem] theorem ZfH:AV.pubCell (.vel i j k) = .vel i j k:=rfl
end
theorem R.pubA {w0:World} {M:Mem} {w:World} {v:Value} {x:AV} (h:R w0 M w v x):R w0 M w v x.pubA:=by
 cases h with
 | tup hl h=>exact .tup (by simpa using hl) (fun i a b=>by simp only [List.getElem_map];exact (h i a (by simpa using b)).pub)
 | flat hf=>exact (R.flat hf).pub
 | agg hl h1 h=>exact (R.agg hl h1 h).pub
 | nil ho=>exact (R.nil ho).pub
 | emp ho=>exact (R.emp ho).pub
 | list sz us hc hm hcell hu ho=>exact (R.list sz us hc hm hcell hu ho).pub
 | elem u k hcell hu=>exact (R.elem u k hcell hu).pub
 | box hl=>exact (R.box hl).pub
 | clo hl h=>exact (R.clo hl h).pub
 | bnd hl h=>exact (R.bnd hl h).pub
 | yld hk=>exact (R.yld hk).pub
 | mp hk=>exact (R.mp hk).pub
 | tab h hk hn=>exact (R.tab h hk hn).pub
 | vec hi hv h=>exact (R.vec hi hv h).pub
 | vel hi hv h=>exact (R.vel hi hv h).pub
section
variable {P:Program} {w0:World} {st:St} {f:FuncId}
theorem ACalls.pub {args args':List AV} {Post:AV->St->Prop} (h:ACalls P w0 f args' st Post) (he:args.map AV.pubA=args'):ACalls P w0 f args st Post:=by
 subst he
 refine ⟨h.1,fun M w d e c=>h.2 M w d e ?_⟩
 obtain ⟨j,g⟩:=c
 refine ⟨by simpa using j,fun i a b=>?_⟩
 simp only [List.getElem_map]
 exact (g i a (by simpa using b)).pubA
theorem Aq {c d:Bool} {cs args args':List AV} {k:AV->St->Prop} (v:AV)
  (h:ACalls P w0 f args' st fun r s=>r=v/\s=st) (he:(args++cs).map AV.pubA=args') (hk:k v st):I2 P w0 c d (.clo f cs) args st k := .inl ⟨v,fun _=>h.pub he,hk⟩
theorem GB {c d:Bool} {cs args args':List AV} {k:AV->St->Prop} (v:AV)
  (h:c=true->ACalls P w0 f args' st fun r s=>r=v/\s=st) (he:(args++cs).map AV.pubA=args') (hk:k v st):I2 P w0 c d (.clo f cs) args st k := .inl ⟨v,fun q=>(h q).pub he,hk⟩
theorem Bm {cs args args':List AV} {k:AV->St->Prop} (Post:AV->St->Prop)
  (h:ACalls P w0 f args' st Post) (he:(args++cs).map AV.pubA=args') (hk:∀ v s,Post v s->k v s):I2 P w0 true false (.clo f cs) args st k := .inr ⟨rfl,Post,fun _=>h.pub he,fun v s a _=>hk v s (a rfl)⟩
def finP (st:St) (Post:AV->St->Prop) (r:AV) (s:St):Prop :=
 st.boxes.length<=s.boxes.length/\st.rows.length<=s.rows.length/\st.loops.length<=s.loops.length/\Calm st.boxes.length st.rows.length st.loops.length (s.cut st.boxes.length st.rows.length st.loops.length) /\
  Under st.boxes.length st.rows.length st.loops.length r.pubA/\Post r.pubA (s.cut st.boxes.length st.rows.length st.loops.length)
theorem ACalls.finP {args:List AV} {Post:AV->St->Prop} (h:ACalls P w0 f args st (finP st Post)):ACalls P w0 f args st Post:=by
 refine ⟨h.1,fun M w c a b=>(h.2 M w c a b).mono ?_⟩
 rintro en n ⟨v,M',r,i,m,⟨g,d,e,k,l,j⟩,h3,h4,h5⟩
 exact ⟨v,M'.cut st.boxes.length st.rows.length st.loops.length,r.pubA,_,m,j,h3.cut (by have:=a.N;omega) (by have:=a.NR;omega) (by have:=a.loop.NL;omega) (by rw [h4.loop.NL];exact e) (by rw [h4.N];exact g) (by rw [h4.NR];exact d),h4.cut g d e k,h5.pubA.cut (by have:=h4.loop.NL;omega) l⟩
def finN (k:Nat) (st:St) (Post:AV->St->Prop) (r:AV) (s:St):Prop :=
 st.boxes.length+k<=s.boxes.length/\st.rows.length<=s.rows.length/\st.loops.length<=s.loops.length/\Calm (st.boxes.length+k) st.rows.length st.loops.length (s.cut (st.boxes.length+k) st.rows.length st.loops.length) /\
  Under (st.boxes.length+k) st.rows.length st.loops.length r/\Post r (s.cut (st.boxes.length+k) st.rows.length st.loops.length)
theorem ACalls.finN (k:Nat) {args:List AV} {Post:AV->St->Prop} (h:ACalls P w0 f args st (Go.Ev.finN k st Post)):ACalls P w0 f args st Post:=by
 refine ⟨h.1,fun M w c a b=>(h.2 M w c a b).mono ?_⟩
 rintro en o ⟨v,M',r,i,n,⟨g,d,e,l,m,j⟩,h3,h4,h5⟩
 exact ⟨v,M'.cut (st.boxes.length+k) st.rows.length st.loops.length,r,_,n,j,h3.cut (by have:=a.N;omega) (by have:=a.NR;omega) (by have:=a.loop.NL;omega) (by rw [h4.loop.NL];exact e) (by rw [h4.N];exact g) (by rw [h4.NR];exact d),h4.cut g d e l,h5.cut (by have:=h4.loop.NL;omega) m⟩
theorem JG {B:List (List AV)} {Rw:List RowA} {L:List LoopA} {s:St} {Post:AV->St->Prop} {v:AV} (hc:Ev.Calm B.length Rw.length L.length ⟨B,Rw,L⟩) (h1:B <+: s.boxes) (h2:Rw <+: s.rows) (h3:L <+: s.loops) (hu:Under B.length Rw.length L.length v.pubA) (hp:Post v.pubA ⟨B,Rw,L⟩) :
  Go.Ev.finP ⟨B,Rw,L⟩ Post v s:=by
 obtain ⟨b,e1⟩:=h1
 obtain ⟨r,e2⟩:=h2
 obtain ⟨l,e3⟩:=h3
 obtain ⟨c,a,d⟩:=s
 simp only at e1 e2 e3
 subst e1 e2 e3
 have e:St.cut ⟨B++b,Rw++r,L++l⟩ B.length Rw.length L.length=⟨B,Rw,L⟩:=by simp [St.cut]
 exact ⟨by simp,by simp,by simp,by simp only [e];exact hc,hu,by simp only [e];exact hp⟩
end
@[go_sem] theorem ZfB (xs c:List AV) (h:xs.length=c.length):BH xs 0 c=c:=by simp [BH,h]
section
universe u v
variable {α:Type u} {β:Type v} {r:β}
theorem Ak {c:Prop} [Decidable c] {x:Option β} (h:(if c then x else none)=some r):c/\x=some r:=by
 by_cases q:c
 ·rw [Ad q] at h;exact ⟨q,h⟩
 ·rw [Ae q] at h;cases h
theorem bind_some {o:Option α} {f:α->Option β} (h:o.bind f=some r):∃ x,o=some x/\f x=some r:=by
 cases o with
 | none=>cases h
 | some x=>exact ⟨x,rfl,h⟩
theorem BO {b:Bool} {x y:β} (h:(if b=true then x else y)=r) (hb:b=true):x=r:=by rwa [Ad hb] at h
theorem BP {b:Bool} {x y:β} (h:(if b=true then x else y)=r) (hb:b=false):y=r:=by rwa [Ae (by simp [hb])] at h
def D1 (xs:List α) (i:Int):Option α:=if 0<=i then xs[i.toNat]? else none
theorem Bo {xs:List α} {i:Int} {x:α} (h:D1 xs i=some x):0<=i/\i<xs.length/\xs[i.toNat]? = some x:=by
 unfold D1 at h
 obtain ⟨b,a⟩:=Ak h
 have:=(Af.1 a).1
 exact ⟨b,by omega,a⟩
theorem Bq {f:α->AV} {xs:List α} {i:Nat} {x:α} (h:xs[i]? = some x):(xs.map f).getD i .junk=f x:=by simp [List.getD,h]
end
abbrev B1 (n:Int):Prop := -9223372036854775808<=n/\n<=9223372036854775807
theorem BQ {nb nr nl nb' nr' nl':Nat} {x:AV} (h1:nb<=nb') (h2:nr<=nr') (h3:nl<=nl') (h:Under nb nr nl x):Under nb' nr' nl' x:=by
 induction h with
 | val v=>exact .val v
 | list h ho ih=>exact .list ih (by rename_i o;cases o<;>first | trivial | exact Nat.lt_of_lt_of_le ho h2)
 | elem h ih=>exact .elem ih
 | box h=>exact .box (by omega)
 | clo h ih=>exact .clo ih
 | bnd h ih=>exact .bnd ih
 | agg h ih=>exact .agg ih
 | tup h ih=>exact .tup ih
 | yld h=>exact .yld (by omega)
 | mp h=>exact .mp (by omega)
 | tab=>exact .tab
 | vec h=>exact .vec (by omega)
 | vel h=>exact .vel (by omega)
def OwnsAt (lo:Nat) (ho:Own) (rows:Am) (x:Nat × Nat × Own):Prop:=x.2.2 = .full\/∃ id,x.2.2 = .row id/\(lo<=id\/ho = .row id)/\rows[id]? = some (.grow x.2.1 x.1)
inductive VO where
 | nil
 | row (id ver:Nat)
def Gk:VO->Nat->AV
 | .nil,_ => .list [] .seed
 | .row id ver,n => .vec id ver 0 n
abbrev VE:=VO × Nat × List AV
def VAt (lo:Nat) (ho:Own) (rows:Am) (x:VE):Prop:=(x.1 = .nil/\x.2.2=[])\/∃ id ver,x.1 = .row id ver/\(lo<=id\/ho = .row id)/\rows[id]? = some (.vec ver x.2.1 x.2.2)
def VS (v:List VE) (i:Nat):Prop:=∀ x∈v,∀ ver,x.1 ≠ .row i ver
theorem Xb (i:Nat):VS [] i:=fun _ h=>(nomatch h)
structure Owns (Rw rows:Am) (l:List (Nat × Nat × Own)) (ho:Own := .none) (v:List VE:=[]):Prop where
 len:Rw.length<=rows.length
 keep:∀ i,i<Rw.length->ho ≠ .row i->rows[i]? = Rw[i]?
 calm:∀ i r,rows[i]? = some r->(Rw.length<=i\/ho = .row i)->VS v i->r.cells=[]
 each:∀ x∈l,OwnsAt Rw.length ho rows x
 apart:l.Pairwise fun x y=>∀ id,x.2.2 = .row id->y.2.2 ≠ .row id
 veach:∀ x∈v,VAt Rw.length ho rows x
 vapart:v.Pairwise fun x y=>∀ id a b,x.1 = .row id a->y.1 ≠ .row id b
section
variable {Rw rows:List RowA} {l:List (Nat × Nat × Own)} {ho:Own} {v:List VE}
theorem Owns.none (Rw:Am):Owns Rw Rw []:=by
 refine ⟨Nat.le_refl _,fun _ _ _=>rfl,fun i r h q _=>?_,by simp,.nil,by simp,.nil⟩
 have:=(Af.1 h).1
 rcases q with q | q
 ·omega
 ·cases q
theorem Owns.pre (h:Owns Rw rows l .none v):Rw <+: rows:=by
 rw [List.prefix_iff_getElem?]
 intro i hi
 rw [h.keep i hi (fun q=>by cases q),List.getElem?_eq_getElem hi]
theorem Owns.sub {l':List (Nat × Nat × Own)} (h:Owns Rw rows l ho v) (hs:l'.Sublist l):Owns Rw rows l' ho v :=
 ⟨h.len,h.keep,h.calm,fun x a=>h.each x (hs.subset a),h.apart.sublist hs,h.veach,h.vapart⟩
theorem Owns.full (h:Owns Rw rows l ho v) (sz n:Nat):Owns Rw rows ((sz,n,.full)::l) ho v :=
 ⟨h.len,h.keep,h.calm,fun x hx=>by
  rcases List.mem_cons.1 hx with rfl | hx
  ·exact .inl rfl
  ·exact h.each x hx,List.pairwise_cons.2 ⟨fun _ _ id q=>(nomatch q),h.apart⟩,h.veach,h.vapart⟩
theorem VAt.up {lo:Nat} {x:VE} (h:VAt lo ho rows x) (r:Am):VAt lo ho (rows++r) x:=by
 rcases h with h | ⟨id,ver,h1,h2,h3⟩
 ·exact .inl h
 ·exact .inr ⟨id,ver,h1,h2,by rw [List.getElem?_append_left (Af.1 h3).1];exact h3⟩
theorem VAt.set {lo:Nat} {x:VE} (h:VAt lo ho rows x) {i:Nat} (hi:∀ ver,x.1 ≠ .row i ver) (r:RowA):VAt lo ho (rows.set i r) x:=by
 rcases h with h | ⟨id,ver,h1,h2,h3⟩
 ·exact .inl h
 ·exact .inr ⟨id,ver,h1,h2,by rw [List.getElem?_set_ne (fun (e:i=id)=>hi ver (by rw [e];exact h1))];exact h3⟩
theorem Owns.make (h:Owns Rw rows l ho v) (sz n:Nat):Owns Rw (rows++[.grow n sz]) ((sz,n,.row rows.length)::l) ho v:=by
 have e:=h.len
 refine ⟨by simp;omega,fun i b c=>?_,fun i r a q d=>?_,fun x hx=>?_,List.pairwise_cons.2 ⟨fun y f id q k=>?_,h.apart⟩,fun x hx=>(h.veach x hx).up _,h.vapart⟩
 ·rw [List.getElem?_append_left (by omega)];exact h.keep i b c
 ·by_cases b:i<rows.length
  ·rw [List.getElem?_append_left b] at a;exact h.calm i r a q d
  ·rw [List.getElem?_append_right (by omega)] at a
   have:=List.mem_of_getElem? a
   simp only [List.mem_singleton] at this;subst this;rfl
 ·rcases List.mem_cons.1 hx with rfl | hx
  ·exact .inr ⟨_,rfl,.inl e,by simp⟩
  ·rcases h.each x hx with q | ⟨id,q1,q2,q3⟩
   ·exact .inl q
   ·exact .inr ⟨id,q1,q2,by rw [List.getElem?_append_left (Af.1 q3).1];exact q3⟩
 ·rcases h.each y f with q' | ⟨id',q1,q2,q3⟩
  ·rw [q'] at k;cases k
  ·rw [q1] at k;cases k;cases q
   exact absurd (Af.1 q3).1 (Nat.lt_irrefl _)
theorem Owns.unders (h:Owns Rw rows l ho v):∀ x∈l,x.2.2.under rows.length:=fun x a=>by
 rcases h.each x a with q | ⟨id,q1,q2,q3⟩
 ·rw [q];trivial
 ·rw [q1];exact (Af.1 q3).1
theorem Owns.of_eq {l':List (Nat × Nat × Own)} (h:Owns Rw rows l ho v) (he:l=l'):Owns Rw rows l' ho v:=he▸h
theorem Owns.swap {l':List (Nat × Nat × Own)} (h:Owns Rw rows l ho v) (hp:l.Perm l'):Owns Rw rows l' ho v :=
 ⟨h.len,h.keep,h.calm,fun x c=>h.each x (hp.mem_iff.2 c),(hp.pairwise_iff (R:=fun x y:Nat × Nat × Own=>∀ id,x.2.2 = .row id->y.2.2 ≠ .row id) (fun q id a b=>q id b a)).1 h.apart,h.veach,h.vapart⟩
theorem Owns.grow_off (h:Owns Rw rows l ho v) {sz n id:Nat} (hx:(sz,n,Own.row id)∈l):VS v id:=by
 intro x hv a e
 rcases h.each _ hx with q | ⟨id',q1,q2,q3⟩
 ·cases q
 ·cases q1
  rcases h.veach x hv with w | ⟨id2,ver2,w1,w2,w3⟩
  ·rw [w.1] at e;cases e
  ·rw [w1] at e;cases e
   rw [w3] at q3;cases q3
end
theorem L1 {Rw rows:List RowA} (h:Rw <+: rows) {id:Nat} (hi:Rw.length<=id) (x:RowA):Rw <+: rows.set id x:=by
 obtain ⟨t,rfl⟩:=h
 rw [List.set_append_right _ _ hi]
 exact List.prefix_append _ _
theorem Owns.more {Rw rows:List RowA} {l:List (Nat × Nat × Own)} {ho:Own} {v:List VE} {sz n id:Nat} (h:Owns Rw rows ((sz,n,.row id)::l) ho v) (m:Nat):Owns Rw (rows.set id (.grow m sz)) ((sz,m,.row id)::l) ho v:=by
 have b:=h.grow_off (List.mem_cons_self ..)
 obtain ⟨u,s,f,d,k,t,j⟩:=h
 obtain ⟨hid,hrow⟩:(Rw.length<=id\/ho = .row id)/\rows[id]? = some (.grow n sz):=by
  rcases d _ (List.mem_cons_self ..) with q | ⟨id',q1,q2,q3⟩
  ·cases q
  ·cases q1;exact ⟨q2,q3⟩
 have a:=(Af.1 hrow).1
 obtain ⟨p1,p2⟩:=List.pairwise_cons.1 k
 refine ⟨by simpa using u,fun i g c=>?_,fun i r hr q o=>?_,fun x hx=>?_,List.pairwise_cons.2 ⟨fun y p=>p1 y p,p2⟩,fun x hx=>(t x hx).set (b x hx) _,j⟩
 ·have:id≠i:=by
   rintro rfl
   rcases hid with q | q
   ·omega
   ·exact c q
  rw [List.getElem?_set_ne this];exact s i g c
 ·by_cases e:id=i
  ·subst e
   rw [List.getElem?_set_self a] at hr
   cases hr;rfl
  ·rw [List.getElem?_set_ne e] at hr;exact f i r hr q o
 ·rcases List.mem_cons.1 hx with rfl | hx
  ·exact .inr ⟨id,rfl,hid,by simp [a]⟩
  ·rcases d x (List.mem_cons_of_mem _ hx) with q | ⟨id',q1,q2,q3⟩
   ·exact .inl q
   ·have:id'≠id:=fun e=>p1 x hx id rfl (e▸q1)
    exact .inr ⟨id',q1,q2,by rw [List.getElem?_set_ne (Ne.symm this)];exact q3⟩
theorem Owns.inV {Rw rows:List RowA} {l:List (Nat × Nat × Own)} {ho:Own} {v:List VE} (h:Owns Rw rows l ho v) {i:Nat} {r:RowA} (hr:rows[i]? = some r) (hi:¬ VS v i):∃ x∈v,r.cells=x.2.2/\(Rw.length<=i\/ho = .row i):=by
 simp only [VS,ne_eq,Classical.not_forall,Classical.not_not] at hi
 obtain ⟨x,a,b,e⟩:=hi
 rcases h.veach x a with w | ⟨id,ver',w1,w2,w3⟩
 ·rw [w.1] at e;cases e
 ·rw [w1] at e;cases e
  rw [w3] at hr;cases hr
  exact ⟨x,a,rfl,w2⟩
theorem Owns.rowsCalm {Rw rows:List RowA} {l:List (Nat × Nat × Own)} {ho:Own} {v:List VE} (h:Owns Rw rows l ho v) {nb nb' nl:Nat} (hb:nb<=nb') (hc:∀ r∈Rw,∀ x∈r.cells,Under nb Rw.length nl x) (hv:∀ x∈v,∀ y∈x.2.2,Under nb' rows.length nl y:=by intro x hx;cases hx):∀ r∈rows,∀ x∈r.cells,Under nb' rows.length nl x:=fun r d x hx=>by
 obtain ⟨i,c,rfl⟩:=List.mem_iff_getElem.1 d
 have b:rows[i]? = some rows[i]:=List.getElem?_eq_getElem c
 by_cases qv:VS v i
 case neg =>
  obtain ⟨y,f,e,_⟩:=h.inV b qv
  rw [e] at hx
  exact hv y f x hx
 by_cases q:Rw.length<=i\/ho = .row i
 ·rw [h.calm i _ b q qv] at hx;cases hx
 ·have a:i<Rw.length:=by omega
  have:=h.keep i a (fun e=>q (.inr e))
  rw [b,List.getElem?_eq_getElem a] at this
  rw [Option.some.inj this] at hx
  exact BQ hb h.len (Nat.le_refl _) (hc _ (List.getElem_mem a) x hx)
theorem Owns.call {Rw rows rows':List RowA} {l:List (Nat × Nat × Own)} {ho o o':Own} {v:List VE} {sz n n':Nat} (h:Owns Rw rows ((sz,n,o)::l) ho v) (hc:Owns rows rows' [(sz,n',o')] o):Owns Rw rows' ((sz,n',o')::l) ho v:=by
 have d:=h.each _ (List.mem_cons_self ..)
 have b:∀ i,o = .row i->VS v i:=fun i e=>h.grow_off (sz:=sz) (n:=n) (by rw [<-e];exact List.mem_cons_self ..)
 obtain ⟨p1,p2⟩:=List.pairwise_cons.1 h.apart
 have c:∀ i,o = .row i->(Rw.length<=i\/ho = .row i)/\i<rows.length:=fun i e=>by
  rcases d with q | ⟨id,q1,q2,q3⟩
  ·simp only at q;rw [e] at q;cases q
  ·simp only at q1;rw [e] at q1;cases q1
   exact ⟨q2,(Af.1 q3).1⟩
 have s:=h.len
 have t:=hc.len
 have a:=hc.each _ (List.mem_cons_self ..)
 refine ⟨by omega,fun i m g=>?_,fun i r f q p=>?_,fun x hxm=>?_,List.pairwise_cons.2 ⟨fun y j id e=>?_,p2⟩,fun x d=>?_,h.vapart⟩
 ·have:o ≠ .row i:=fun e=>by
   rcases (c i e).1 with q | q
   ·omega
   ·exact g q
  rw [hc.keep i (by omega) this];exact h.keep i m g
 ·by_cases e:rows.length<=i\/o = .row i
  ·exact hc.calm i r f e (Xb i)
  ·rw [hc.keep i (by omega) (fun k=>e (.inr k))] at f
   exact h.calm i r f q p
 ·rcases List.mem_cons.1 hxm with rfl | hxm
  ·rcases a with q | ⟨id,q1,q2,q3⟩
   ·exact .inl q
   ·refine .inr ⟨id,q1,?_,q3⟩
    rcases q2 with q2 | q2
    ·exact .inl (by omega)
    ·exact (c id q2).1
  ·rcases h.each x (List.mem_cons_of_mem _ hxm) with q | ⟨id,q1,q2,q3⟩
   ·exact .inl q
   ·refine .inr ⟨id,q1,q2,?_⟩
    rw [hc.keep id (Af.1 q3).1 (fun e=>p1 x hxm id e q1)]
    exact q3
 ·intro k
  rcases a with q | ⟨id',q1,q2,q3⟩
  ·simp only at q e;rw [q] at e;cases e
  ·simp only at q1 e
   rw [q1] at e;cases e
   rcases q2 with q2 | q2
   ·rcases h.each y (List.mem_cons_of_mem _ j) with w | ⟨id,w1,w2,w3⟩
    ·rw [w] at k;cases k
    ·rw [w1] at k;cases k
     have:=(Af.1 w3).1
     omega
   ·exact p1 y j _ q2 k
 ·rcases h.veach x d with w | ⟨id,ver,w1,w2,w3⟩
  ·exact .inl w
  ·refine .inr ⟨id,ver,w1,w2,?_⟩
   rw [hc.keep id (Af.1 w3).1 (fun e=>b id e x d ver w1)]
   exact w3
theorem Owns.append {P:Program} {t el:TypeId} {sz by8 n:Nat} {ag:Bool} {Rw rows:List RowA} {l:List (Nat × Nat × Own)} {o ho:Own} {v:List VE} (h:Owns Rw rows ((sz,n,o)::l) ho v) (he:GN P t=some (el,sz,ag,by8)) (hz:(Bv P el).isSome=true) (hs:0<sz) (m:Nat)
  (hb:(n+m)*by8<=140737488355328) (hb2:n+m<=4611686018427387904):∃ o' rows',Owns Rw rows' ((sz,n+m,o')::l) ho v /\
   ∀ (xs ys:List AV) (B:Aj) (L:An) (o2:Own),xs.length=n->ys.length=m->(∀ y∈xs,y.cells.length=sz) ->
    BE P ⟨B,rows,L⟩ t (.list xs o) (.list ys o2)=((∀ y∈ys,y.cells.length=sz/\A9 y=true),.list (xs++ys.map AV.pub) o',⟨B,rows',L⟩):=by
 have b:∀ (ys:List AV),ys.length=m->Cc P el sz by8 n ys=(∀ y∈ys,y.cells.length=sz/\A9 y=true):=by
  intro ys f
  simp only [Cc,hs,hz,f,hb,hb2,true_and]
 rcases h.each _ (List.mem_cons_self ..) with q | ⟨id,q1,q2,q3⟩
 ·simp only at q;subst q
  have e:=h.sub (List.sublist_cons_self _ _)
  by_cases hm:m=0
  ·subst hm
   refine ⟨.full,rows,e.full _ _,fun xs ys B L o2 d a c=>?_⟩
   have:ys=[]:=List.length_eq_zero_iff.1 a
   subst this
   simp [BE,he,Be,BG,hs]
  ·refine ⟨.row rows.length,rows++[.grow (n+m) sz],e.make _ _,fun xs ys B L o2 d a c=>?_⟩
   simp only [BE,he,Be,BG]
   rw [Aa,d,b ys a,a]
   simp only [true_and,Prod.mk.injEq,eq_iff_iff,and_true]
   exact ⟨fun q=>q.1,fun q=>⟨q,c⟩⟩
 ·simp only at q1;subst q1
  refine ⟨.row id,_,h.more (n+m),fun xs ys B L o2 d a c=>?_⟩
  simp only [BE,he,Be,BG]
  rw [d,b ys a,a]
  simp only [true_and,Prod.mk.injEq,eq_iff_iff,and_true]
  exact ⟨fun q=>q.1,fun q=>⟨q,c,q3⟩⟩
theorem Xd {α:Type} {xs:List α} {i:Nat} {x:α} (h:xs[i]? = some x):xs.drop i=x::xs.drop (i+1):=by
 obtain ⟨a,rfl⟩:=Af.1 h
 exact List.drop_eq_getElem_cons a
theorem Dy {M1:Mem} {B bs bs' XB:List (List AV)} {Rw rows rows':List RowA} {L XL lp:List LoopA} {la:LoopA} {l l':List (Nat × Nat × Own)} {oh:Own} (hra:RoundAt M1 ((St.push ⟨B++bs,rows,L⟩ la).ext ⟨XB,[],XL⟩)) (ho:Owns Rw rows l oh) (ho':Owns Rw rows' l' oh) (hlen:bs'.length=bs.length) (hr:rows.length<=rows'.length)
  (hlp:lp=(L++[la])++XL) (hbs:∀ cs∈bs',∀ x∈cs,Under (B.length+bs.length+XB.length) rows'.length lp.length x):Calm ((B++bs).length+XB.length) rows'.length lp.length ⟨(B++bs')++XB,rows',lp⟩:=by
 subst hlp
 have b:=hra.calm
 simp only [St.ext,St.push,List.append_nil] at b
 have e:((B++bs)++XB).length=(B++bs).length+XB.length:=List.length_append
 rw [e] at b
 refine ⟨fun r h x hx=>?_,fun cs h x hx=>?_,fun a g k x hx n=>BQ (Nat.le_refl _) hr (Nat.le_refl _) (b.loops a g k x hx n)⟩
 ·obtain ⟨i,j,rfl⟩:=List.mem_iff_getElem.1 h
  have f:rows'[i]? = some rows'[i]:=List.getElem?_eq_getElem j
  by_cases q:Rw.length<=i\/oh = .row i
  ·rw [ho'.calm i _ f q (Xb i)] at hx;cases hx
  ·have c:i<Rw.length:=by omega
   have d:=ho'.keep i c (fun e=>q (.inr e))
   have m:=ho.keep i c (fun e=>q (.inr e))
   rw [f,<-m] at d
   exact BQ (Nat.le_refl _) hr (Nat.le_refl _) (b.rows _ (List.mem_of_getElem? d.symm) x hx)
 ·rcases List.mem_append.1 h with h | h
  ·rcases List.mem_append.1 h with h | h
   ·exact BQ (Nat.le_refl _) hr (Nat.le_refl _) (b.boxes cs (by simp [h]) x hx)
   ·have:=hbs cs h x hx
    rwa [List.length_append]
  ·exact BQ (Nat.le_refl _) hr (Nat.le_refl _) (b.boxes cs (by simp [h]) x hx)
section
variable {P:Program} {w0:World} {n:Nat} {e:Env} {st:St} {M0:Mem} {W0:World} {ro:Option Nat} {Q:AQ} {c:Code}
theorem ZeY (k:Nat) {a:AV} (hk:look e k=some (true,a)) (h:CW P w0 n M0 W0 ro c Q ((k,true,a.pub)::e) st):CW P w0 n M0 W0 ro c Q e st :=
 Iy _ _ (fun M _ w b=>⟨M,.refl _ _ _,b.relabel k _ (by
  have:=b.env k _ hk
  simp only [entryOk,if_true] at this
  exact this.pub)⟩) h
theorem Q7 (l i:Nat) {cs:List AV} {x:AV} (hl:st.boxes[l]? = some cs) (hi:cs[i]? = some x) (h1:x.one=true) (h:CW P w0 n M0 W0 ro c Q e { st with boxes:=st.boxes.set l (cs.set i x.pubCell) }):CW P w0 n M0 W0 ro c Q e st :=
 Iy _ _ (fun M _ w a=>⟨M,.refl _ _ _,a.st.setBox hl hi (by rw [AV.one_pubCell];exact h1) (fun v hv=>hv.pubCell),a.size,a.env⟩) h
theorem RelSt.pubBox {M:Mem} {w:World} (h:RelSt w0 M st w) {l:Nat} {cs:List AV} (hl:st.boxes[l]? = some cs):RelSt w0 M { st with boxes:=st.boxes.set l (cs.map AV.pubCell) } w:=by
 have a:l<st.boxes.length:=(Af.1 hl).1
 refine ⟨h.below,by simp [h.N],h.NR,h.top,h.inj,fun b cs' hl'=>?_,h.row,h.rowinj,h.loop⟩
 by_cases q:b=l
 ·subst q
  rw [List.getElem?_set_self a] at hl'
  cases hl'
  obtain ⟨a1,a2,c,f,a3,a4,a5,a6⟩:=h.box b cs hl
  refine ⟨a1,a2,c,f,a3,by simp [a4],fun z e=>?_,fun j i d=>?_⟩
  ·obtain ⟨y,g,rfl⟩:=List.mem_map.1 e
   rw [AV.one_pubCell];exact a5 y g
  ·simp only [List.getElem_map]
   exact (a6 j i (by simpa using d)).pubCell
 ·rw [List.getElem?_set_ne (Ne.symm q)] at hl'
  exact h.box b cs' hl'
theorem Ia (l:Nat) {cs cs':List AV} (hl:st.boxes[l]? = some cs) (he:cs.map AV.pubCell=cs') (h:CW P w0 n M0 W0 ro c Q e { st with boxes:=st.boxes.set l cs' }):CW P w0 n M0 W0 ro c Q e st:=by
 subst he
 exact Iy _ _ (fun M _ w a=>⟨M,.refl _ _ _,a.st.pubBox hl,a.size,a.env⟩) h
theorem VA {a:AV} {xs:List AV} (h:a.pub = .list xs .none):∃ o,a = .list xs o:=by
 cases a<;>simp only [AV.pub,reduceCtorEq] at h
 ·cases h;exact ⟨_,rfl⟩
theorem Ef (l i:Nat) {cs:List AV} {a:AV} {xs:List AV} (hl:st.boxes[l]? = some cs) (hi:cs[i]? = some a) (ha:a.pub = .list xs .none) (h:CW P w0 n M0 W0 ro c Q e { st with boxes:=st.boxes.set l (cs.set i (.list xs .none)) }):CW P w0 n M0 W0 ro c Q e st:=by
 obtain ⟨o,rfl⟩:=VA ha
 exact Q7 l i hl hi rfl h
theorem BJ {nb nr nl:Nat} {f:FuncId} {cs:List AV} (h:Under nb nr nl (.clo f cs)):∀ nb' nr' nl',nb<=nb'->nr<=nr'->nl<=nl'->∀ x∈cs,Under nb' nr' nl' x :=
 fun _ _ _ b a d x c=>BQ b a d (QI.1 h x c)
theorem Va {B0 B bs X:List (List AV)} {Rw rows:List RowA} {L l':List LoopA} {l:List (Nat × Nat × Own)} {oh:Own} {v:List VE} (hN:M0.N=B0.length) (hNR:M0.NR=Rw.length) (hNL:M0.NL=L.length) (hB:B.length=B0.length) (hc:Calm B0.length Rw.length L.length ⟨B,Rw,L⟩) (ho:Owns Rw rows l oh v)
  (hbs:∀ cs∈bs,∀ x∈cs,Under (B0.length+bs.length) rows.length L.length x) (he:G1 (B0.length+bs.length) rows.length L.length e)
  (h:CW P w0 n M0 W0 ro c Q e ⟨B++bs,rows,L⟩) (hv:∀ x∈v,∀ y∈x.2.2,Under (B0.length+bs.length) rows.length L.length y:=by intro x hx;cases hx):CW P w0 n M0 W0 ro c Q e ⟨B++(bs++X),rows,L++l'⟩:=by
 rw [<-hB] at hN hc hbs he hv
 clear hB B0
 have i:=ho.len
 have b:St.cut ⟨B++(bs++X),rows,L++l'⟩ (B.length+bs.length) rows.length L.length=⟨B++bs,rows,L⟩:=by
  simp only [St.cut,List.take_length,<-List.append_assoc]
  rw [List.take_left' (by simp),List.take_left' rfl]
 refine R9 (B.length+bs.length) rows.length L.length (by simp) (Nat.le_refl _) (by simp) (by omega) (by omega) (by omega) ?_ he (by rw [b];exact h)
 rw [b]
 refine ⟨fun r d x hx=>?_,fun cs hcs x hx=>?_,fun g a k x hx f=>?_⟩
 ·exact ho.rowsCalm (by omega) hc.rows hv r d x hx
 ·rcases List.mem_append.1 hcs with hcs | hcs
  ·exact BQ (by omega) (by omega) (Nat.le_refl _) (hc.boxes cs hcs x hx)
  ·exact hbs cs hcs x hx
 ·exact BQ (by omega) (by omega) (Nat.le_refl _) (hc.loops g a k x hx f)
theorem A8 {B0 B bs X:List (List AV)} {Rw rows:List RowA} {L:List LoopA} {l:List (Nat × Nat × Own)} {oh:Own} {v:List VE} (hN:M0.N=B0.length) (hNR:M0.NR=Rw.length) (hNL:M0.NL=L.length) (hB:B.length=B0.length) (hc:Calm B0.length Rw.length L.length ⟨B,Rw,L⟩) (ho:Owns Rw rows l oh v)
  (hbs:∀ cs∈bs,∀ x∈cs,Under (B0.length+bs.length) rows.length L.length x) (he:G1 (B0.length+bs.length) rows.length L.length e)
  (h:CW P w0 n M0 W0 ro c Q e ⟨B++bs,rows,L⟩) (hv:∀ x∈v,∀ y∈x.2.2,Under (B0.length+bs.length) rows.length L.length y:=by intro x hx;cases hx):CW P w0 n M0 W0 ro c Q e ⟨B++(bs++X),rows,L⟩:=by
 rw [<-hB] at hN hc hbs he hv
 clear hB B0
 have i:=ho.len
 have b:St.cut ⟨B++(bs++X),rows,L⟩ (B.length+bs.length) rows.length L.length=⟨B++bs,rows,L⟩:=by
  simp only [St.cut,List.take_length,<-List.append_assoc]
  rw [List.take_left' (by simp)]
 refine R9 (B.length+bs.length) rows.length L.length (by simp) (Nat.le_refl _) (Nat.le_refl _) (by omega) (by omega) (by omega) ?_ he (by rw [b];exact h)
 rw [b]
 refine ⟨fun r d x hx=>?_,fun cs hcs x hx=>?_,fun g a k x hx f=>?_⟩
 ·exact ho.rowsCalm (by omega) hc.rows hv r d x hx
 ·rcases List.mem_append.1 hcs with hcs | hcs
  ·exact BQ (by omega) (by omega) (Nat.le_refl _) (hc.boxes cs hcs x hx)
  ·exact hbs cs hcs x hx
 ·exact BQ (by omega) (by omega) (Nat.le_refl _) (hc.loops g a k x hx f)
end
theorem ZbQ {B0 B bs:List (List AV)} {Rw rows:List RowA} {L:List LoopA} {l:List (Nat × Nat × Own)} {oh:Own} {v:List VE} (hB:B.length=B0.length) (hc:Calm B0.length Rw.length L.length ⟨B,Rw,L⟩) (ho:Owns Rw rows l oh v)
  (hbs:∀ cs∈bs,∀ x∈cs,Under (B0.length+bs.length) rows.length L.length x) (hv:∀ x∈v,∀ y∈x.2.2,Under (B0.length+bs.length) rows.length L.length y:=by intro x hx;cases hx):Calm (B0.length+bs.length) rows.length L.length ⟨B++bs,rows,L⟩:=by
 have e:=ho.len
 refine ⟨fun r b x hx=>?_,fun cs hcs x hx=>?_,fun d a k x hx c=>?_⟩
 ·exact ho.rowsCalm (by omega) hc.rows hv r b x hx
 ·rcases List.mem_append.1 hcs with hcs | hcs
  ·exact BQ (by omega) (by omega) (Nat.le_refl _) (hc.boxes cs hcs x hx)
  ·exact hbs cs hcs x hx
 ·exact BQ (by omega) (by omega) (Nat.le_refl _) (hc.loops d a k x hx c)
section
variable {P:Program} {w0:World} {st:St}
theorem P6 {c d:Bool} {f:FuncId} {cs args args':List AV} {k:AV->St->Prop} (v:AV)
  (h:ACalls P w0 f args' st fun r s=>r=v/\s=st) (he:args++cs=args') (hk:k v st):I2 P w0 c d (.clo f cs) args st k := .inl ⟨v,fun _=>by
 show ACalls P w0 f (args++cs) st _
 rw [he];exact h,hk⟩
theorem Mc {d:Bool} {fv:AV} {args:List AV} {k:AV->St->Prop} (h:k .junk st):I2 P w0 false d fv args st k := .inl ⟨.junk,fun q=>(nomatch q),h⟩
theorem Dq {B B' X:List (List AV)} {Rw rows:List RowA} {L:List LoopA} {Post:AV->St->Prop} {v:AV} (hc:Calm B.length Rw.length L.length ⟨B',Rw,L⟩) (hB:B'.length=B.length) (h2:Rw <+: rows) (hu:Under B.length Rw.length L.length v.pubA) (hp:Post v.pubA ⟨B',Rw,L⟩) :
  Go.Ev.finP ⟨B,Rw,L⟩ Post v ⟨B'++X,rows,L⟩:=by
 obtain ⟨r,rfl⟩:=h2
 have e:St.cut ⟨B'++X,Rw++r,L⟩ B.length Rw.length L.length=⟨B',Rw,L⟩:=by simp [St.cut,<-hB]
 exact ⟨by simp [hB],by simp,by simp,by simp only [e];exact hc,hu,by simp only [e];exact hp⟩
end
theorem Cb {B B':List (List AV)} {Rw rows:List RowA} {L:List LoopA} {Post:AV->St->Prop} {v:AV} (hc:Calm B.length Rw.length L.length ⟨B',Rw,L⟩) (hB:B'.length=B.length) (h2:Rw <+: rows) (hu:Under B.length Rw.length L.length v.pubA) (hp:Post v.pubA ⟨B',Rw,L⟩) :
  Go.Ev.finP ⟨B,Rw,L⟩ Post v ⟨B',rows,L⟩:=by
 have:=Dq (X:=[]) hc hB h2 hu hp
 rwa [List.append_nil] at this
theorem ZiU {k:Nat} {B bs:List (List AV)} {Rw rows:List RowA} {L:List LoopA} {Post:AV->St->Prop} {v:AV} {l:List (Nat × Nat × Own)} (hk:bs.length=k) (hc:Calm B.length Rw.length L.length ⟨B,Rw,L⟩) (hO:Owns Rw rows l .none)
  (hbs:∀ cs∈bs,∀ x∈cs,Under (B.length+k) Rw.length L.length x) (hu:Under (B.length+k) Rw.length L.length v) (hp:Post v ⟨B++bs,Rw,L⟩) :
  Go.Ev.finN k ⟨B,Rw,L⟩ Post v ⟨B++bs,rows,L⟩:=by
 subst hk
 obtain ⟨r,rfl⟩:=hO.pre
 have e:St.cut ⟨B++bs,Rw++r,L⟩ (B.length+bs.length) Rw.length L.length=⟨B++bs,Rw,L⟩:=by
  have a:(B++bs).take (B.length+bs.length)=B++bs:=List.take_of_length_le (by simp)
  simp [St.cut,a]
 exact ⟨by simp,by simp,by simp,by simp only [e];exact ZbQ rfl hc (Owns.none Rw) hbs,hu,by simp only [e];exact hp⟩
theorem AA {nb nr nl:Nat} {B:List (List AV)} {Rw:List RowA} {L:List LoopA} {l:Nat} {cs:List AV} (h:Calm nb nr nl ⟨B,Rw,L⟩) (hc:∀ x∈cs,Under nb nr nl x):Calm nb nr nl ⟨B.set l cs,Rw,L⟩ :=
 ⟨h.rows,fun ds hd x a=>by
  rcases List.mem_or_eq_of_mem_set hd with hd | rfl
  ·exact h.boxes ds hd x a
  ·exact hc x a,h.loops⟩
theorem Zif {B B' X:List (List AV)} {Rw rows:List RowA} {L l:List LoopA} {Post:AV->St->Prop} {v:AV} (hc:Calm B.length Rw.length L.length ⟨B',Rw,L⟩) (hB:B'.length=B.length) (h2:Rw <+: rows) (hu:Under B.length Rw.length L.length v.pubA) (hp:Post v.pubA ⟨B',Rw,L⟩) :
  Go.Ev.finP ⟨B,Rw,L⟩ Post v ⟨B'++X,rows,L++l⟩:=by
 obtain ⟨r,rfl⟩:=h2
 have e:St.cut ⟨B'++X,Rw++r,L++l⟩ B.length Rw.length L.length=⟨B',Rw,L⟩:=by simp [St.cut,<-hB]
 exact ⟨by simp [hB],by simp,by simp,by simp only [e];exact hc,hu,by simp only [e];exact hp⟩
theorem AD {B:List (List AV)} {l:Nat} {cs:List AV} (h:B[l]? = some cs) :
  (∀ X R L o,Cm ⟨B++X,R,L⟩ (.box l o)=true)/\(∀ R L o,Cm ⟨B,R,L⟩ (.box l o)=true)/\(∀ X R L o,Bt ⟨B++X,R,L⟩ (.box l o)=cs)/\(∀ R L o,Bt ⟨B,R,L⟩ (.box l o)=cs) /\
  (∀ X,(B++X)[l]? = some cs)/\B[l]? = some cs/\(∀ X,(B++X).getD l []=cs)/\B.getD l []=cs/\(∀ X c,(B++X).set l c=B.set l c++X) /\
  (∀ X R L o c,Cm ⟨B.set l c++X,R,L⟩ (.box l o)=true)/\(∀ R L o c,Cm ⟨B.set l c,R,L⟩ (.box l o)=true)/\(∀ X R L o c,Bt ⟨B.set l c++X,R,L⟩ (.box l o)=c)/\(∀ R L o c,Bt ⟨B.set l c,R,L⟩ (.box l o)=c) /\
  (∀ X c,(B.set l c++X)[l]? = some c)/\(∀ c,(B.set l c)[l]? = some c)/\(∀ X c,(B.set l c++X).getD l []=c)/\(∀ c,(B.set l c).getD l []=c)/\(∀ X c d,(B.set l c++X).set l d=B.set l d++X)/\(∀ c d,(B.set l c).set l d=B.set l d)/\B.set l cs=B:=by
 have a:=(Af.1 h).1
 have b:∀ X,(B++X)[l]? = some cs:=fun X=>by rw [List.getElem?_append_left a];exact h
 have f:∀ X c,(B.set l c++X)[l]? = some c:=fun X c=>by rw [List.getElem?_append_left (by simpa using a)];simp [a]
 have e:∀ c,(B.set l c)[l]? = some c:=fun c=>by simp [a]
 refine ⟨?_,?_,?_,?_,b,h,?_,?_,?_,?_,?_,?_,?_,f,e,?_,?_,?_,?_,?_⟩
 ·intro X R L o;simp [Cm];omega
 ·intro R L o;simp [Cm,a]
 ·intro X R L o;simp only [Bt,List.getD_eq_getElem?_getD,b,Option.getD_some]
 ·intro R L o;simp only [Bt,List.getD_eq_getElem?_getD,h,Option.getD_some]
 ·intro X;rw [List.getD_eq_getElem?_getD,b];rfl
 ·rw [List.getD_eq_getElem?_getD,h];rfl
 ·intro X c;exact List.set_append_left _ _ a
 ·intro X R L o c;simp [Cm];omega
 ·intro R L o c;simp [Cm,a]
 ·intro X R L o c;simp only [Bt,List.getD_eq_getElem?_getD,f,Option.getD_some]
 ·intro R L o c;simp only [Bt,List.getD_eq_getElem?_getD,e,Option.getD_some]
 ·intro X c;rw [List.getD_eq_getElem?_getD,f];rfl
 ·intro c;rw [List.getD_eq_getElem?_getD,e];rfl
 ·intro X c d;rw [List.set_append_left _ _ (by simpa using a),List.set_set]
 ·intro c d;exact List.set_set ..
 ·obtain ⟨g,rfl⟩:=Af.1 h;exact List.set_getElem_self _
@[go_sem] theorem Zg7 (B X:Aj) (R:Am) (L:An) (i k o:Nat) (c:List AV):Cm ⟨B.set i c++X,R,L⟩ (.box (B.length+k) o)=decide (k<X.length):=by simp [Cm]
@[go_sem] theorem ZfV (B X:Aj) (R:Am) (L:An) (i o:Nat) (c:List AV):Cm ⟨B.set i c++X,R,L⟩ (.box B.length o)=decide (0<X.length):=by simp [Cm]
@[go_sem] theorem UQ (B X:Aj) (i k:Nat) (c:List AV):(B.set i c++X).getD (B.length+k) []=X.getD k []:=by
 have:=W8 (B.set i c) X k
 rwa [List.length_set] at this
@[go_sem] theorem Tv (B X:Aj) (i:Nat) (c:List AV):(B.set i c++X).getD B.length []=X.getD 0 []:=by
 have:=U8 (B.set i c) X
 rwa [List.length_set] at this
@[go_sem] theorem ZeP (B X:Aj) (R:Am) (L:An) (i k o:Nat) (c:List AV):Bt ⟨B.set i c++X,R,L⟩ (.box (B.length+k) o)=X.getD k []:=UQ B X i k c
@[go_sem] theorem Zda (B X:Aj) (R:Am) (L:An) (i o:Nat) (c:List AV):Bt ⟨B.set i c++X,R,L⟩ (.box B.length o)=X.getD 0 []:=Tv B X i c
@[go_sem] theorem ZaW (B X:Aj) (i k:Nat) (c x:List AV):(B.set i c++X).set (B.length+k) x=B.set i c++X.set k x:=by
 have:=Zer (B.set i c) X k x
 rwa [List.length_set] at this
@[go_sem] theorem Zn (B X:Aj) (i:Nat) (c x:List AV):(B.set i c++X).set B.length x=B.set i c++X.set 0 x:=by
 have:=Zby (B.set i c) X x
 rwa [List.length_set] at this
@[go_sem] theorem DC (B X:Aj) (i k:Nat) (c:List AV):(B.set i c++X)[B.length+k]? = X[k]? := by
 rw [List.getElem?_append_right (by simp),List.length_set,Nat.add_sub_cancel_left]
@[go_sem] theorem CV (B X:Aj) (i:Nat) (c:List AV):(B.set i c++X)[B.length]? = X[0]? := by
 rw [List.getElem?_append_right (by simp),List.length_set,Nat.sub_self]
attribute [go_sem] List.length_set
theorem Ej {α:Type} {B B':List α} {l:Nat} {c:α} (h:B <+: B') (hl:B[l]? = some c):B'[l]? = some c:=by
 obtain ⟨t,rfl⟩:=h
 rw [List.getElem?_append_left (Af.1 hl).1];exact hl
theorem F9 {α:Type} {f:α->List AV} (sz:Nat) (hf:∀ x,(f x).length=sz):∀ {xs:List α} {i:Nat} {x:α},xs[i]? = some x->((xs.flatMap f).drop (i*sz)).take sz=f x
 | [],i,x,h=>by simp at h
 | y::ys,0,x,h=>by
  simp only [List.getElem?_cons_zero,Option.some.injEq] at h
  subst h
  simp [List.flatMap_cons,<-hf y]
 | y::ys,i+1,x,h=>by
  simp only [List.getElem?_cons_succ] at h
  rw [List.flatMap_cons,Nat.succ_mul,Nat.add_comm,List.drop_append,hf y,Nat.add_sub_cancel_left,List.drop_eq_nil_of_le (by rw [hf y];omega),List.nil_append]
  exact F9 sz hf h
@[go_sem] theorem Zhf (l:List AV):BH l 0 []=l:=by simp [BH]
@[go_sem] theorem ZdR (a x:AV) (l xs:List AV):BH (a::l) 0 (x::xs)=x::BH l 0 xs:=by simp [BH]
@[go_sem] theorem Zfz (a:AV) (l xs:List AV) (n:Nat):BH (a::l) (n+1) xs=a::BH l n xs:=by simp [BH,Nat.succ_add]
@[go_sem] theorem C6 (B l:Aj) (k:Nat):(B++l)[B.length+k]? = l[k]? := by rw [List.getElem?_append_right (by omega),Nat.add_sub_cancel_left]
@[go_sem] theorem Cd (B l:Aj):(B++l)[B.length]? = l[0]? := by rw [List.getElem?_append_right (by omega),Nat.sub_self]
theorem Owns.enter {Rw rows:List RowA} {l:List (Nat × Nat × Own)} {ho o:Own} {v:List VE} {sz n:Nat} (h:Owns Rw rows ((sz,n,o)::l) ho v):Owns rows rows [(sz,n,o)] o:=by
 have b:=h.each _ (List.mem_cons_self ..)
 refine ⟨Nat.le_refl _,fun _ _ _=>rfl,fun i r a q _=>?_,fun x c=>?_,by simp,by simp,.nil⟩
 ·rcases q with q | q
  ·have:=(Af.1 a).1;omega
  ·rcases b with w | ⟨id,w1,w2,w3⟩
   ·simp only at w;rw [q] at w;cases w
   ·simp only at w1 w3;rw [q] at w1;cases w1
    rw [a] at w3;rw [Option.some.inj w3];rfl
 ·rw [List.mem_singleton.1 c]
  rcases b with w | ⟨id,w1,w2,w3⟩
  ·exact .inl w
  ·exact .inr ⟨id,w1,.inr w1,w3⟩
theorem DJ {nb nr nr' nl:Nat} {st:St} (h:Calm nb nr nl st) (hr:nr<=nr'):Calm nb nr' nl st :=
 ⟨fun r a x b=>BQ (Nat.le_refl _) hr (Nat.le_refl _) (h.rows r a x b),fun cs a x b=>BQ (Nat.le_refl _) hr (Nat.le_refl _) (h.boxes cs a x b),fun d a k x b c=>BQ (Nat.le_refl _) hr (Nat.le_refl _) (h.loops d a k x b c)⟩
section
variable {P:Program} {w0:World} {f:FuncId} {st:St}
def finG (st:St) (Post:AV->St->Prop) (r:AV) (s:St):Prop :=
 st.boxes.length<=s.boxes.length/\st.rows.length<=s.rows.length/\st.loops.length<=s.loops.length/\Calm st.boxes.length s.rows.length st.loops.length (s.cut st.boxes.length s.rows.length st.loops.length) /\
  Under st.boxes.length s.rows.length st.loops.length r.pubA/\Post r.pubA (s.cut st.boxes.length s.rows.length st.loops.length)
theorem ACalls.finG {args:List AV} {Post:AV->St->Prop} (h:ACalls P w0 f args st (finG st Post)):ACalls P w0 f args st Post:=by
 refine ⟨h.1,fun M w c a b=>(h.2 M w c a b).mono ?_⟩
 rintro en n ⟨v,M',r,d,l,⟨g,m,e,j,k,i⟩,h3,h4,h5⟩
 exact ⟨v,M'.cut st.boxes.length d.rows.length st.loops.length,r.pubA,_,l,i,h3.cut (by have:=a.N;omega) (by have:=a.NR;omega) (by have:=a.loop.NL;omega) (by rw [h4.loop.NL];exact e) (by rw [h4.N];exact g) (by rw [h4.NR];exact Nat.le_refl _),h4.cut g (Nat.le_refl _) e j,h5.pubA.cut (by have:=h4.loop.NL;omega) k⟩
theorem Zi3 {B B' X:List (List AV)} {R0 rows:List RowA} {L l:List LoopA} {Post:AV->St->Prop} {v:AV} {ow:List (Nat × Nat × Own)} {oh:Own} {ve:List VE} (ho:Owns R0 rows ow oh ve) (hc:Calm B.length rows.length L.length ⟨B',R0,L⟩) (hB:B'.length=B.length) (hu:Under B.length rows.length L.length v.pubA) (hp:Post v.pubA ⟨B',rows,L⟩) (hv:∀ x∈ve,∀ y∈x.2.2,Under B.length rows.length L.length y:=by intro x hx;cases hx) :
  Go.Ev.finG ⟨B,R0,L⟩ Post v ⟨B'++X,rows,L++l⟩:=by
 have e:St.cut ⟨B'++X,rows,L++l⟩ B.length rows.length L.length=⟨B',rows,L⟩:=by simp [St.cut,<-hB]
 refine ⟨by simp [hB],ho.len,by simp,?_,hu,by simp only [e];exact hp⟩
 simp only [e]
 refine ⟨fun r d x hx=>?_,hc.boxes,hc.loops⟩
 obtain ⟨i,c,rfl⟩:=List.mem_iff_getElem.1 d
 have b:rows[i]? = some rows[i]:=List.getElem?_eq_getElem c
 by_cases qv:VS ve i
 case neg =>
  obtain ⟨y,f,e,_⟩:=ho.inV b qv
  rw [e] at hx
  exact hv y f x hx
 by_cases q:R0.length<=i\/oh = .row i
 ·rw [ho.calm i _ b q qv] at hx;cases hx
 ·have a:i<R0.length:=by omega
  have:=ho.keep i a (fun e=>q (.inr e))
  rw [b,List.getElem?_eq_getElem a] at this
  rw [Option.some.inj this] at hx
  exact hc.rows _ (List.getElem_mem a) x hx
end
theorem ZaP {B B' X:List (List AV)} {R0 rows:List RowA} {L:List LoopA} {Post:AV->St->Prop} {v:AV} {ow:List (Nat × Nat × Own)} {oh:Own} {ve:List VE} (ho:Owns R0 rows ow oh ve) (hc:Calm B.length rows.length L.length ⟨B',R0,L⟩) (hB:B'.length=B.length) (hu:Under B.length rows.length L.length v.pubA) (hp:Post v.pubA ⟨B',rows,L⟩) (hv:∀ x∈ve,∀ y∈x.2.2,Under B.length rows.length L.length y:=by intro x hx;cases hx) :
  Go.Ev.finG ⟨B,R0,L⟩ Post v ⟨B'++X,rows,L⟩:=by
 have:=Zi3 (X:=X) (l:=[]) ho hc hB hu hp hv
 rwa [List.append_nil] at this
section
variable {P:Program} {w0:World} {n:Nat} {e:Env} {st:St} {M0:Mem} {W0:World} {ro:Option Nat} {Q:AQ} {c:Code}
theorem DW {B0 B bs X:List (List AV)} {Rw rows:List RowA} {L:List LoopA} {l:List (Nat × Nat × Own)} {oh:Own} {v:List VE} (hN:M0.N=B0.length) (hNR:M0.NR=Rw.length) (hNL:M0.NL=L.length) (hB:B.length=B0.length) (hc:Calm B0.length rows.length L.length ⟨B,Rw,L⟩) (ho:Owns Rw rows l oh v)
  (hbs:∀ cs∈bs,∀ x∈cs,Under (B0.length+bs.length) rows.length L.length x) (he:G1 (B0.length+bs.length) rows.length L.length e)
  (h:CW P w0 n M0 W0 ro c Q e ⟨B++bs,rows,L⟩) (hv:∀ x∈v,∀ y∈x.2.2,Under (B0.length+bs.length) rows.length L.length y:=by intro x hx;cases hx):CW P w0 n M0 W0 ro c Q e ⟨B++(bs++X),rows,L⟩:=by
 rw [<-hB] at hN hc hbs he hv
 clear hB B0
 have s:=ho.len
 have f:St.cut ⟨B++(bs++X),rows,L⟩ (B.length+bs.length) rows.length L.length=⟨B++bs,rows,L⟩:=by
  simp only [St.cut,List.take_length,<-List.append_assoc]
  rw [List.take_left' (by simp)]
 refine R9 (B.length+bs.length) rows.length L.length (by simp) (Nat.le_refl _) (Nat.le_refl _) (by omega) (by omega) (by omega) ?_ he (by rw [f];exact h)
 rw [f]
 refine ⟨fun r j x hx=>?_,fun cs hcs x hx=>?_,fun p b k x hx o=>?_⟩
 ·obtain ⟨i,g,rfl⟩:=List.mem_iff_getElem.1 j
  have d:rows[i]? = some rows[i]:=List.getElem?_eq_getElem g
  by_cases qv:VS v i
  case neg =>
   obtain ⟨y,m,e,_⟩:=ho.inV d qv
   rw [e] at hx
   exact hv y m x hx
  by_cases q:Rw.length<=i\/oh = .row i
  ·rw [ho.calm i _ d q qv] at hx;cases hx
  ·have a:i<Rw.length:=by omega
   have:=ho.keep i a (fun e=>q (.inr e))
   rw [d,List.getElem?_eq_getElem a] at this
   rw [Option.some.inj this] at hx
   exact BQ (by omega) (Nat.le_refl _) (Nat.le_refl _) (hc.rows _ (List.getElem_mem a) x hx)
 ·rcases List.mem_append.1 hcs with hcs | hcs
  ·exact BQ (by omega) (Nat.le_refl _) (Nat.le_refl _) (hc.boxes cs hcs x hx)
  ·exact hbs cs hcs x hx
 ·exact BQ (by omega) (Nat.le_refl _) (Nat.le_refl _) (hc.loops p b k x hx o)
end
def S7 (acc:List Nat) (o:Oper):Nat:=o.after.toList.foldl (fun m e=>if Region.binds .any e then m ||| 2 ^ e.on ||| acc.getD e.on 0 else m) 0
def FI:List Oper->List Nat->List Nat
 | [],acc=>acc
 | o::os,acc=>FI os (acc++[S7 acc o])
def LO (ms:List Nat) (i j:Nat):Bool:=(ms.getD i 0).testBit j
theorem W2 (acc:List Nat) (j:Nat):∀ (es:List Edge) (m:Nat),(es.foldl (fun m e=>if Region.binds .any e then m ||| 2 ^ e.on ||| acc.getD e.on 0 else m) m).testBit j=true->m.testBit j=true\/∃ e∈es,Region.binds .any e=true/\(e.on=j\/LO acc e.on j=true)
 | [],m,h => .inl h
 | e::es,m,h=>by
  simp only [List.foldl_cons] at h
  rcases W2 acc j es _ h with h | ⟨e',h1,h2⟩
  ·by_cases c:Region.binds .any e=true
   ·rw [Ad c] at h
    simp only [Nat.testBit_or,Bool.or_eq_true,Nat.testBit_two_pow,decide_eq_true_eq] at h
    rcases h with (h | h) | h
    ·exact .inl h
    ·exact .inr ⟨e,List.mem_cons_self .., c,.inl h⟩
    ·exact .inr ⟨e,List.mem_cons_self .., c,.inr h⟩
   ·rw [Ae c] at h;exact .inl h
  ·exact .inr ⟨e',List.mem_cons_of_mem _ h1,h2⟩
theorem Sz (acc acc':List Nat):∀ (es:List Edge) (m:Nat),(∀ e∈es,Region.binds .any e=true->acc.getD e.on 0=acc'.getD e.on 0) ->
  es.foldl (fun m e=>if Region.binds .any e then m ||| 2 ^ e.on ||| acc.getD e.on 0 else m) m=es.foldl (fun m e=>if Region.binds .any e then m ||| 2 ^ e.on ||| acc'.getD e.on 0 else m) m
 | [],_,_=>rfl
 | e::es,m,h=>by
  simp only [List.foldl_cons]
  have:(if Region.binds .any e=true then m ||| 2 ^ e.on ||| acc.getD e.on 0 else m)=if Region.binds .any e=true then m ||| 2 ^ e.on ||| acc'.getD e.on 0 else m:=by
   by_cases c:Region.binds .any e=true
   ·rw [Ad c,Ad c,h e (List.mem_cons_self ..) c]
   ·rw [Ae c,Ae c]
  rw [this]
  exact Sz acc acc' es _ fun a b=>h a (List.mem_cons_of_mem _ b)
theorem QO:∀ (os:List Oper) (acc:List Nat) (i:Nat),i<acc.length->(FI os acc).getD i 0=acc.getD i 0
 | [],_,_,_=>rfl
 | o::os,acc,i,h=>by
  rw [FI,QO os _ i (by simp;omega),List.getD_eq_getElem?_getD,List.getElem?_append_left h,List.getD_eq_getElem?_getD]
theorem Xo:∀ (os:List Oper) (acc:List Nat) (k:Nat) (o:Oper),os[k]? = some o->(∀ (k:Nat) (o:Oper),os[k]? = some o->∀ e∈o.after,Region.binds .any e=true->e.on<acc.length+k)->(FI os acc).getD (acc.length+k) 0=S7 (FI os acc) o
 | [],_,_,_,h,_=>by simp at h
 | o'::os,acc,0,o,h,hb=>by
  simp only [List.getElem?_cons_zero,Option.some.injEq] at h
  subst h
  rw [FI,QO os _ _ (by simp)]
  have c:(acc++[S7 acc o']).getD (acc.length+0) 0=S7 acc o':=by simp [List.getD_eq_getElem?_getD]
  rw [c]
  refine Sz _ _ _ _ fun e b a=>?_
  have:=hb 0 o' rfl e (by simpa using b) a
  rw [QO os _ _ (by simp;omega),List.getD_eq_getElem?_getD,List.getD_eq_getElem?_getD,List.getElem?_append_left (by omega)]
 | o'::os,acc,k+1,o,h,hb=>by
  rw [FI]
  have:=Xo os (acc++[S7 acc o']) k o (by simpa using h) (fun k o h e b a=>by
   have:=hb (k+1) o (by simpa using h) e b a
   simp;omega)
  rw [List.length_append,List.length_singleton,Nat.add_assoc,Nat.add_comm 1 k] at this
  exact this
def N7 (ef:List Nat) (ms:List Nat) (i j:Nat):Bool :=
 if ef.contains i then ef.contains j||LO ms i j else if ef.contains j then LO ms j i else decide (j<i)&&LO ms i j
def RS (ef:List Nat) (ms:List Nat) (i j:Nat):Bool :=
 if ef.contains i then ef.contains j||LO ms i j else ef.contains j&&LO ms j i
def KV (l:List Oper) (ef:List Nat):Bool:=(ef.all fun i=>decide (i<l.length)) &&
 (List.range l.length).all fun i=>match l[i]? with
  | some o=>(o.after.toList.all fun e => !Region.binds .any e||decide (e.on<i))&&(List.range l.length).all fun j=>match l[j]? with
   | some p=>match p.dst with
    | some s=>(decide (i=j)||o.dst != some s||RS ef (FI l []) i j)&&(!(looks l o).contains s||N7 ef (FI l []) i j)
    | none=>true
   | none=>true
  | none=>true
theorem Ea {l:List Oper} {ef:List Nat} (hB:KV l ef=true) {i:Nat} {o:Oper} (ho:l[i]? = some o) :
  (∀ e∈o.after,Region.binds .any e=true->e.on<i)/\∀ j p s,l[j]? = some p->p.dst=some s->(o.dst=some s->i=j\/RS ef (FI l []) i j=true)/\(s∈looks l o->N7 ef (FI l []) i j=true):=by
 have b:=List.all_eq_true.1 (Bool.and_eq_true_iff.1 hB).2 i (List.mem_range.2 (Af.1 ho).1)
 simp only [ho,Bool.and_eq_true] at b
 refine ⟨fun e g d=>?_,fun j p s c hs=>?_⟩
 ·have:=List.all_eq_true.1 b.1 e (by simpa using g)
  simpa [d] using this
 ·have a:=List.all_eq_true.1 b.2 j (List.mem_range.2 (Af.1 c).1)
  simp only [c,hs,Bool.and_eq_true,Bool.or_eq_true,decide_eq_true_eq,bne_iff_ne,Bool.not_eq_true'] at a
  refine ⟨fun hd=>?_,fun f=>?_⟩
  ·rcases a.1 with (h | h) | h
   ·exact .inl h
   ·exact absurd hd h
   ·exact .inr h
  ·rcases a.2 with h3 | h3
   ·have:(looks l o).contains s=true:=by simpa using f
    rw [h3] at this;cases this
   ·exact h3
theorem TS {l:List Oper} {ef:List Nat} (hB:KV l ef=true) {listed:Array Bool} (closed:∀ (j:Nat) (oj:Oper),l[j]? = some oj->listed.getD j false=true->∀ e∈oj.after,Region.binds .any e=true->listed.getD e.on false=true) (j:Nat) :
  ∀ (i:Nat) (o:Oper),l[i]? = some o->(∀ e∈o.after,Region.binds .any e=true->listed.getD e.on false=true)->LO (FI l []) i j=true->listed.getD j false=true:=by
 intro i
 induction i using Nat.strongRecOn with
 | _ i ih =>
  intro o ho g a
  have f:=Xo l [] i o ho (fun k o h e c m=>by have:=(Ea hB h).1 e c m;simpa using this)
  simp only [List.length_nil,Nat.zero_add] at f
  unfold LO at a
  rw [f] at a
  rcases W2 _ _ _ _ a with h | ⟨e,h1,h2,h3⟩
  ·simp at h
  ·have c:e∈o.after:=by simpa using h1
   have b:=g e c h2
   have d:=(Ea hB ho).1 e c h2
   rcases h3 with rfl | h3
   ·exact b
   ·have n:=(Af.1 ho).1
    exact ih e.on d _ (List.getElem?_eq_getElem (by omega)) (closed e.on _ (List.getElem?_eq_getElem (by omega)) b) h3
def BK (ef:List Nat):Nat->List Oper->List Oper
 | _,[]=>[]
 | i,o::os=>(if ef.contains i then { o with dst:=none,op := .move (.const (.bool true)),guard:=none } else o)::BK ef (i+1) os
theorem QN (ef:List Nat):∀ (l:List Oper) (k i:Nat),(BK ef k l)[i]? = (l[i]?).map fun o=>if ef.contains (k+i) then { o with dst:=none,op := .move (.const (.bool true)),guard:=none } else o
 | [],_,_=>by simp [BK]
 | o::os,k,0=>by simp [BK]
 | o::os,k,i+1=>by simp only [BK,List.getElem?_cons_succ];rw [QN ef os (k+1) i,Nat.add_assoc,Nat.add_comm 1 i]
theorem GV (ef:List Nat):∀ (l:List Oper) (k:Nat),(BK ef k l).length=l.length
 | [],_=>rfl
 | o::os,k=>by simp [BK,GV ef os]
section
variable {P:Program} {w0:World} {n:Nat}
def A7 (P:Program) (w0:World) (ev:Env) (s:St) (o:Oper) (v:AV) (s':St):Prop :=
 match o.op with
 | .call ⟨.value f,args,_⟩=>A4 ev true f/\(∀ x∈args.toList,A4 ev true x)/\LX P w0 (Au ev f) (args.toList.map fun x=>argP ev (Au ev x)) s fun r t=>r=v/\t=s'
 | op=>(Bj P ev true s op).1/\(Bj P ev true s op).2.1=v/\(Bj P ev true s op).2.2=s'
theorem Vj {ev:Env} {s s':St} {o:Oper} {v:AV} (hc:¬ Kt o.op=true):A7 P w0 ev s o v s'=((Bj P ev true s o.op).1/\(Bj P ev true s o.op).2.1=v/\(Bj P ev true s o.op).2.2=s'):=by
 obtain ⟨d,op,c,e,b,a⟩:=o
 cases op with
 | call cc =>
  obtain ⟨callee,args,ts⟩:=cc
  cases callee with
  | value f=>exact absurd rfl hc
  | _=>rfl
 | _=>rfl
def SJ (P:Program) (w0:World) (ev:Env) (s:St) (o:Oper) (Post:AV->St->Prop):Prop :=
 (Kt o.op=true/\match o.op with
  | .call ⟨.value f,args,_⟩=>A4 ev true f/\(∀ x∈args.toList,A4 ev true x)/\LX P w0 (Au ev f) (args.toList.map fun x=>argP ev (Au ev x)) s Post
  | _=>False)\/∃ v s',A7 P w0 ev s o v s'/\∀ r t,r=v/\t=s'->Post r t
theorem VC {M:Mem} {ev:Env} {s s':St} {a:Act} {w:World} (h:Rel w0 n M ev s a w) (ro:Option Nat) (m:Nat) {o:Oper} {v:AV} (hv:A7 P w0 ev s o v s')
  (Q:Exit->Act->World->Prop) (K:Act->World->Prop) (hK:∀ u w' M',Ext w0 M w M' w'->RelSt w0 M' s' w'->R w0 M' w' u v->K (a.put o.dst u) w'):o.wpIn (FW ro) m P a w K Q:=by
 by_cases hc:Kt o.op=true
 ·obtain ⟨dst,op,l,p,i,e⟩:=o
  cases op<;>try cases hc
  rename_i cc
  obtain ⟨callee,args,ts⟩:=cc
  cases callee<;>try cases hc
  rename_i f
  obtain ⟨g,d,j⟩:=hv
  refine JP h ro m g d j Q _ (fun r t q u w' M' k b c=>?_)
  obtain ⟨rfl,rfl⟩:=q
  exact hK u w' M' k b c
 ·rw [Vj hc] at hv
  obtain ⟨g,d,j⟩:=hv
  refine QR h ro m o g Q _ (fun u w' M' k b c=>?_)
  rw [j] at b
  rw [d] at c
  exact hK u w' M' k b c
theorem WH {M:Mem} {ev:Env} {s:St} {a:Act} {w:World} (h:Rel w0 n M ev s a w) (ro:Option Nat) (m:Nat) {o:Oper} {Post:AV->St->Prop} (hv:SJ P w0 ev s o Post)
  (Q:Exit->Act->World->Prop) (K:Act->World->Prop) (hK:∀ v s' u w' M',Post v s'->Ext w0 M w M' w'->RelSt w0 M' s' w'->R w0 M' w' u v->K (a.put o.dst u) w'):o.wpIn (FW ro) m P a w K Q:=by
 rcases hv with ⟨hc,hv⟩ | ⟨v,s',hv,g⟩
 ·obtain ⟨dst,op,j,q,d,c⟩:=o
  cases op<;>try cases hc
  rename_i cc
  obtain ⟨callee,args,ts⟩:=cc
  cases callee<;>try cases hc
  rename_i f
  obtain ⟨l,k,p⟩:=hv
  exact JP h ro m l k p Q _ (fun r t g u w' M' i b e=>hK r t u w' M' g i b e)
 ·exact VC h ro m hv Q K fun u w' M' i b e=>hK v s' u w' M' (g _ _ ⟨rfl,rfl⟩) i b e
def GoodD (P:Program) (w0:World) (n:Nat) (l:List Oper) (ef:List Nat) (F:List Nat->St->Prop) (T:Env->St->Prop):Nat->List Nat->Env->St->Prop
 | 0,_,_,_=>False
 | k+1,dn,ev,s=>F dn s/\((ef.all fun i=>dn.contains i)=true->T ev s)/\∀ i∈ef,dn.contains i=false->(ef.all fun j => !LO (FI l []) i j||dn.contains j)=true ->
   ∃ o,l[i]? = some o/\o.guard=none/\ID n o.dst/\∃ Post:AV->St->Prop,SJ P w0 (B2 true l o ev) s o Post/\∀ v s',Post v s'->GoodD P w0 n l ef F T k (i::dn) (Ip ev o.dst true v) s'
abbrev Good (P:Program) (w0:World) (n:Nat) (l:List Oper) (ef:List Nat) (F:St->Prop) (T:Env->St->Prop):Nat->List Nat->Env->St->Prop:=GoodD P w0 n l ef (fun _=>F) T
structure AInv (w0:World) (n:Nat) (l:List Oper) (ef:List Nat) (s0:St) (e e1:Env) (M1:Mem) (w1:World) (ds:List Deferred) (dn:List Nat) (ev:Env) (s:St) (listed:Array Bool) (a:Act) (w:World) (M:Mem):Prop where
 size:listed.size=l.length
 ini:dn=[]->s=s0
 closed:∀ (j:Nat) (oj:Oper),l[j]? = some oj->listed.getD j false=true->∀ e∈oj.after,Region.binds .any e=true->listed.getD e.on false=true
 eff:∀ i∈ef,(listed.getD i false=true<->i∈dn)
 sub:∀ i∈dn,i∈ef
 rel:RelSt w0 M s w
 tmps:a.tmps.size=n
 defers:a.defers=ds
 ext:Ext w0 M1 w1 M w
 evn:∀ t,(∀ j∈dn,∀ o,l[j]? = some o->o.dst≠some t)->look ev t=look e1 t
 done:∀ t x,(∃ j∈dn,∃ o,l[j]? = some o/\o.dst=some t)->look ev t=some x->entryOk w0 M w (a.tmps.getD t undef) x
 new:∀ t x,(∀ j∈dn,∀ o,l[j]? = some o->o.dst≠some t)->(∃ i o,i ∉ ef/\l[i]? = some o/\o.dst=some t/\listed.getD i false=true)->look e1 t=some x->entryOk w0 M w (a.tmps.getD t undef) x
 old:∀ t x,(∀ i o,l[i]? = some o->o.dst=some t->listed.getD i false=false)->look e t=some x->entryOk w0 M w (a.tmps.getD t undef) x
def Wb (l:List Oper) (ef el:List Nat):Bool:=ef.all fun i=>el.all fun j=>LO (FI l []) i j
def Zem (P:Program) (w0:World) (n:Nat) (l:List Oper) (e1:Env) (s:St) (o:Oper):Prop :=
 ∃ (Ei:Env) (v:AV),Jf l (B2 true l o Ei) o.guard/\ID n o.dst/\WR P w0 (B2 true l o Ei) (BZ l (B2 true l o Ei) o.guard) s o v/\(∀ t∈looks l o,look Ei t=look e1 t)/\∀ t,o.dst=some t->look e1 t=some (BZ l (B2 true l o Ei) o.guard,v)
theorem Lu {l:List Oper} {ef:List Nat} {i:Nat} {o:Oper} (hi:i ∉ ef) (ho:l[i]? = some o):(BK ef 0 l)[i]? = some o:=by
 rw [QN,ho]
 simp [hi]
theorem Ob {l:List Oper} {ef:List Nat} {i:Nat} {o:Oper} {t:Nat} (hi:(BK ef 0 l)[i]? = some o) (hd:o.dst=some t):i ∉ ef/\l[i]? = some o:=by
 rw [QN] at hi
 cases hl:l[i]? with
 | none=>simp [hl] at hi
 | some p =>
  rw [hl] at hi
  simp only [Option.map_some,Nat.zero_add,Option.some.injEq] at hi
  by_cases c:i∈ef
  ·simp [c] at hi
   subst hi
   cases hd
  ·simp [c] at hi
   subst hi
   exact ⟨c,rfl⟩
theorem U4 {l:List Oper} {ef ef':List Nat} (hB:KV l ef=true) (hs:∀ i∈ef,i∈ef'):∀ (i j:Nat) (o p:Oper) (t:Nat),(BK ef' 0 l)[i]? = some o->(BK ef' 0 l)[j]? = some p->o.dst=some t->p.dst=some t->i=j:=by
 intro i j o p t d e b a
 obtain ⟨a1,a2⟩:=Ob d b
 obtain ⟨g,c⟩:=Ob e a
 have a3:i ∉ ef:=fun h=>a1 (hs i h)
 have f:j ∉ ef:=fun h=>g (hs j h)
 rcases ((Ea hB a2).2 j p t c a).1 b with h | h
 ·exact h
 ·simp [RS,a3,f] at h
theorem Wj {l:List Oper} {ef:List Nat} {e e1:Env} {s:St} (hB:KV l ef=true) (h:∃ c,Ru P w0 n true l (fun e' s'=>e'=e1/\s'=s) c (BK ef 0 l) e s) :
  (∀ t,(∀ i o,i ∉ ef->l[i]? = some o->o.dst≠some t)->look e1 t=look e t)/\∀ i o,i ∉ ef->l[i]? = some o->Zem P w0 n l e1 s o:=by
 obtain ⟨c,G⟩:=h
 obtain ⟨E,C,V,T',r,_⟩:=PG c _ _ G
 rw [GV] at r
 have g:∀ t j,j<=l.length->_:=fun t j v=>LJ T' (U4 hB fun _ h=>h) t j (by rw [GV];exact v)
 have q:∀ t,(∀ i o,i ∉ ef->l[i]? = some o->o.dst≠some t)->look e1 t=look e t:=by
  intro t J
  have:=(g t l.length (Nat.le_refl _)).1 fun i o _ F hd=>by
   obtain ⟨a1,a2⟩:=Ob F hd
   exact J i o a1 a2 hd
  rwa [r] at this
 refine ⟨q,fun i o b a=>?_⟩
 have d:i<l.length:=(Af.1 a).1
 obtain ⟨_,y,D,w,z⟩:=T'.step i o (Lu b a)
 refine ⟨E i,V i,y,D,by rw [w];exact z,fun t x=>?_,fun t hd=>?_⟩
 ·by_cases Bf:∃ i o,i ∉ ef/\l[i]? = some o/\o.dst=some t
  ·obtain ⟨j,p,f,m,k⟩:=Bf
   have H:=((Ea hB a).2 j p t m k).2 x
   have u:j<i/\LO (FI l []) i j=true:=by simpa [N7,b,f] using H
   rw [(g t i (Nat.le_of_lt d)).2 j p u.1 (Lu f m) k,<-r,(g t l.length (Nat.le_refl _)).2 j p (by omega) (Lu f m) k]
  ·rw [q t fun i o f m k=>Bf ⟨i,o,f,m,k⟩]
   exact (g t i (Nat.le_of_lt d)).1 fun j p _ v hd=>by
    obtain ⟨a1,a2⟩:=Ob v hd
    exact Bf ⟨j,p,a1,a2,hd⟩
 ·rw [w,<-r]
  exact (g t l.length (Nat.le_refl _)).2 i o d (Lu b a) hd
inductive PreOk (e1:Env):Env->Prop where
 | nil:PreOk e1 e1
 | cons {k:Nat} {v:Bool × AV} {r:Env} (h:look e1 k=some v) (h':PreOk e1 r):PreOk e1 ((k,v)::r)
theorem PreOk.look {e1 e':Env} (h:PreOk e1 e') (t:Nat):Go.Ev.look e' t=Go.Ev.look e1 t:=by
 induction h with
 | nil=>rfl
 | @cons k v r h _ ih =>
  show (if k=t then some v else Go.Ev.look r t)=_
  split
  ·rename_i q
   rw [<-q,h]
  ·exact ih
theorem Zex {l:List Oper} {ef el:List Nat} {e1:Env} {s:St} (hB:KV l ef=true) (h:∃ c,Ru P w0 n true l (fun e' s'=>s'=s/\PreOk e1 e') c (BK (ef++el) 0 l) e1 s) (i:Nat) (o:Oper) (hie:i ∉ ef) (hil:i ∉ el) (ho':l[i]? = some o):Zem P w0 n l e1 s o:=by
 obtain ⟨c,r⟩:=h
 obtain ⟨E,C,V,T',_,m⟩:=PG c _ _ r
 rw [GV] at m
 have b:∀ t j,j<=l.length->_:=fun t j e=>LJ T' (U4 hB fun _ h=>List.mem_append_left _ h) t j (by rw [GV];exact e)
 have d:i<l.length:=(Af.1 ho').1
 have a:i ∉ ef++el:=fun h=>(List.mem_append.1 h).elim hie hil
 have fin:∀ t,look (E l.length) t=look e1 t:=m.look
 obtain ⟨_,v,w,k,u⟩:=T'.step i o (Lu a ho')
 refine ⟨E i,V i,v,w,by rw [k];exact u,fun t _=>?_,fun t hd=>?_⟩
 ·by_cases Bf:∃ j p,j<i/\(BK (ef++el) 0 l)[j]? = some p/\p.dst=some t
  ·obtain ⟨j,p,x,f,g⟩:=Bf
   rw [(b t i (Nat.le_of_lt d)).2 j p x f g,<-fin t,(b t l.length (Nat.le_refl _)).2 j p (by omega) f g]
  ·exact (b t i (Nat.le_of_lt d)).1 fun j p e q hd=>Bf ⟨j,p,e,q,hd⟩
 ·rw [k,<-fin t]
  exact (b t l.length (Nat.le_refl _)).2 i o d (Lu a ho') hd
theorem Zab {l:List Oper} {ef el:List Nat} {s0:St} {e e1:Env} {F:List Nat->St->Prop} {T:Env->St->Prop} {M1:Mem} {w1:World} {ds:List Deferred} {ro:Option Nat} {m:Nat} {Q:Exit->Act->World->Prop} (hB:KV l ef=true) (hel:Wb l ef el=true)
  (noE1:∀ t,(∀ i o,i ∉ ef->l[i]? = some o->o.dst≠some t)->look e1 t=look e t)
  (hF:∀ dn s,F dn s->∀ i o,i ∉ ef->(∀ j∈dn,LO (FI l []) j i=false)->(i∈el->s=s0)->l[i]? = some o->Zem P w0 n l e1 s o)
  (hT:∀ ev s M a w,T ev s->Rel w0 n M ev s a w->Ext w0 M1 w1 M w->a.defers=ds->Q .normal a w) :
  ∀ fuel listed a w M k dn ev s,fuel=listed.toList.count false->GoodD P w0 n l ef F T k dn ev s->AInv w0 n l ef s0 e e1 M1 w1 ds dn ev s listed a w M->wpAnyIn (FW ro) m P .any l.toArray Q fuel listed a w:=by
 intro fuel
 induction fuel with
 | zero =>
  intro listed a w M k dn ev s hf hg inv
  have y:∀ j,j<l.length->listed.getD j false=true:=by
   intro j hj
   cases hq:listed.getD j false with
   | true=>rfl
   | false =>
    exfalso
    have ao:j<listed.size:=by rw [inv.size];omega
    have:false∈listed.toList:=by
     have e1:listed[j]=false:=by simpa [ao] using hq
     rw [<-e1];simp
    have:=List.count_pos_iff.2 this
    omega
  cases k with
  | zero=>exact hg.elim
  | succ k =>
  obtain ⟨g1,g2,_⟩:=hg
  have hdn:(ef.all fun i=>dn.contains i)=true:=by
   refine List.all_eq_true.2 fun i D=>?_
   have c:i<l.length:=by simpa using List.all_eq_true.1 (Bool.and_eq_true_iff.1 hB).1 i D
   simpa using (inv.eff i D).1 (y i c)
  refine ⟨?_,hT ev s M a w (g2 hdn) ⟨inv.rel,inv.tmps,fun t x hx=>?_⟩ inv.ext inv.defers⟩
  ·refine List.eq_nil_iff_forall_not_mem.2 fun i D=>?_
   obtain ⟨H,o,ho,_⟩:=mem_ready.1 D
   have ho':l[i]? = some o:=by simpa using ho
   have:=y i (Af.1 ho').1
   obtain ⟨q1,q2⟩:=YC H
   obtain ⟨q3,q4⟩:=Zk this
   rw [q2] at q4;cases q4
  ·by_cases A:∃ j∈dn,∃ o,l[j]? = some o/\o.dst=some t
   ·exact inv.done t x A hx
   ·have E:∀ j∈dn,∀ o,l[j]? = some o->o.dst≠some t:=fun j hj o ho hd=>A ⟨j,hj,o,ho,hd⟩
    rw [inv.evn t E] at hx
    by_cases Bf:∃ i o,i ∉ ef/\l[i]? = some o/\o.dst=some t
    ·obtain ⟨i,o,b1,b2,b3⟩:=Bf
     exact inv.new t x E ⟨i,o,b1,b2,b3,y i (Af.1 b2).1⟩ hx
    ·rw [noE1 t fun i o b1 b2 b3=>Bf ⟨i,o,b1,b2,b3⟩] at hx
     refine inv.old t x (fun i o ho hd=>?_) hx
     by_cases c:i∈ef
     ·exact absurd hd (E i ((inv.eff i c).1 (y i (Af.1 ho).1)) o ho)
     ·exact absurd ⟨i,o,c,ho,hd⟩ Bf
 | succ fuel ih =>
  intro listed a w M k dn ev s hf hg inv
  cases k with
  | zero=>exact hg.elim
  | succ k =>
  obtain ⟨g1,g2,g3⟩:=hg
  have Y:∃ j,j<l.length/\listed.getD j false=false/\∀ i,i<j->listed.getD i false=true:=by
   refine Q3 fun y=>?_
   have:0<listed.toList.count false:=by omega
   have U:=List.count_pos_iff.1 this
   obtain ⟨i,D,he⟩:=List.mem_iff_getElem.1 U
   have b:i<listed.size:=by simpa using D
   have:=y i (by rw [<-inv.size];exact b)
   simp only [Array.getD_eq_getD_getElem?,Array.getElem?_eq_getElem b,Option.getD_some] at this
   rw [Array.getElem_toList] at he
   rw [he] at this;cases this
  obtain ⟨k0,af,ah,ak⟩:=Y
  have ad:k0<listed.size:=by rw [inv.size];omega
  have ai:l[k0]? = some l[k0]:=List.getElem?_eq_getElem af
  have G:k0∈Region.ready .any l.toArray listed :=
   mem_ready.2 ⟨by simpa [ad] using ah,l[k0],by simp,fun ed he hb=>ak _ ((Ea hB ai).1 ed he hb)⟩
  refine ⟨fun h0=>absurd G (by rw [h0];simp),fun i D=>?_⟩
  obtain ⟨H,o,ho,K⟩:=mem_ready.1 D
  have ho':l[i]? = some o:=by simpa using ho
  have au:i<l.length:=(Af.1 ho').1
  have b:i<listed.size:=by rw [inv.size];omega
  have O:listed.getD i false=false:=by simpa [b] using H
  have C:∀ j,LO (FI l []) i j=true->listed.getD j false=true:=fun j hj=>TS hB inv.closed j i o ho' K hj
  have N:fuel=(listed.setIfInBounds i true).toList.count false:=by
   have ab:listed[i]=false:=by simpa [b] using H
   have ar:0<listed.toList.count false:=List.count_pos_iff.2 (by rw [<-ab];simp)
   rw [Array.toList_setIfInBounds,List.count_set (by simpa using b)]
   simp only [Array.getElem_toList,ab]
   rw [Ad (show (false == false)=true from rfl),Ae (show ¬ (true == false)=true by decide)]
   omega
  have hclosed:∀ (j:Nat) (oj:Oper),l[j]? = some oj->(listed.setIfInBounds i true).getD j false=true->∀ ed∈oj.after,Region.binds .any ed=true->(listed.setIfInBounds i true).getD ed.on false=true:=by
   intro j oj hj J ed he hb
   rw [D2 b] at J ⊢
   split
   ·rfl
   ·by_cases c:i=j
    ·subst c
     rw [ho'] at hj;cases hj
     exact K ed he hb
    ·rw [Ae c] at J
     exact inv.closed j oj hj J ed he hb
  unfold wpOpIn
  simp only [ho]
  by_cases hie:i∈ef
  ·-- an effect
   have ag:dn.contains i=false:=by
    cases hq:dn.contains i with
    | false=>rfl
    | true=>have:=(inv.eff i hie).2 (by simpa using hq);rw [O] at this;cases this
   obtain ⟨o2,q1,q2,q3,Post,q4,am⟩:=g3 i hie ag (by
    refine List.all_eq_true.2 fun j hj=>?_
    cases hq:LO (FI l []) i j with
    | false=>rfl
    | true=>simpa using (inv.eff j hj).1 (C j hq))
   rw [ho'] at q1;cases q1
   have z:Rel w0 n M (B2 true l o ev) s a w:=by
    refine ⟨inv.rel,inv.tmps,fun t x hs=>?_⟩
    simp only [B2,if_true] at hs
    have U:=LA _ _ _ _ hs
    have hx:=HU _ _ _ _ hs
    by_cases A:∃ j∈dn,∃ o,l[j]? = some o/\o.dst=some t
    ·exact inv.done t x A hx
    ·have E:∀ j∈dn,∀ o,l[j]? = some o->o.dst≠some t:=fun j hj o ho hd=>A ⟨j,hj,o,ho,hd⟩
     rw [inv.evn t E] at hx
     by_cases Bf:∃ i o,i ∉ ef/\l[i]? = some o/\o.dst=some t
     ·obtain ⟨j,p,b1,b2,b3⟩:=Bf
      have J:=((Ea hB ho').2 j p t b2 b3).2 U
      have:LO (FI l []) i j=true:=by simpa [N7,hie,b1] using J
      exact inv.new t x E ⟨j,p,b1,b2,b3,C j this⟩ hx
     ·rw [noE1 t fun i o b1 b2 b3=>Bf ⟨i,o,b1,b2,b3⟩] at hx
      refine inv.old t x (fun j p hp hd=>?_) hx
      by_cases c:j∈ef
      ·cases hq:listed.getD j false with
       | false=>rfl
       | true=>exact absurd hd (E j ((inv.eff j c).1 hq) p hp)
      ·exact absurd ⟨j,p,c,hp,hd⟩ Bf
   have hw:Region.wanted o (yielded l.toArray a.tmps)=true:=by simp [Region.wanted,q2]
   rw [hw,Ad rfl]
   refine WH z ro m q4 Q _ fun v s' u w' M' Z hx hst hu=>?_
   have q5:=am v s' Z
   have keep:∀ t x,o.dst≠some t->entryOk w0 M w (a.tmps.getD t undef) x->entryOk w0 M' w' ((a.put o.dst u).tmps.getD t undef) x:=by
    intro t x f h1
    rw [Is a o.dst u t (by rw [inv.tmps];exact q3),Ae f]
    exact h1.mono hx
   refine ih _ _ _ M' k (i::dn) _ s' N q5 ⟨by simp [inv.size],fun q=>(by cases q),hclosed,fun j hj=>?_,fun j hj=>?_,hst,by rw [P2];exact inv.tmps,by rw [FM];exact inv.defers,inv.ext.trans hx,fun t ht=>?_,fun t x hA hx'=>?_,fun t x hA hN hx'=>?_,fun t x hO hx'=>?_⟩
   ·rw [D2 b]
    by_cases c:i=j
    ·subst c;simp
    ·rw [Ae c,inv.eff j hj];simp [Ne.symm c]
   ·rcases List.mem_cons.1 hj with rfl | hj
    ·exact hie
    ·exact inv.sub j hj
   ·have f:=ht i (List.mem_cons_self ..) o ho'
    have:look (Ip ev o.dst true v) t=look ev t:=by
     cases hd:o.dst with
     | none=>rfl
     | some d=>rw [hd] at f;simp only [Ip,look];rw [Ae (fun h=>f (by rw [h]))]
    rw [this]
    exact inv.evn t fun j hj=>ht j (List.mem_cons_of_mem _ hj)
   ·by_cases c:o.dst=some t
    ·rw [c] at hx'
     simp only [Ip,look,if_true,Option.some.injEq] at hx'
     subst hx'
     rw [Is a o.dst u t (by rw [inv.tmps];exact q3),Ad c]
     simpa only [entryOk,if_true] using hu
    ·have:look (Ip ev o.dst true v) t=look ev t:=by
      cases hd:o.dst with
      | none=>rfl
      | some d=>rw [hd] at c;simp only [Ip,look];rw [Ae (fun h=>c (by rw [h]))]
     rw [this] at hx'
     refine keep t x c (inv.done t x ?_ hx')
     obtain ⟨j,hj,p,hp,hd⟩:=hA
     rcases List.mem_cons.1 hj with rfl | hj
     ·rw [ho'] at hp;cases hp;exact absurd hd c
     ·exact ⟨j,hj,p,hp,hd⟩
   ·have f:=hA i (List.mem_cons_self ..) o ho'
    refine keep t x f (inv.new t x (fun j hj=>hA j (List.mem_cons_of_mem _ hj)) ?_ hx')
    obtain ⟨j,p,b1,b2,b3,V⟩:=hN
    rw [D2 b] at V
    by_cases c:i=j
    ·subst c;exact absurd hie b1
    ·rw [Ae c] at V;exact ⟨j,p,b1,b2,b3,V⟩
   ·have f:o.dst≠some t:=fun hd=>by
     have:=hO i o ho' hd
     rw [D2 b,Ad rfl] at this;cases this
    refine keep t x f (inv.old t x (fun j p hp hd=>?_) hx')
    have:=hO j p hp hd
    rw [D2 b] at this
    by_cases c:i=j
    ·rw [Ad c] at this;cases this
    ·rwa [Ae c] at this
  ·-- one of the others
   have g:∀ j∈dn,∀ p,l[j]? = some p->LO (FI l []) j i=true->False:=by
    intro j hj p hp aj
    have aq:=(inv.eff j (inv.sub j hj)).2 hj
    have:=TS hB inv.closed i j p hp (inv.closed j p hp aq) aj
    rw [O] at this;cases this
   obtain ⟨Ei,v,t2,t3,t5,t6,t7⟩:=hF dn s g1 i o hie (fun j hj=>by
    have c:j<l.length:=by simpa using List.all_eq_true.1 (Bool.and_eq_true_iff.1 hB).1 j (inv.sub j hj)
    cases hq:LO (FI l []) j i with
    | false=>rfl
    | true=>exact (g j hj _ (List.getElem?_eq_getElem c) hq).elim) (fun D=>by
    cases hdn:dn with
    | nil=>exact inv.ini hdn
    | cons j r =>
     have hj:j∈dn:=by rw [hdn];exact List.mem_cons_self ..
     have hje:=inv.sub j hj
     have c:j<l.length:=by simpa using List.all_eq_true.1 (Bool.and_eq_true_iff.1 hB).1 j hje
     exact (g j hj _ (List.getElem?_eq_getElem c) (List.all_eq_true.1 (List.all_eq_true.1 hel j hje) i D)).elim) ho'
   have z:Rel w0 n M (B2 true l o Ei) s a w:=by
    refine ⟨inv.rel,inv.tmps,fun t x hs=>?_⟩
    simp only [B2,if_true] at hs
    have U:=LA _ _ _ _ hs
    have hx:=HU _ _ _ _ hs
    have E:∀ j∈dn,∀ p,l[j]? = some p->p.dst≠some t:=by
     intro j hj p hp hd
     have J:=((Ea hB ho').2 j p t hp hd).2 U
     have hje:=inv.sub j hj
     exact g j hj p hp (by simpa [N7,hie,hje] using J)
    rw [t6 t U] at hx
    by_cases Bf:∃ i o,i ∉ ef/\l[i]? = some o/\o.dst=some t
    ·obtain ⟨j,p,b1,b2,b3⟩:=Bf
     have J:=((Ea hB ho').2 j p t b2 b3).2 U
     have ae:j<i/\LO (FI l []) i j=true:=by simpa [N7,hie,b1] using J
     exact inv.new t x E ⟨j,p,b1,b2,b3,C j ae.2⟩ hx
    ·rw [noE1 t fun i o b1 b2 b3=>Bf ⟨i,o,b1,b2,b3⟩] at hx
     refine inv.old t x (fun j p hp hd=>?_) hx
     by_cases c:j∈ef
     ·cases hq:listed.getD j false with
      | false=>rfl
      | true=>exact absurd hd (E j ((inv.eff j c).1 hq) p hp)
     ·exact absurd ⟨j,p,c,hp,hd⟩ Bf
   refine Re z ro m t2 t5 Q _ fun u w' M' hx hst hu=>?_
   have keep:∀ t x,o.dst≠some t->entryOk w0 M w (a.tmps.getD t undef) x->entryOk w0 M' w' ((a.put o.dst u).tmps.getD t undef) x:=by
    intro t x f h1
    rw [Is a o.dst u t (by rw [inv.tmps];exact t3),Ae f]
    exact h1.mono hx
   have ap:∀ t,o.dst=some t->∀ j∈dn,∀ p,l[j]? = some p->p.dst≠some t:=by
    intro t hd j hj p hp aa
    have hje:=inv.sub j hj
    rcases ((Ea hB ho').2 j p t hp aa).1 hd with h | h
    ·subst h;exact hie hje
    ·exact g j hj p hp (by simpa [RS,hie,hje] using h)
   refine ih _ _ _ M' (k+1) dn ev s N ⟨g1,g2,g3⟩ ⟨by simp [inv.size],inv.ini,hclosed,fun j hj=>?_,inv.sub,hst,by rw [P2];exact inv.tmps,by rw [FM];exact inv.defers,inv.ext.trans hx,inv.evn,fun t x hA hx'=>?_,fun t x hA hN hx'=>?_,fun t x hO hx'=>?_⟩
   ·rw [D2 b,Ae (fun (h:i=j)=>hie (h▸hj))]
    exact inv.eff j hj
   ·refine keep t x (fun hd=>?_) (inv.done t x hA hx')
    obtain ⟨j,hj,p,hp,aa⟩:=hA
    exact ap t hd j hj p hp aa
   ·by_cases c:o.dst=some t
    ·rw [Is a o.dst u t (by rw [inv.tmps];exact t3),Ad c]
     have e3:=t7 t c
     rw [hx'] at e3
     cases e3
     exact hu
    ·refine keep t x c (inv.new t x hA ?_ hx')
     obtain ⟨j,p,b1,b2,b3,V⟩:=hN
     rw [D2 b] at V
     by_cases c':i=j
     ·subst c';rw [ho'] at b2;cases b2;exact absurd b3 c
     ·rw [Ae c'] at V;exact ⟨j,p,b1,b2,b3,V⟩
   ·have f:o.dst≠some t:=fun hd=>by
     have:=hO i o ho' hd
     rw [D2 b,Ad rfl] at this;cases this
    refine keep t x f (inv.old t x (fun j p hp hd=>?_) hx')
    have:=hO j p hp hd
    rw [D2 b] at this
    by_cases c:i=j
    ·rw [Ad c] at this;cases this
    ·rwa [Ae c] at this
def Conv (w0:World) (n nb:Nat) (e:Env) (s:St) (e':Env) (s':St):Prop:=∀ M a w,Rel w0 n M e s a w->∃ M',(∀ Ms ws,Ms.N=nb->Ext w0 Ms ws M w->Ext w0 Ms ws M' w)/\Rel w0 n M' e' s' a w
theorem Good.imp {l:List Oper} {ef:List Nat} {F:St->Prop} {T T':Env->St->Prop} (hT:∀ ev s,T ev s->T' ev s):∀ k dn ev s,Good P w0 n l ef F T k dn ev s->Good P w0 n l ef F T' k dn ev s
 | 0,_,_,_,h=>h
 | k+1,_,_,_,h=>⟨h.1,fun q=>hT _ _ (h.2.1 q),fun i a b c=>by
  obtain ⟨o,p1,p2,e,Post,g,d⟩:=h.2.2 i a b c
  exact ⟨o,p1,p2,e,Post,g,fun v f q=>Good.imp hT k _ _ _ (d v f q)⟩⟩
section
variable {M0:Mem} {W0:World} {ro:Option Nat} {Q:AQ} {e:Env} {st:St}
theorem W9 (hm:P.follows .mixedOrders=true) (ef el L:List Nat) {id:Nat} {l:List Oper} (hB:KV l ef=true) (hel:Wb l ef el=true) (F:St->Prop) (k nb:Nat) {e1:Env} (hnb:st.boxes.length=nb)
  (hN:∀ t,(∀ i o,i ∉ ef->l[i]? = some o->o.dst≠some t)->look e1 t=look e t) (hF:∀ s,F s->∀ i o,i ∉ ef->(i∈el->s=st)->l[i]? = some o->Zem P w0 n l e1 s o)
  (hG:Good P w0 n l ef F (fun ev s=>∃ e2 s2,Conv w0 n nb ev s e2 s2/\Q .normal (BW L e2) s2) k [] e1 st):CW P w0 n M0 W0 ro (.region id l.toArray true) Q e st:=by
 intro m M a w hr
 obtain ⟨d1,d2⟩:=hr.rel.st.drew
 refine wpIn_region_any hm (Zab (s0:=st) (e:=e) (e1:=e1) (M1:=M) (w1:=w) (ds:=a.defers) hB hel hN (fun _ s h i o C _ g u=>hF s h i o C g u) (fun ev s D v y d b z hd=>?_) _ _ a _ M k [] e1 st ?_ hG ?_)
 ·obtain ⟨e2,s2,d,q⟩:=d
  obtain ⟨M2,r,p⟩:=d D v y b
  have f:=r M w (hr.rel.st.N.trans hnb) z
  refine ⟨M2,_,_,⟨p.sub (BD L _),hr.ext.trans f,?_⟩,q⟩
  rw [hd]
  exact hr.marks.later f hr.rel.st
 ·simp
 ·have hnl:∀ j,(Array.replicate l.toArray.size false).getD j false=false:=fun j=>by
   by_cases c:j<l.length
   ·simp [Array.getD_eq_getD_getElem?,c]
   ·simp [Array.getD_eq_getD_getElem?,c]
  exact ⟨by simp,fun _=>rfl,fun j _ _ hl=>(by rw [hnl] at hl;cases hl),fun i _=>(by rw [hnl];simp),fun _ h=>(nomatch h),d1,hr.rel.size,rfl,d2,fun _ _=>rfl,fun _ _ ⟨_,h,_⟩=>(nomatch h),
   fun _ _ _ ⟨i,_,_,_,_,h⟩=>(by rw [hnl] at h;cases h),fun t x _ hs=>(hr.rel.env t x hs).mono d2⟩
theorem Ud (hm:P.follows .mixedOrders=true) (ef L:List Nat) {id:Nat} {l:List Oper} (hB:KV l ef=true) (F:St->Prop) (k nb:Nat) {e1:Env} (hnb:st.boxes.length=nb)
  (hF:∀ s,F s->∃ c,Ru P w0 n true l (fun e' s'=>e'=e1/\s'=s) c (BK ef 0 l) e s) (hG:Good P w0 n l ef F (fun ev s=>∃ e2 s2,Conv w0 n nb ev s e2 s2/\Q .normal (BW L e2) s2) k [] e1 st):CW P w0 n M0 W0 ro (.region id l.toArray true) Q e st :=
 have a:F st:=by
  cases k with
  | zero=>exact hG.elim
  | succ k=>exact hG.1
 W9 hm ef [] L hB (by simp [Wb]) F k nb hnb (Wj hB (hF st a)).1 (fun s h i o b _ d=>(Wj hB (hF s h)).2 i o b d) hG
theorem DF (hm:P.follows .mixedOrders=true) (ef L:List Nat) {id:Nat} {l:List Oper} (hB:KV l ef=true) (F:St->Prop) (k nb:Nat) {e1 e2:Env} {s2:St} (hnb:st.boxes.length=nb)
  (hF:∀ s,F s->∃ c,Ru P w0 n true l (fun e' s'=>e'=e1/\s'=s) c (BK ef 0 l) e s) (hG:Good P w0 n l ef F (fun ev s=>Conv w0 n nb ev s e2 s2) k [] e1 st) (hQ:Q .normal (BW L e2) s2):CW P w0 n M0 W0 ro (.region id l.toArray true) Q e st :=
 Ud hm ef L hB F k nb hnb hF (hG.imp (fun _ _ h=>⟨e2,s2,h,hQ⟩))
theorem IA (hm:P.follows .mixedOrders=true) (ef el L:List Nat) {id:Nat} {l:List Oper} (hB:(KV l ef&&Wb l ef el)=true) (F:St->Prop) (k nb:Nat) {e1 e2:Env} {s2:St} (hnb:st.boxes.length=nb)
  (h0:∃ c,Ru P w0 n true l (fun e' s'=>e'=e1/\s'=st) c (BK ef 0 l) e st)
  (hF:∀ s,F s->∃ c,Ru P w0 n true l (fun e' s'=>s'=s/\PreOk e1 e') c (BK (ef++el) 0 l) e1 s) (hG:Good P w0 n l ef F (fun ev s=>Conv w0 n nb ev s e2 s2) k [] e1 st) (hQ:Q .normal (BW L e2) s2):CW P w0 n M0 W0 ro (.region id l.toArray true) Q e st :=
 have a:=Bool.and_eq_true_iff.1 hB
 W9 hm ef el L a.1 a.2 F k nb hnb (Wj a.1 h0).1 (fun s h i o b f d=>by
  by_cases c:i∈el
  ·rw [f c];exact (Wj a.1 h0).2 i o b d
  ·exact Zex a.1 (hF s h) i o b c d) (hG.imp (fun _ _ h=>⟨e2,s2,h,hQ⟩))
end
theorem BM (L:List Nat) {nb:Nat} {e e':Env} {s:St} (h:BW L e=e'):Conv w0 n nb e s e' s:=fun M _ w a=>⟨M,fun _ _ _ h=>h,by rw [<-h];exact a.sub (BD L e)⟩
def VD (l:List Oper) (ef dn:List Nat):List Nat:=ef.filter fun i => !dn.contains i&&ef.all fun j => !LO (FI l []) i j||dn.contains j
theorem Good.mk {l:List Oper} {ef dn:List Nat} {F:St->Prop} {T:Env->St->Prop} {k:Nat} {ev:Env} {s:St} (rs:List Nat) (hr:VD l ef dn=rs) (hF:F s) (hT:(ef.all fun i=>dn.contains i)=true->T ev s)
  (h:∀ i∈rs,∃ o,l[i]? = some o/\o.guard=none/\ID n o.dst/\∃ Post:AV->St->Prop,SJ P w0 (B2 true l o ev) s o Post/\∀ v s',Post v s'->Good P w0 n l ef F T k (i::dn) (Ip ev o.dst true v) s'):Good P w0 n l ef F T (k+1) dn ev s :=
 ⟨hF,hT,fun i b hd a=>h i (by rw [<-hr];exact List.mem_filter.2 ⟨b,by rw [hd,a];rfl⟩)⟩
theorem GoodD.mk {l:List Oper} {ef dn:List Nat} {F:List Nat->St->Prop} {T:Env->St->Prop} {k:Nat} {ev:Env} {s:St} (rs:List Nat) (hr:VD l ef dn=rs) (hF:F dn s) (hT:(ef.all fun i=>dn.contains i)=true->T ev s)
  (h:∀ i∈rs,∃ o,l[i]? = some o/\o.guard=none/\ID n o.dst/\∃ Post:AV->St->Prop,SJ P w0 (B2 true l o ev) s o Post/\∀ v s',Post v s'->GoodD P w0 n l ef F T k (i::dn) (Ip ev o.dst true v) s'):GoodD P w0 n l ef F T (k+1) dn ev s :=
 ⟨hF,hT,fun i b hd a=>h i (by rw [<-hr];exact List.mem_filter.2 ⟨b,by rw [hd,a];rfl⟩)⟩
theorem Aw {l:List Oper} {ef dn:List Nat} {F:St->Prop} {T:Env->St->Prop} {k i:Nat} {ev:Env} {s:St} {o:Oper} {v:AV} {s':St} (ho:l[i]? = some o) (hg:o.guard=none) (hd:ID n o.dst) (hs:A7 P w0 (B2 true l o ev) s o v s')
  (hk:Good P w0 n l ef F T k (i::dn) (Ip ev o.dst true v) s'):∃ o,l[i]? = some o/\o.guard=none/\ID n o.dst/\∃ Post:AV->St->Prop,SJ P w0 (B2 true l o ev) s o Post/\∀ v s',Post v s'->Good P w0 n l ef F T k (i::dn) (Ip ev o.dst true v) s' :=
 ⟨o,ho,hg,hd,fun r t=>r=v/\t=s',.inr ⟨v,s',hs,fun _ _ h=>h⟩,by rintro _ _ ⟨rfl,rfl⟩;exact hk⟩
theorem Ta {l:List Oper} {ef dn:List Nat} {F:St->Prop} {T:Env->St->Prop} {k i:Nat} {ev:Env} {s:St} {o:Oper} {f:Operand} {args:Array Operand} {ts:Array TypeId} {Post:AV->St->Prop} (ho:l[i]? = some o) (hg:o.guard=none) (hd:ID n o.dst) (hop:o.op = .call ⟨.value f,args,ts⟩)
  (h1:A4 (B2 true l o ev) true f) (h2:∀ x∈args.toList,A4 (B2 true l o ev) true x) (h3:LX P w0 (Au (B2 true l o ev) f) (args.toList.map fun x=>argP (B2 true l o ev) (Au (B2 true l o ev) x)) s Post)
  (hk:∀ v s',Post v s'->Good P w0 n l ef F T k (i::dn) (Ip ev o.dst true v) s'):∃ o,l[i]? = some o/\o.guard=none/\ID n o.dst/\∃ Post:AV->St->Prop,SJ P w0 (B2 true l o ev) s o Post/\∀ v s',Post v s'->Good P w0 n l ef F T k (i::dn) (Ip ev o.dst true v) s' :=
 ⟨o,ho,hg,hd,Post,.inl ⟨by rw [hop];rfl,by rw [hop];exact ⟨h1,h2,h3⟩⟩,hk⟩
theorem Zbs {f:FuncId} {args args' cs:List AV} {st:St} {v:AV} (h:ACalls P w0 f args' st fun r s=>r=v/\s=st) (he:(args++cs).map AV.pubA=args'):LX P w0 (.clo f cs) args st fun r t=>r=v/\t=st:=h.pub he
end
def Tg {α:Type} (_:α):Prop:=True
theorem tg {α:Type} {a:α}:Tg a:=trivial
theorem cl {p:Prop} (h:p:=by first | (intros;omega) | (intros;(repeat' with_reducible apply Ac)<;>assumption) | (intros;simp_all;done) | (intros;simp only [Bool.or_eq_false_iff,Bool.or_eq_true,Bool.and_eq_true,Bool.and_eq_false_iff,decide_eq_true_eq,decide_eq_false_iff_not,bne_iff_ne] at *; omega)):p:=h
theorem pf {p:Prop} (h:p:=by first | exact List.prefix_append _ _ | exact List.prefix_refl _ | (rw [List.append_assoc];exact List.prefix_append _ _)):p:=h
theorem ev {p:Prop} (h:p:=by simp +decide only [go_sem,Nat.reduceAdd]):p:=h
theorem ef {p F:Prop} (f:F) (h:F->p:=by intro hs;first | rfl | (simp +decide only [go_sem,Nat.reduceAdd,hs];done)):p:=h f
theorem en {p F:Prop} (f:F) (h:F->p:=by intro hs;first | (simp +decide only [go_sem,Nat.reduceAdd,hs];done) | (simp +decide only [go_sem,Nat.reduceAdd,hs];rfl)):p:=h f
theorem ow {p:Prop} (h:p:=by (simp +decide only [go_sem,Nat.reduceAdd,G1])<;>(try (repeat' apply Ac))<;>first | omega | assumption):p:=h
theorem Rr:(0:Nat)=0:=rfl
section
variable {P:Program} {w0:World} {n:Nat} {M0:Mem} {W0:World} {ro:Option Nat} {e:Env} {st:St} {Q:AQ}
theorem IE {c:Nat} {L:List Nat} (tc:Tg c) (tL:Tg L) {id:Nat} {l:List Oper} (h:Ru P w0 n false l (fun e' st'=>Q .normal (BW L e') st') c l e st):CW P w0 n M0 W0 ro (.region id l.toArray false) Q e st:=Ap c L h
theorem Si {L:List Nat} (t:Tg L) {c:Code} (h:CW P w0 n M0 W0 ro c Q (BW L e) st):CW P w0 n M0 W0 ro c Q e st:=CX _ h (BD _ _)
theorem Qo {h c1 c2:Nat} {L:List Nat} (tt:Tg (h,c1,c2,L)) (hm:P.follows .mixedOrders=true) {id:Nat} {l:List Oper} (hB:UV l h=true)
  (hev:Ru P w0 n true l (fun e1 s1=>Ru P w0 n false l (fun e2 s2=>Q .normal (BW L e2) s2) c2 (l.drop h) e1 s1) c1 (l.take h) e st):CW P w0 n M0 W0 ro (.region id l.toArray true) Q e st:=P0 hm h c1 c2 L hB hev
theorem Gn {c d:Bool} {fv:AV} {args:List AV} {k:AV->St->Prop} (h:I2 P w0 c d fv args st k):I2 P w0 c d fv args st k:=h
theorem BA {β:Type} {F:Prop} {b:Bool} {X Y r:β} (h:(if b=true then X else Y)=r) (f:F) {c:Operand} {x y:Code} (ht:(b=true/\F)->X=r->CW P w0 n M0 W0 ro x Q e st) (hf:(b=false/\F)->Y=r->CW P w0 n M0 W0 ro y Q e st)
  (hc:A4 e true c:=by simp +decide only [go_sem,Nat.reduceAdd]) (hb:F->Au e c = .val (.bool b):=by intro hs;first | (simp +decide only [go_sem,Nat.reduceAdd,hs];done) | (simp +decide only [go_sem,Nat.reduceAdd,hs];rfl)):CW P w0 n M0 W0 ro (.cond c x y) Q e st :=
 Bl b hc (hb f) (fun q=>ht ⟨q,f⟩ (BO h q)) (fun q=>hf ⟨q,f⟩ (BP h q))
theorem td {B0 B bs X:List (List AV)} {Rw rows:List RowA} {L:List LoopA} {l:List (Nat × Nat × Own)} {c:Code} (hN:M0.N=B0.length) (hNR:M0.NR=Rw.length) (hNL:M0.NL=L.length) (hc:Calm B0.length Rw.length L.length ⟨B,Rw,L⟩) (ho:Owns Rw rows l)
  (h:CW P w0 n M0 W0 ro c Q e ⟨B++bs,rows,L⟩) (hB:B.length=B0.length:=by first | rfl | simp only [List.length_set])
  (hbs:∀ cs∈bs,∀ x∈cs,Under (B0.length+bs.length) rows.length L.length x:=by (simp +decide only [go_sem,Nat.reduceAdd])<;>(try (repeat' apply Ac))<;>first | omega | assumption)
  (he:G1 (B0.length+bs.length) rows.length L.length e:=by (simp +decide only [go_sem,Nat.reduceAdd,G1])<;>(try (repeat' apply Ac))<;>first | omega | assumption):CW P w0 n M0 W0 ro c Q e ⟨B++(bs++X),rows,L⟩ :=
 A8 hN hNR hNL hB hc ho hbs he h
end
section
variable {P:Program} {w0:World} {n:Nat} {M0:Mem} {W0:World} {ro:Option Nat} {e:Env} {st:St} {Q:AQ}
theorem IH (t:TypeId) (hn:n<=1000000) {c:Code} (h:CW P w0 n M0 W0 ro c Q ((1000000+t,false,.junk)::e) st):CW P w0 n M0 W0 ro c Q e st :=
 Iy _ _ (fun M a w b=>⟨M,.refl _ _ _,b.st,b.size,fun s x hs=>by
  simp only [look] at hs
  by_cases q:1000000+t=s
  ·rw [Ad q] at hs
   cases hs
   have d:1000000<=s:=by rw [<-q];exact Nat.le_add_right _ _
   simp only [entryOk,Bool.false_eq_true,if_false]
   rw [Array.getD_eq_getD_getElem?,Array.getElem?_eq_none (by rw [b.size];omega)]
   rfl
  ·rw [Ae q] at hs
   exact b.env s x hs⟩) h
end
theorem rg {F p q:Prop} (L:List Nat) (f:F) (k:q) (h:Tg L->F->q->p:=by
  intro tL hs hq
  apply Ah;intro K hK
  refine IE (c:=1) tg tL ?_
  rw [Ai];simp +decide only [go_sem,Nat.reduceAdd,hs]
  first | (refine hK _ _ ?_;exact hq) | ((repeat' apply Ac)<;>first | (refine hK _ _ ?_;exact hq) | (clear hq;exact cl))):p:=h tg f k
theorem rc {F p q:Prop} (c:Nat) (L:List Nat) (f:F) (k:q) (h:Tg c->Tg L->F->q->p:=by
  intro tc tL hs hq
  apply Ah;intro K hK
  refine IE tc tL ?_
  rw [Ai];simp +decide only [go_sem,Nat.reduceAdd,hs]
  first | (refine Gn ?_;revert K;exact hq) | ((repeat' apply Ac)<;>first | (refine Gn ?_;revert K;exact hq) | (clear hq;exact cl))):p:=h tg tg f k
theorem nc {F p q:Prop} (f:F) (k:q) (h:F->q->p:=by
  intro hs hq
  rw [Ai];simp +decide only [go_sem,Nat.reduceAdd,hs]
  first | (refine Gn ?_;exact hq) | ((repeat' apply Ac)<;>first | (refine Gn ?_;exact hq) | (clear hq;exact cl))):p:=h f k
theorem ne {F p q:Prop} (f:F) {K:Env->St->Prop} {A:Env->St->Prop} (hK:∀ e s,A e s->K e s) (k:q) (h:F->(∀ e s,A e s->K e s)->q->p:=by
  intro hs hK hq
  rw [Ai];simp +decide only [go_sem,Nat.reduceAdd,hs]
  first | (refine hK _ _ ?_;exact hq) | ((repeat' apply Ac)<;>first | (refine hK _ _ ?_;exact hq) | (clear hq;exact cl))):p:=h f hK k
theorem dg {F p q:Prop} (m c1 c2:Nat) (L:List Nat) (f:F) {P:Program} (hm:P.follows .mixedOrders=true) (k:q) (h:Tg (m,c1,c2,L)->F->P.follows .mixedOrders=true->q->p:=by
  intro tt hs hm hq
  apply Ah;intro K hK
  refine Qo tt hm (by kernel_rfl) ?_
  rw [Ai];simp +decide only [go_sem,Nat.reduceAdd,hs]
  (repeat' with_reducible apply Ac)<;>first | (rw [Ai];simp +decide only [go_sem,Nat.reduceAdd,hs]) | (clear hq;exact cl)
  first | (refine hK _ _ ?_;exact hq) | ((repeat' apply Ac)<;>first | (refine hK _ _ ?_;exact hq) | (clear hq;exact cl))):p:=h tg f hm k
theorem sk {F p q:Prop} (L:List Nat) (f:F) {A K:Env->St->Prop} (hK:∀ e s,A e s->K e s) (k:q) (h:Tg L->F->(∀ e s,A e s->K e s)->q->p:=by
  intro tL hs hK hq
  refine Si tL ?_
  apply BB;simp +decide only [go_sem,Nat.reduceAdd]
  first | (refine hK _ _ ?_;exact hq) | ((repeat' apply Ac)<;>first | (refine hK _ _ ?_;exact hq) | (clear hq;exact cl))):p:=h tg f hK k
theorem sx {F p q:Prop} (L:List Nat) (f:F) {A K:Env->St->Prop} (hK:∀ e s,A e s->K e s) (k:q) (h:Tg L->F->(∀ e s,A e s->K e s)->q->p:=by
  intro tL hs hK hq
  refine Si tL ?_
  apply D4;simp +decide only [go_sem,Nat.reduceAdd]
  first | (refine hK _ _ ?_;exact hq) | ((repeat' apply Ac)<;>first | (refine hK _ _ ?_;exact hq) | (clear hq;exact cl))):p:=h tg f hK k
theorem rl {F p q:Prop} (L:List Nat) (f:F) {A K:Env->St->Prop} (hK:∀ e s,A e s->K e s) (k:q) (h:Tg L->F->(∀ e s,A e s->K e s)->q->p:=by
  intro tL hs hK hq
  refine IE (c:=1) tg tL ?_
  rw [Ai];simp +decide only [go_sem,Nat.reduceAdd,hs]
  first | (refine hK _ _ ?_;exact hq) | ((repeat' apply Ac)<;>first | (refine hK _ _ ?_;exact hq) | (clear hq;exact cl))):p:=h tg f hK k
theorem rk {F p q:Prop} (c:Nat) (L:List Nat) (f:F) (k:q) (h:Tg c->Tg L->F->q->p:=by
  intro tc tL hs hq
  refine IE tc tL ?_
  rw [Ai];simp +decide only [go_sem,Nat.reduceAdd,hs]
  first | (refine Gn ?_;exact hq) | ((repeat' apply Ac)<;>first | (refine Gn ?_;exact hq) | (clear hq;exact cl))):p:=h tg tg f k
theorem hd {P:Program} {w0:World} {f:FuncId} {fn:Func} {c:Code} {n:Nat} {args:List AV} {B:List (List AV)} {Rw:List RowA} {L:List LoopA} {Post:AV->St->Prop} (rs:List ResultVar) (hf:P.funcs[f]? = some fn) (hn:fn.ntmps=n)
  (k:∀ (M0:Mem) (W0:World),M0.N=B.length->M0.NR=Rw.length->M0.NL=L.length->Calm B.length Rw.length L.length ⟨B,Rw,L⟩->(∀ x∈args,Under B.length Rw.length L.length x)->Owns Rw Rw []->(0:Nat)=0 ->
   CW P w0 n M0 W0 none c (ZaT P rs (finP ⟨B,Rw,L⟩ Post)) (As 0 args) ⟨B,Rw,L⟩)
  (hb:fn.body=some c:=by rfl) (hrs:fn.results=rs.toArray:=by rfl) (hm:fn.name ≠ "runtime.NumGoroutine" := by decide) (ha:args.length<=n:=by exact Nat.le_of_ble_eq_true rfl):ACalls P w0 f args ⟨B,Rw,L⟩ Post :=
 ACalls.finP (BN (rs:=rs) hf hb hrs hn (AU hf (by rw [hb];rfl) hm) ha fun M0 W0 e a b d g=>k M0 W0 e a b d g (Owns.none Rw) rfl)
theorem ix {α β:Type} {l:List α} {i:Int} {F:α->Option β} {r:β} (g:α->AV) (h:(D1 l i).bind F=some r):∃ x,0<=i/\i<l.length/\(l.map g).getD i.toNat .junk=g x/\F x=some r:=by
 obtain ⟨x,d,h⟩:=bind_some h
 obtain ⟨a,b,c⟩:=Bo d
 exact ⟨x,a,b,Bq c,h⟩
abbrev Ck (e:Env) (st:St) (B:Aj) (Rw:Am) (L:An) (e0:Env) (bs:Aj) (ow:List (Nat × Nat × Own)) (c:Prop):Prop :=
 ∃ (X:Aj) (rows:Am),e=e0/\st=⟨B++(bs++X),rows,L⟩/\Owns Rw rows ow/\c
end Go.Ev
namespace Go.Proofs
open Go.Shelf
def Tryz.lays106_ren:Go.Shelf.Ren:=⟨fun | 106=>48 | 213=>80 | 265=>117 | n=>n,fun | 9=>9 | 3=>3 | n=>n,fun | n=>n⟩
theorem Tryz.lays106:Go.Proofs.Lays.n106 Tryz.prog Tryz.lays106_ren:={
 mixed:=by kernel_rfl
 f106:=Tryz.func48.trans (congrArg some (by kernel_rfl))
 f213:=Tryz.func80.trans (congrArg some (by kernel_rfl))
 f265:=Tryz.func117.trans (congrArg some (by kernel_rfl))
 t3:=Tryz.underlying3
 a3:=Tryz.isAgg3
 z3:=Tryz.sizeOf3
 v3:=Tryz.zeroValue3
 t9:=Tryz.underlying9
 a9:=Tryz.isAgg9
 z9:=Tryz.sizeOf9
 v9:=Tryz.zeroValue9 }
open Go.RowKit in
theorem Tryz.strings_Compare (a b:ByteArray) (w:World) :
  Calls Tryz.prog 48 #[.string a,.string b] w fun e w'=>e = .returned (.int .i64 (Lib.compareBytes a.data.toList b.data.toList))/\w'=w:=Any.strings_Compare Tryz.lays106 a b w
def Tryz.laysM171_ren:Go.Shelf.Ren:=⟨fun | 171=>63 | 243=>91 | 246=>127 | 283=>180 | 284=>181 | 285=>182 | 286=>183 | 129=>116 | 317=>219 | 318=>220 | 319=>221 | 320=>222 | 337=>263 | 338=>264 | n=>n,fun | 3=>3 | 9=>9 | 2=>2 | 4=>4 | 171=>259 | 0=>0 | 53=>202 | 37=>110 | 5=>5 | 173=>261 | 212=>303 | 51=>200 | 20=>20 | 213=>304 | 46=>159 | 232=>373 | 233=>374 | n=>n,fun | 17=>3 | 18=>4 | 19=>5 | n=>n⟩
theorem Tryz.laysM171:Go.Proofs.LaysM.n171 Tryz.prog Tryz.laysM171_ren:={
 mixed:=by kernel_rfl
 f129:=Tryz.func116.trans (congrArg some (by kernel_rfl))
 f171:=Tryz.func63.trans (congrArg some (by kernel_rfl))
 f243:=Tryz.func91.trans (congrArg some (by kernel_rfl))
 f246:=Tryz.func127.trans (congrArg some (by kernel_rfl))
 f283:=Tryz.func180.trans (congrArg some (by kernel_rfl))
 f284:=Tryz.func181.trans (congrArg some (by kernel_rfl))
 f285:=Tryz.func182.trans (congrArg some (by kernel_rfl))
 f286:=Tryz.func183.trans (congrArg some (by kernel_rfl))
 f317:=Tryz.func219.trans (congrArg some (by kernel_rfl))
 f318:=Tryz.func220.trans (congrArg some (by kernel_rfl))
 f319:=Tryz.func221.trans (congrArg some (by kernel_rfl))
 f320:=Tryz.func222.trans (congrArg some (by kernel_rfl))
 f337:=Tryz.func263.trans (congrArg some (by kernel_rfl))
 f338:=Tryz.func264.trans (congrArg some (by kernel_rfl))
 t0:=Tryz.underlying0
 a0:=Tryz.isAgg0
 z0:=Tryz.sizeOf0
 v0:=Tryz.zeroValue0
 t2:=Tryz.underlying2
 a2:=Tryz.isAgg2
 z2:=Tryz.sizeOf2
 v2:=Tryz.zeroValue2
 t3:=Tryz.underlying3
 a3:=Tryz.isAgg3
 z3:=Tryz.sizeOf3
 v3:=Tryz.zeroValue3
 t4:=Tryz.underlying4
 a4:=Tryz.isAgg4
 z4:=Tryz.sizeOf4
 v4:=Tryz.zeroValue4
 t5:=Tryz.underlying5
 a5:=Tryz.isAgg5
 z5:=Tryz.sizeOf5
 v5:=Tryz.zeroValue5
 t9:=Tryz.underlying9
 a9:=Tryz.isAgg9
 z9:=Tryz.sizeOf9
 v9:=Tryz.zeroValue9
 t20:=Tryz.underlying20
 a20:=Tryz.isAgg20
 z20:=Tryz.sizeOf20
 v20:=Tryz.zeroValue20
 t37:=Tryz.underlying110
 a37:=Tryz.isAgg110
 z37:=Tryz.sizeOf110
 v37:=Tryz.zeroValue110
 t46:=Tryz.underlying159
 a46:=Tryz.isAgg159
 z46:=Tryz.sizeOf159
 v46:=Tryz.zeroValue159
 t51:=Tryz.underlying200
 a51:=Tryz.isAgg200
 z51:=Tryz.sizeOf200
 v51:=Tryz.zeroValue200
 t53:=Tryz.underlying202
 a53:=Tryz.isAgg202
 z53:=Tryz.sizeOf202
 v53:=Tryz.zeroValue202
 t171:=Tryz.underlying259
 a171:=Tryz.isAgg259
 z171:=Tryz.sizeOf259
 v171:=Tryz.zeroValue259
 t173:=Tryz.underlying261
 a173:=Tryz.isAgg261
 z173:=Tryz.sizeOf261
 v173:=Tryz.zeroValue261
 t212:=Tryz.underlying303
 a212:=Tryz.isAgg303
 z212:=Tryz.sizeOf303
 v212:=Tryz.zeroValue303
 t213:=Tryz.underlying304
 a213:=Tryz.isAgg304
 z213:=Tryz.sizeOf304
 t232:=Tryz.underlying373
 a232:=Tryz.isAgg373
 z232:=Tryz.sizeOf373
 v232:=Tryz.zeroValue373
 t233:=Tryz.underlying374
 a233:=Tryz.isAgg374
 z233:=Tryz.sizeOf374
 v233:=Tryz.zeroValue374
 g17:=by kernel_rfl
 g18:=by kernel_rfl
 g19:=by kernel_rfl
 i0:=by kernel_rfl
 i2:=by kernel_rfl
 i3:=by kernel_rfl
 i4:=by kernel_rfl
 i5:=by kernel_rfl
 i9:=by kernel_rfl
 i20:=by kernel_rfl
 i37:=by kernel_rfl
 i46:=by kernel_rfl
 i51:=by kernel_rfl
 i53:=by kernel_rfl
 i171:=by kernel_rfl
 i173:=by kernel_rfl
 i212:=by kernel_rfl
 i232:=by kernel_rfl
 i233:=by kernel_rfl
 m17:=by kernel_rfl
 m18:=by kernel_rfl
 m19:=by kernel_rfl }
def Tryz.laysValid_ren:Go.Shelf.Ren:=⟨fun | 196=>165 | 259=>215 | n=>n,fun | 9=>9 | 4=>4 | 3=>3 | 5=>5 | 12=>12 | 119=>295 | 0=>0 | 46=>159 | 139=>298 | 138=>297 | 53=>202 | n=>n,fun | 3=>1 | 4=>2 | n=>n⟩
theorem Tryz.laysValid:Go.Proofs.Lays.n196 Tryz.prog Tryz.laysValid_ren:={
 mixed:=by kernel_rfl
 f196:=Tryz.func165.trans (congrArg some (by kernel_rfl))
 f259:=Tryz.func215.trans (congrArg some (by kernel_rfl))
 t0:=Tryz.underlying0
 a0:=Tryz.isAgg0
 z0:=Tryz.sizeOf0
 v0:=Tryz.zeroValue0
 t3:=Tryz.underlying3
 a3:=Tryz.isAgg3
 z3:=Tryz.sizeOf3
 v3:=Tryz.zeroValue3
 t4:=Tryz.underlying4
 a4:=Tryz.isAgg4
 z4:=Tryz.sizeOf4
 v4:=Tryz.zeroValue4
 t5:=Tryz.underlying5
 a5:=Tryz.isAgg5
 z5:=Tryz.sizeOf5
 v5:=Tryz.zeroValue5
 t9:=Tryz.underlying9
 a9:=Tryz.isAgg9
 z9:=Tryz.sizeOf9
 v9:=Tryz.zeroValue9
 t12:=Tryz.underlying12
 a12:=Tryz.isAgg12
 z12:=Tryz.sizeOf12
 v12:=Tryz.zeroValue12
 t46:=Tryz.underlying159
 a46:=Tryz.isAgg159
 z46:=Tryz.sizeOf159
 v46:=Tryz.zeroValue159
 t53:=Tryz.underlying202
 a53:=Tryz.isAgg202
 z53:=Tryz.sizeOf202
 v53:=Tryz.zeroValue202
 t119:=Tryz.underlying295
 a119:=Tryz.isAgg295
 z119:=Tryz.sizeOf295
 t138:=Tryz.underlying297
 a138:=Tryz.isAgg297
 z138:=Tryz.sizeOf297
 v138:=Tryz.zeroValue297
 t139:=Tryz.underlying298
 a139:=Tryz.isAgg298
 z139:=Tryz.sizeOf298
 v139:=Tryz.zeroValue298
 g3:=by kernel_rfl
 g4:=by kernel_rfl }
end Go.Proofs
namespace Go.Proofs.YtcpmjgdlioggjaaGreatDoor
open Go Go.RowKit Go.Ev
@[go_sem] theorem Zjm:B9 Tryz.prog 102=none/\B9 Tryz.prog 105=none/\B9 Tryz.prog 107=none/\B9 Tryz.prog 109=none/\B9 Tryz.prog 110=none/\B9 Tryz.prog 178=none/\B9 Tryz.prog 203=some (11,1,false)/\B9 Tryz.prog 214=none/\B9 Tryz.prog 216=none/\B9 Tryz.prog 22=none/\B9 Tryz.prog 221=none/\B9 Tryz.prog 24=none:=by (repeat' apply Ac)<;>kernel_rfl
@[go_sem] theorem Zkg:B9 Tryz.prog 25=none/\B9 Tryz.prog 26=none/\B9 Tryz.prog 270=none/\B9 Tryz.prog 28=none/\B9 Tryz.prog 283=none/\B9 Tryz.prog 29=none/\B9 Tryz.prog 293=none/\B9 Tryz.prog 30=none/\B9 Tryz.prog 32=none/\B9 Tryz.prog 33=none/\B9 Tryz.prog 332=none/\B9 Tryz.prog 333=some (11,8,true):=by (repeat' apply Ac)<;>kernel_rfl
@[go_sem] theorem Zj6:B9 Tryz.prog 34=none/\B9 Tryz.prog 354=none/\B9 Tryz.prog 358=none/\B9 Tryz.prog 36=none/\B9 Tryz.prog 38=none/\B9 Tryz.prog 39=none/\B9 Tryz.prog 41=none/\B9 Tryz.prog 42=none/\B9 Tryz.prog 429=some (13,1,false)/\B9 Tryz.prog 43=none/\B9 Tryz.prog 44=none/\B9 Tryz.prog 440=some (12,1,false):=by (repeat' apply Ac)<;>kernel_rfl
@[go_sem] theorem ZjH:B9 Tryz.prog 45=none/\B9 Tryz.prog 47=none/\B9 Tryz.prog 51=none/\B9 Tryz.prog 52=none/\B9 Tryz.prog 54=none/\B9 Tryz.prog 57=none/\B9 Tryz.prog 58=none/\B9 Tryz.prog 60=none/\B9 Tryz.prog 62=none/\B9 Tryz.prog 64=none/\B9 Tryz.prog 81=none/\B9 Tryz.prog 9=none:=by (repeat' apply Ac)<;>kernel_rfl
@[go_sem] theorem Zfb:GN Tryz.prog 178=some (221,3,true,32):=by kernel_rfl
@[go_sem] theorem ZjD:B9 Tryz.prog 93=none/\B9 Tryz.prog 96=none/\Lt Tryz.prog 4=true/\HG Tryz.prog 110=true/\HG Tryz.prog 159=false/\HG Tryz.prog 21=false/\HG Tryz.prog 3=false/\HG Tryz.prog 5=false/\HG Tryz.prog 9=false/\GN Tryz.prog 110=some (5,1,false,1)/\GN Tryz.prog 203=none/\GN Tryz.prog 214=some (172,1,false,8):=by (repeat' apply Ac)<;>kernel_rfl
@[go_sem] theorem Y4:GN Tryz.prog 216=some (178,1,false,24):=by kernel_rfl
@[go_sem] theorem ZaI:GN Tryz.prog 25=some (28,7,true,104):=by kernel_rfl
@[go_sem] theorem ZgQ:GN Tryz.prog 33=some (81,2,true,40):=by kernel_rfl
@[go_sem] theorem Zgv:GN Tryz.prog 34=some (3,1,false,8):=by kernel_rfl
@[go_sem] theorem Wq:GN Tryz.prog 39=some (100,10,true,152):=by kernel_rfl
@[go_sem] theorem ZgO:GN Tryz.prog 42=some (75,11,true,160):=by kernel_rfl
@[go_sem] theorem ZbE:GN Tryz.prog 43=some (67,11,true,152):=by kernel_rfl
@[go_sem] theorem Zck:GN Tryz.prog 44=some (54,6,true,96):=by kernel_rfl
@[go_sem] theorem XX:GN Tryz.prog 45=some (62,10,true,152):=by kernel_rfl
@[go_sem] theorem Zgd:GN Tryz.prog 52=some (51,2,true,32):=by kernel_rfl
@[go_sem] theorem NQ:GN Tryz.prog 57=some (60,6,true,88):=by kernel_rfl
@[go_sem] theorem O7:GN Tryz.prog 58=some (96,7,true,104):=by kernel_rfl
@[go_sem] theorem Zga:GN Tryz.prog 68=some (102,3,true,32):=by kernel_rfl
@[go_sem] theorem ZkO:GN Tryz.prog 22=some (83,3,true,3)/\GN Tryz.prog 24=some (9,1,false,16)/\GN Tryz.prog 26=some (109,11,true,160)/\GN Tryz.prog 29=some (105,5,true,80)/\GN Tryz.prog 293=some (97,1,false,8)/\GN Tryz.prog 30=some (107,6,true,96)/\GN Tryz.prog 333=none/\GN Tryz.prog 358=some (354,2,true,16)/\GN Tryz.prog 38=some (4,1,false,1)/\GN Tryz.prog 429=none/\GN Tryz.prog 440=none/\GN Tryz.prog 9=none:=by (repeat' apply Ac)<;>kernel_rfl
@[go_sem] theorem ZdB (xs ys:List AV):Rt Tryz.prog .neq 221 xs ys=(obK [(some .i64,false),(some .i64,false),(none,true)] xs ys,!P4 xs ys):=Zt (by kernel_rfl) xs ys
@[go_sem] theorem Zgu:Bn Tryz.prog 100 0=some (0,6,true)/\Bn Tryz.prog 100 1=some (6,1,false)/\Bn Tryz.prog 100 2=some (7,1,false)/\Bn Tryz.prog 100 3=some (8,1,false)/\Bn Tryz.prog 100 4=some (9,1,false)/\Bn Tryz.prog 105 0=some (0,1,false)/\Bn Tryz.prog 105 1=some (1,1,false)/\Bn Tryz.prog 105 2=some (2,1,false)/\Bn Tryz.prog 105 3=some (3,1,false)/\Bn Tryz.prog 105 4=some (4,1,false)/\Bn Tryz.prog 107 0=some (0,1,false)/\Bn Tryz.prog 107 1=some (1,5,true):=by (repeat' apply Ac)<;>kernel_rfl
@[go_sem] theorem Zgf:Bn Tryz.prog 109 0=some (0,1,false)/\Bn Tryz.prog 109 1=some (1,1,false)/\Bn Tryz.prog 109 2=some (2,1,false)/\Bn Tryz.prog 109 3=some (3,7,true)/\Bn Tryz.prog 109 4=some (10,1,false)/\Bn Tryz.prog 221 0=some (0,1,false)/\Bn Tryz.prog 221 1=some (1,1,false)/\Bn Tryz.prog 221 2=some (2,1,false)/\Bn Tryz.prog 270 1=some (6,1,false)/\Bn Tryz.prog 28 0=some (0,1,false)/\Bn Tryz.prog 28 1=some (1,1,false)/\Bn Tryz.prog 28 2=some (2,1,false):=by (repeat' apply Ac)<;>kernel_rfl
@[go_sem] theorem ZhZ:Bn Tryz.prog 28 3=some (3,1,false)/\Bn Tryz.prog 28 4=some (4,1,false)/\Bn Tryz.prog 28 5=some (5,1,false)/\Bn Tryz.prog 28 6=some (6,1,false)/\Bn Tryz.prog 32 0=some (0,1,false)/\Bn Tryz.prog 332 1=some (1,1,false)/\Bn Tryz.prog 332 2=some (2,1,false)/\Bn Tryz.prog 332 3=some (3,1,false)/\Bn Tryz.prog 332 4=some (4,1,false)/\Bn Tryz.prog 332 5=some (5,1,false)/\Bn Tryz.prog 332 6=some (6,1,false)/\Bn Tryz.prog 332 7=some (7,1,false):=by (repeat' apply Ac)<;>kernel_rfl
@[go_sem] theorem ZgH:Bn Tryz.prog 354 0=some (0,1,false)/\Bn Tryz.prog 354 1=some (1,1,false)/\Bn Tryz.prog 36 1=some (1,1,false)/\Bn Tryz.prog 36 11=some (17,1,true)/\Bn Tryz.prog 36 12=some (18,1,false)/\Bn Tryz.prog 36 8=some (8,7,true)/\Bn Tryz.prog 36 9=some (15,1,false)/\Bn Tryz.prog 41 0=some (0,1,false)/\Bn Tryz.prog 41 1=some (1,1,false)/\Bn Tryz.prog 41 2=some (2,1,false)/\Bn Tryz.prog 47 0=some (0,3,true)/\Bn Tryz.prog 47 1=some (3,1,false):=by (repeat' apply Ac)<;>kernel_rfl
@[go_sem] theorem ZhH:Bn Tryz.prog 47 2=some (4,1,false)/\Bn Tryz.prog 47 3=some (5,1,false)/\Bn Tryz.prog 47 4=some (6,1,false)/\Bn Tryz.prog 51 0=some (0,1,false)/\Bn Tryz.prog 51 1=some (1,1,false)/\Bn Tryz.prog 54 0=some (0,2,true)/\Bn Tryz.prog 54 1=some (2,1,false)/\Bn Tryz.prog 54 2=some (3,1,false)/\Bn Tryz.prog 54 3=some (4,1,false)/\Bn Tryz.prog 54 4=some (5,1,false)/\Bn Tryz.prog 60 0=some (0,1,false)/\Bn Tryz.prog 60 1=some (1,1,false):=by (repeat' apply Ac)<;>kernel_rfl
@[go_sem] theorem ZhF:Bn Tryz.prog 60 2=some (2,1,false)/\Bn Tryz.prog 60 3=some (3,1,false)/\Bn Tryz.prog 60 4=some (4,1,false)/\Bn Tryz.prog 60 5=some (5,1,false)/\Bn Tryz.prog 62 0=some (0,2,true)/\Bn Tryz.prog 62 1=some (2,1,false)/\Bn Tryz.prog 62 2=some (3,1,false)/\Bn Tryz.prog 62 3=some (4,6,true)/\Bn Tryz.prog 64 0=some (0,1,false)/\Bn Tryz.prog 64 1=some (1,1,false)/\Bn Tryz.prog 64 2=some (2,2,true)/\Bn Tryz.prog 64 3=some (4,10,true):=by (repeat' apply Ac)<;>kernel_rfl
@[go_sem] theorem Zhv:Bn Tryz.prog 64 6=some (16,1,false)/\Bn Tryz.prog 64 7=some (17,6,true)/\Bn Tryz.prog 67 0=some (0,2,true)/\Bn Tryz.prog 67 1=some (2,1,false)/\Bn Tryz.prog 67 2=some (3,1,false)/\Bn Tryz.prog 67 3=some (4,1,false)/\Bn Tryz.prog 67 4=some (5,6,true)/\Bn Tryz.prog 75 0=some (0,1,false)/\Bn Tryz.prog 75 1=some (1,10,true)/\Bn Tryz.prog 81 0=some (0,1,false)/\Bn Tryz.prog 83 0=some (0,1,false)/\Bn Tryz.prog 83 1=some (1,1,false):=by (repeat' apply Ac)<;>kernel_rfl
@[go_sem] theorem ZhC:Bn Tryz.prog 83 2=some (2,1,false)/\Bn Tryz.prog 93 2=some (21,2,true)/\Bn Tryz.prog 93 4=some (24,7,true)/\Bn Tryz.prog 96 0=some (0,1,false)/\Bn Tryz.prog 96 1=some (1,6,true)/\LV Tryz.prog 110=none/\LV Tryz.prog 159=some .u64/\LV Tryz.prog 21=some .i32/\LV Tryz.prog 3=some .i64/\LV Tryz.prog 5=some .u8/\LV Tryz.prog 9=none/\BF Tryz.prog 102=some [(0,1),(1,1),(2,1)]:=by (repeat' apply Ac)<;>kernel_rfl
@[go_sem] theorem Zfl:BF Tryz.prog 105=some [(0,1),(1,1),(2,1),(3,1),(4,1)]/\BF Tryz.prog 107=some [(0,1),(1,5)]/\BF Tryz.prog 109=some [(0,1),(1,1),(2,1),(3,7),(10,1)]/\BF Tryz.prog 203=none/\BF Tryz.prog 221=some [(0,1),(1,1),(2,1)]/\BF Tryz.prog 270=some [(0,6),(6,1)]/\BF Tryz.prog 28=some [(0,1),(1,1),(2,1),(3,1),(4,1),(5,1),(6,1)]/\BF Tryz.prog 283=some [(0,1),(1,1)]/\BF Tryz.prog 32=some [(0,1)]/\BF Tryz.prog 332=some [(0,1),(1,1),(2,1),(3,1),(4,1),(5,1),(6,1),(7,1)]/\BF Tryz.prog 333=none/\BF Tryz.prog 354=some [(0,1),(1,1)]:=by (repeat' apply Ac)<;>kernel_rfl
@[go_sem] theorem ZgA:BF Tryz.prog 36=some [(0,1),(1,1),(2,1),(3,1),(4,1),(5,1),(6,1),(7,1),(8,7),(15,1),(16,1),(17,1),(18,1),(19,1)]/\BF Tryz.prog 41=some [(0,1),(1,1),(2,1)]/\BF Tryz.prog 429=none/\BF Tryz.prog 440=none/\BF Tryz.prog 47=some [(0,3),(3,1),(4,1),(5,1),(6,1)]/\BF Tryz.prog 51=some [(0,1),(1,1)]/\BF Tryz.prog 54=some [(0,2),(2,1),(3,1),(4,1),(5,1)]/\BF Tryz.prog 60=some [(0,1),(1,1),(2,1),(3,1),(4,1),(5,1)]/\BF Tryz.prog 62=some [(0,2),(2,1),(3,1),(4,6)]/\BF Tryz.prog 64=some [(0,1),(1,1),(2,2),(4,10),(14,1),(15,1),(16,1),(17,6)]/\BF Tryz.prog 81=some [(0,1),(1,1)]/\BF Tryz.prog 93=some [(0,20),(20,1),(21,2),(23,1),(24,7)]:=by (repeat' apply Ac)<;>kernel_rfl
@[go_sem] theorem Zg3:BF Tryz.prog 96=some [(0,1),(1,6)]/\CL Tryz.prog 110=false/\CL Tryz.prog 159=false/\CL Tryz.prog 178=false/\CL Tryz.prog 203=false/\CL Tryz.prog 21=false/\CL Tryz.prog 214=false/\CL Tryz.prog 216=false/\CL Tryz.prog 22=false/\CL Tryz.prog 24=false/\CL Tryz.prog 25=false/\CL Tryz.prog 26=false:=by (repeat' apply Ac)<;>kernel_rfl
@[go_sem] theorem ZjL:CL Tryz.prog 29=false/\CL Tryz.prog 293=false/\CL Tryz.prog 3=false/\CL Tryz.prog 30=false/\CL Tryz.prog 33=false/\CL Tryz.prog 333=false/\CL Tryz.prog 34=false/\CL Tryz.prog 358=false/\CL Tryz.prog 38=false/\CL Tryz.prog 39=false/\CL Tryz.prog 42=false/\CL Tryz.prog 429=false:=by (repeat' apply Ac)<;>kernel_rfl
@[go_sem] theorem Zkv:CL Tryz.prog 43=false/\CL Tryz.prog 44=false/\CL Tryz.prog 440=false/\CL Tryz.prog 45=false/\CL Tryz.prog 5=false/\CL Tryz.prog 52=false/\CL Tryz.prog 57=false/\CL Tryz.prog 58=false/\CL Tryz.prog 68=false/\CL Tryz.prog 9=true/\Fv Tryz.prog 100=some (10,true)/\Fv Tryz.prog 105=some (5,true):=by (repeat' apply Ac)<;>kernel_rfl
@[go_sem] theorem Zki:Fv Tryz.prog 107=some (6,true)/\Fv Tryz.prog 109=some (11,true)/\Fv Tryz.prog 163=some (1,false)/\Fv Tryz.prog 172=some (1,false)/\Fv Tryz.prog 177=some (1,false)/\Fv Tryz.prog 178=some (1,false)/\Fv Tryz.prog 203=some (11,true)/\Fv Tryz.prog 221=some (3,true)/\Fv Tryz.prog 24=some (1,false)/\Fv Tryz.prog 25=some (1,false)/\Fv Tryz.prog 26=some (1,false)/\Fv Tryz.prog 28=some (7,true):=by (repeat' apply Ac)<;>kernel_rfl
@[go_sem] theorem ZjK:Fv Tryz.prog 283=some (2,true)/\Fv Tryz.prog 29=some (1,false)/\Fv Tryz.prog 3=some (1,false)/\Fv Tryz.prog 30=some (1,false)/\Fv Tryz.prog 312=some (1,false)/\Fv Tryz.prog 32=some (1,true)/\Fv Tryz.prog 33=some (1,false)/\Fv Tryz.prog 332=some (8,true)/\Fv Tryz.prog 333=some (88,true)/\Fv Tryz.prog 34=some (1,false)/\Fv Tryz.prog 354=some (2,true)/\Fv Tryz.prog 36=some (20,true):=by (repeat' apply Ac)<;>kernel_rfl
@[go_sem] theorem ZkT:Fv Tryz.prog 39=some (1,false)/\Fv Tryz.prog 4=some (1,false)/\Fv Tryz.prog 41=some (3,true)/\Fv Tryz.prog 42=some (1,false)/\Fv Tryz.prog 429=some (13,true)/\Fv Tryz.prog 43=some (1,false)/\Fv Tryz.prog 44=some (1,false)/\Fv Tryz.prog 45=some (1,false)/\Fv Tryz.prog 47=some (7,true)/\Fv Tryz.prog 5=some (1,false)/\Fv Tryz.prog 51=some (2,true)/\Fv Tryz.prog 52=some (1,false):=by (repeat' apply Ac)<;>kernel_rfl
@[go_sem] theorem Oa:Bv Tryz.prog 100=some [Ag 0,Ag 0,Ag 0,.val (.string ⟨#[]⟩),.list [] .full,.list [] .full,Ag 0,Ag 0,.list [] .full,.list [] .full]:=by kernel_rfl
@[go_sem] theorem Zac:Bv Tryz.prog 102=some [Ag 0,.val (.string ⟨#[]⟩),.val (.bool false)]:=by kernel_rfl
@[go_sem] theorem ZkI:Fv Tryz.prog 54=some (6,true)/\Fv Tryz.prog 57=some (1,false)/\Fv Tryz.prog 58=some (1,false)/\Fv Tryz.prog 60=some (6,true)/\Fv Tryz.prog 62=some (10,true)/\Fv Tryz.prog 64=some (23,true)/\Fv Tryz.prog 67=some (11,true)/\Fv Tryz.prog 83=some (3,true)/\Fv Tryz.prog 9=some (1,false)/\Fv Tryz.prog 96=some (7,true)/\Fv Tryz.prog 97=some (1,false)/\Bv Tryz.prog 105=some [Ag 0,Ag 0,.val (.string ⟨#[]⟩),.list [] .full,.list [] .full]:=by (repeat' apply Ac)<;>kernel_rfl
@[go_sem] theorem Ve:Bv Tryz.prog 178=some [.list [] .full]:=by kernel_rfl
@[go_sem] theorem ZB:Bv Tryz.prog 221=some [Ag 0,Ag 0,.val (.string ⟨#[]⟩)]:=by kernel_rfl
@[go_sem] theorem Xy:Bv Tryz.prog 28=some [Ag 0,Ag 0,Ag 0,Ag 0,.list [] .full,.list [] .full,.list [] .full]:=by kernel_rfl
@[go_sem] theorem Zes:Bv Tryz.prog 3=some [Ag 0]:=by kernel_rfl
@[go_sem] theorem ZhA:Bv Tryz.prog 107=some [.val (.string ⟨#[]⟩),Ag 0,Ag 0,.val (.string ⟨#[]⟩),.list [] .full,.list [] .full]/\Bv Tryz.prog 109=some [Ag 0,.val (.string ⟨#[]⟩),Ag 0,Ag 0,Ag 0,Ag 0,Ag 0,.list [] .full,.list [] .full,.list [] .full,.list [] .full]/\Bv Tryz.prog 162=some [.list [] .full,Ag 0]/\Bv Tryz.prog 172=some [.val .nilFunc]/\Bv Tryz.prog 203=some [.val .nilFunc,.val .nilFunc,.val .nilFunc,.val .nilFunc,.val .nilFunc,.val .nilFunc,.val .nilFunc,.val .nilFunc,.val .nilFunc,.val .nilFunc,.val .nilFunc]/\Bv Tryz.prog 270=some [Ag 0,Ag 0,Ag 0,.val (.string ⟨#[]⟩),.list [] .full,.list [] .full,Ag 0]/\Bv Tryz.prog 283=some [.val .nilFunc,.val (.bool false)]/\Bv Tryz.prog 312=some [.val .nilFunc]/\Bv Tryz.prog 32=some [.list [] .full]/\Bv Tryz.prog 332=some [.val (.string ⟨#[]⟩),Ag 0,Ag 0,.val (.bool false),.val (.bool false),.val (.bool false),.val (.bool false),.val (.bool false)]/\Bv Tryz.prog 333=some [.val (.string ⟨#[]⟩),Ag 0,Ag 0,.val (.bool false),.val (.bool false),.val (.bool false),.val (.bool false),.val (.bool false),.val (.string ⟨#[]⟩),Ag 0,Ag 0,.val (.bool false),.val (.bool false),.val (.bool false),.val (.bool false),.val (.bool false),.val (.string ⟨#[]⟩),Ag 0,Ag 0,.val (.bool false),.val (.bool false),.val (.bool false),.val (.bool false),.val (.bool false),.val (.string ⟨#[]⟩),Ag 0,Ag 0,.val (.bool false),.val (.bool false),.val (.bool false),.val (.bool false),.val (.bool false),.val (.string ⟨#[]⟩),Ag 0,Ag 0,.val (.bool false),.val (.bool false),.val (.bool false),.val (.bool false),.val (.bool false),.val (.string ⟨#[]⟩),Ag 0,Ag 0,.val (.bool false),.val (.bool false),.val (.bool false),.val (.bool false),.val (.bool false),.val (.string ⟨#[]⟩),Ag 0,Ag 0,.val (.bool false),.val (.bool false),.val (.bool false),.val (.bool false),.val (.bool false),.val (.string ⟨#[]⟩),Ag 0,Ag 0,.val (.bool false),.val (.bool false),.val (.bool false),.val (.bool false),.val (.bool false),.val (.string ⟨#[]⟩),Ag 0,Ag 0,.val (.bool false),.val (.bool false),.val (.bool false),.val (.bool false),.val (.bool false),.val (.string ⟨#[]⟩),Ag 0,Ag 0,.val (.bool false),.val (.bool false),.val (.bool false),.val (.bool false),.val (.bool false),.val (.string ⟨#[]⟩),Ag 0,Ag 0,.val (.bool false),.val (.bool false),.val (.bool false),.val (.bool false),.val (.bool false)]/\Bv Tryz.prog 34=some [.list [] .full]:=by (repeat' apply Ac)<;>kernel_rfl
@[go_sem] theorem Zb4:Bv Tryz.prog 51=some [Ag 0,.list [] .full]:=by kernel_rfl
@[go_sem] theorem Xi:Bv Tryz.prog 54=some [Ag 0,.list [] .full,Ag 0,.val (.string ⟨#[]⟩),.list [] .full,.val (.string ⟨#[]⟩)]:=by kernel_rfl
@[go_sem] theorem IB:Bv Tryz.prog 60=some [Ag 0,Ag 0,Ag 0,.val (.string ⟨#[]⟩),.list [] .full,.list [] .full]:=by kernel_rfl
@[go_sem] theorem TX:Bv Tryz.prog 62=some [Ag 0,.list [] .full,Ag 0,.list [] .full,Ag 0,Ag 0,Ag 0,.val (.string ⟨#[]⟩),.list [] .full,.list [] .full]:=by kernel_rfl
@[go_sem] theorem XF:Bv Tryz.prog 67=some [Ag 0,.list [] .full,.val (.string ⟨#[]⟩),Ag 0,.val (.bool false),Ag 0,Ag 0,Ag 0,.val (.string ⟨#[]⟩),.list [] .full,.list [] .full]:=by kernel_rfl
@[go_sem] theorem Zcl:Bv Tryz.prog 81=some [.val (.string ⟨#[]⟩),.list [] .full]:=by kernel_rfl
@[go_sem] theorem Zhq:Bv Tryz.prog 354=some [Ag 0,Ag 0]/\Bv Tryz.prog 36=some [.val (.string ⟨#[]⟩),Ag 0,Ag 0,Ag 0,Ag 0,Ag 0,Ag 0,.val (.string ⟨#[]⟩),Ag 0,Ag 0,Ag 0,Ag 0,.list [] .full,.list [] .full,.list [] .full,.list [] .full,.list [] .full,.list [] .full,.list [] .full,.list [] .full]/\Bv Tryz.prog 396=some [.val (.pointer none),.list [] .full]/\Bv Tryz.prog 4=some [.val (.bool false)]/\Bv Tryz.prog 41=some [Ag 0,Ag 0,.list [] .full]/\Bv Tryz.prog 429=some [Ag 0,Ag 0,Ag 0,Ag 0,Ag 0,Ag 0,Ag 0,Ag 0,Ag 0,Ag 0,Ag 0,Ag 0,Ag 0]/\Bv Tryz.prog 440=some [Ag 0,Ag 0,Ag 0,Ag 0,Ag 0,Ag 0,Ag 0,Ag 0,Ag 0,Ag 0,Ag 0,Ag 0]/\Bv Tryz.prog 47=some [Ag 0,Ag 0,.list [] .full,.list [] .full,.list [] .full,.list [] .full,.list [] .full]/\Bv Tryz.prog 5=some [.val (.int .u8 0)]/\Bv Tryz.prog 64=some [Ag 0,Ag 0,Ag 0,.list [] .full,Ag 0,.list [] .full,Ag 0,.list [] .full,Ag 0,Ag 0,Ag 0,.val (.string ⟨#[]⟩),.list [] .full,.list [] .full,Ag 0,.val (.bool false),.val (.bool false),Ag 0,Ag 0,Ag 0,.val (.string ⟨#[]⟩),.list [] .full,.list [] .full]/\Bv Tryz.prog 83=some [.val (.int .u8 0),.val (.int .u8 0),.val (.bool false)]/\Bv Tryz.prog 9=some [.val (.string ⟨#[]⟩)]:=by (repeat' apply Ac)<;>kernel_rfl
@[go_sem] theorem Jo:Bv Tryz.prog 96=some [.val (.string ⟨#[]⟩),Ag 0,Ag 0,Ag 0,.val (.string ⟨#[]⟩),.list [] .full,.list [] .full]:=by kernel_rfl
@[go_sem] theorem Zii:Bv Tryz.prog 93=some [.val (.string ⟨#[]⟩),Ag 0,Ag 0,Ag 0,Ag 0,Ag 0,Ag 0,.val (.string ⟨#[]⟩),Ag 0,Ag 0,Ag 0,Ag 0,.list [] .full,.list [] .full,.list [] .full,.list [] .full,.list [] .full,.list [] .full,.list [] .full,.list [] .full,Ag 0,Ag 0,.list [] .full,Ag 0,Ag 0,Ag 0,.list [] .full,.list [] .full,.list [] .full,.list [] .full,.list [] .full]/\Bv Tryz.prog 97=some [Ag 0]:=by (repeat' apply Ac)<;>kernel_rfl
theorem GP:Tryz.prog.follows .mixedOrders=true:=by kernel_rfl
inductive Vl where
 | mk (kind int scale:Int) (text:ByteArray) (list:List Vl) (fields:List (ByteArray × Vl))
inductive Ty where
 | mk (kind min max scale:Int) (words:List ByteArray) (elem:List Ty) (fields:List (Int × ByteArray × Int × Ty × List Vl))
abbrev BS:List AV:=[Ag 0,Ag 0,Ag 0,.val (.string ⟨#[]⟩),.list [] .full,.list [] .full]
namespace Vl
def kind:Vl->Int | mk k _ _ _ _ _=>k
def int:Vl->Int | mk _ i _ _ _ _=>i
def scale:Vl->Int | mk _ _ s _ _ _=>s
def text:Vl->ByteArray | mk _ _ _ t _ _=>t
def list:Vl->List Vl | mk _ _ _ _ l _=>l
def fields:Vl->List (ByteArray × Vl) | mk _ _ _ _ _ f=>f
end Vl
mutual
def Vl.size:Vl->Nat
 | .mk _ _ _ _ l f=>1+NF l+Nc f
def NF:List Vl->Nat
 | []=>0
 | v::r=>v.size+NF r
def Nc:List (ByteArray × Vl)->Nat
 | []=>0
 | (_,v)::r=>v.size+Nc r
end
mutual
def Vl.cs:Vl->List AV
 | .mk k i s t l f=>[.val (.int .i64 k),.val (.int .i64 i),.val (.int .i64 s),.val (.string t),.list (DL l) .none,.list (It f) .none]
def DL:List Vl->List AV
 | []=>[]
 | v::r => .agg v.cs::DL r
def It:List (ByteArray × Vl)->List AV
 | []=>[]
 | (n,v)::r => .agg (.val (.string n)::v.cs)::It r
end
mutual
def Ty.size:Ty->Nat
 | .mk _ _ _ _ _ e f=>1+ZbY e+Zb f
def ZbY:List Ty->Nat
 | []=>0
 | t::r=>t.size+ZbY r
def Zb:List (Int × ByteArray × Int × Ty × List Vl)->Nat
 | []=>0
 | (_,_,_,t,_)::r=>t.size+Zb r
end
mutual
def Ty.cs:Ty->List AV
 | .mk k lo hi s w e f=>[.val (.int .i64 k),.val (.int .i64 lo),.val (.int .i64 hi),.val (.int .i64 s),.list (w.map fun x => .val (.string x)) .none,.list (MV e) .none,.list (HV f) .none]
def MV:List Ty->List AV
 | []=>[]
 | t::r => .agg t.cs::MV r
def HV:List (Int × ByteArray × Int × Ty × List Vl)->List AV
 | []=>[]
 | (n,s,d,t,l)::r => .agg (.val (.int .i64 n) :: .val (.string s) :: .val (.int .i64 d)::(t.cs++[.list (DL l) .none]))::HV r
end
theorem EG:∀ l:List Vl,DL l=l.map fun v => .agg v.cs
 | []=>rfl
 | v::r=>by simp [DL,EG r]
theorem Ol:∀ l:List (ByteArray × Vl),It l=l.map fun p => .agg (.val (.string p.1)::p.2.cs)
 | []=>rfl
 | (n,v)::r=>by simp [It,Ol r]
@[go_sem] theorem PL (l:List Vl):(DL l).length=l.length:=by simp [EG]
@[go_sem] theorem Wl (l:List (ByteArray × Vl)):(It l).length=l.length:=by simp [Ol]
theorem QL:∀ l:List Ty,MV l=l.map fun v => .agg v.cs
 | []=>rfl
 | v::r=>by simp [MV,QL r]
theorem Pm:∀ l:List (Int × ByteArray × Int × Ty × List Vl),HV l=l.map fun p => .agg (Ag p.1 :: .val (.string p.2.1)::Ag p.2.2.1::(p.2.2.2.1.cs++[.list (DL p.2.2.2.2) .none]))
 | []=>rfl
 | (n,s,d,t,l)::r=>by simp [HV,Pm r]
@[go_sem] theorem ZdY (l:List Ty):(MV l).length=l.length:=by simp [QL]
@[go_sem] theorem Zdg (l:List (Int × ByteArray × Int × Ty × List Vl)):(HV l).length=l.length:=by simp [Pm]
theorem Vl.cs_eq (v:Vl):v.cs=[.val (.int .i64 v.kind),.val (.int .i64 v.int),.val (.int .i64 v.scale),.val (.string v.text),.list (DL v.list) .none,.list (It v.fields) .none]:=by cases v;rfl
@[go_sem] theorem Vl.cs_length (v:Vl):v.cs.length=6:=by cases v;rfl
@[go_sem] theorem Vl.cs_pub (v:Vl):v.cs.map AV.pubCell=v.cs:=by cases v;rfl
mutual
theorem Vl.under (nb nr nl:Nat):∀ v:Vl,∀ x∈v.cs,Under nb nr nl x
 | .mk k i s t l f=>by
  intro x a
  simp only [Vl.cs,List.mem_cons,List.not_mem_nil,or_false] at a
  rcases a with rfl | rfl | rfl | rfl | rfl | rfl
  ·exact .val _
  ·exact .val _
  ·exact .val _
  ·exact .val _
  ·exact .list (Iu nb nr nl l) trivial
  ·exact .list (Kq nb nr nl f) trivial
theorem Iu (nb nr nl:Nat):∀ l:List Vl,∀ x∈DL l,Under nb nr nl x
 | []=>fun _ h=>by simp [DL] at h
 | v::r=>by
  intro x hx
  simp only [DL,List.mem_cons] at hx
  rcases hx with rfl | hx
  ·exact .agg (Vl.under nb nr nl v)
  ·exact Iu nb nr nl r x hx
theorem Kq (nb nr nl:Nat):∀ l:List (ByteArray × Vl),∀ x∈It l,Under nb nr nl x
 | []=>fun _ h=>by simp [It] at h
 | (n,v)::r=>by
  intro x hx
  simp only [It,List.mem_cons] at hx
  rcases hx with rfl | hx
  ·refine .agg fun y hy=>?_
   rcases List.mem_cons.1 hy with rfl | hy
   ·exact .val _
   ·exact Vl.under nb nr nl v y hy
  ·exact Kq nb nr nl r x hx
end
mutual
theorem Ty.under (nb nr nl:Nat):∀ v:Ty,∀ x∈v.cs,Under nb nr nl x
 | .mk k lo hi s w e f=>by
  intro x a
  simp only [Ty.cs,List.mem_cons,List.not_mem_nil,or_false] at a
  rcases a with rfl | rfl | rfl | rfl | rfl | rfl | rfl
  ·exact .val _
  ·exact .val _
  ·exact .val _
  ·exact .val _
  ·refine .list (fun y b=>?_) trivial
   obtain ⟨z,_,rfl⟩:=List.mem_map.1 b
   exact .val _
  ·exact .list (M9 nb nr nl e) trivial
  ·exact .list (Ja nb nr nl f) trivial
theorem M9 (nb nr nl:Nat):∀ l:List Ty,∀ x∈MV l,Under nb nr nl x
 | []=>fun _ h=>by simp [MV] at h
 | v::r=>by
  intro x hx
  simp only [MV,List.mem_cons] at hx
  rcases hx with rfl | hx
  ·exact .agg (Ty.under nb nr nl v)
  ·exact M9 nb nr nl r x hx
theorem Ja (nb nr nl:Nat):∀ l:List (Int × ByteArray × Int × Ty × List Vl),∀ x∈HV l,Under nb nr nl x
 | []=>fun _ h=>by simp [HV] at h
 | (n,s,d,t,l)::r=>by
  intro x hx
  simp only [HV,List.mem_cons] at hx
  rcases hx with rfl | hx
  ·refine .agg fun y hy=>?_
   simp only [List.mem_cons,List.mem_append,List.not_mem_nil,or_false] at hy
   rcases hy with rfl | rfl | rfl | hy | rfl
   ·exact .val _
   ·exact .val _
   ·exact .val _
   ·exact Ty.under nb nr nl t y hy
   ·exact .list (Iu nb nr nl l) trivial
  ·exact Ja nb nr nl r x hx
end
@[go_sem] theorem ZiB (nb nr nl:Nat) (v:Vl):Under nb nr nl (.agg v.cs)<->True:=iff_true_intro (.agg (v.under nb nr nl))
@[go_sem] theorem Zhr (nb nr nl:Nat) (v:Ty):Under nb nr nl (.agg v.cs)<->True:=iff_true_intro (.agg (v.under nb nr nl))
@[go_sem] theorem Zf0 (nb nr nl:Nat) (l:List Vl):(∀ x∈DL l,Under nb nr nl x)<->True:=iff_true_intro (Iu nb nr nl l)
@[go_sem] theorem Zf1 (nb nr nl:Nat) (l:List (ByteArray × Vl)):(∀ x∈It l,Under nb nr nl x)<->True:=iff_true_intro (Kq nb nr nl l)
@[go_sem] theorem ZfK (nb nr nl:Nat) (l:List Ty):(∀ x∈MV l,Under nb nr nl x)<->True:=iff_true_intro (M9 nb nr nl l)
@[go_sem] theorem ZeK (nb nr nl:Nat) (l:List (Int × ByteArray × Int × Ty × List Vl)):(∀ x∈HV l,Under nb nr nl x)<->True:=iff_true_intro (Ja nb nr nl l)
theorem Ty.cs_eq (t:Ty):∃ k lo hi s w e f,t = .mk k lo hi s w e f:=by cases t;exact ⟨_,_,_,_,_,_,_,rfl⟩
@[go_sem] theorem Ty.cs_length (v:Ty):v.cs.length=7:=by cases v;rfl
@[go_sem] theorem Ty.cs_pub (v:Ty):v.cs.map AV.pubCell=v.cs:=by cases v;rfl
namespace Ty
def kind:Ty->Int | mk k _ _ _ _ _ _=>k
def min:Ty->Int | mk _ m _ _ _ _ _=>m
def max:Ty->Int | mk _ _ m _ _ _ _=>m
def scale:Ty->Int | mk _ _ _ s _ _ _=>s
def words:Ty->List ByteArray | mk _ _ _ _ w _ _=>w
def elem:Ty->List Ty | mk _ _ _ _ _ e _=>e
def fields:Ty->List (Int × ByteArray × Int × Ty × List Vl) | mk _ _ _ _ _ _ f=>f
end Ty
section
variable (v:Vl) (t:Ty) (x d:AV) (l:List AV)
@[go_sem] theorem Vl.g0:v.cs.getD 0 d = .val (.int .i64 v.kind):=by cases v;rfl
@[go_sem] theorem Vl.g1:v.cs.getD 1 d = .val (.int .i64 v.int):=by cases v;rfl
@[go_sem] theorem Vl.g2:v.cs.getD 2 d = .val (.int .i64 v.scale):=by cases v;rfl
@[go_sem] theorem Vl.g3:v.cs.getD 3 d = .val (.string v.text):=by cases v;rfl
@[go_sem] theorem Vl.g4:v.cs.getD 4 d = .list (DL v.list) .none:=by cases v;rfl
@[go_sem] theorem Vl.g5:v.cs.getD 5 d = .list (It v.fields) .none:=by cases v;rfl
@[go_sem] theorem Vl.take6:v.cs.take 6=v.cs:=by cases v;rfl
@[go_sem] theorem Vl.take6a:(v.cs++l).take 6=v.cs:=by cases v;rfl
@[go_sem] theorem Ty.g0:t.cs.getD 0 d = .val (.int .i64 t.kind):=by cases t;rfl
@[go_sem] theorem Ty.g1:t.cs.getD 1 d = .val (.int .i64 t.min):=by cases t;rfl
@[go_sem] theorem Ty.g2:t.cs.getD 2 d = .val (.int .i64 t.max):=by cases t;rfl
@[go_sem] theorem Ty.g3:t.cs.getD 3 d = .val (.int .i64 t.scale):=by cases t;rfl
@[go_sem] theorem Ty.g4:t.cs.getD 4 d = .list (t.words.map fun x => .val (.string x)) .none:=by cases t;rfl
@[go_sem] theorem Ty.g5:t.cs.getD 5 d = .list (MV t.elem) .none:=by cases t;rfl
@[go_sem] theorem Ty.g6:t.cs.getD 6 d = .list (HV t.fields) .none:=by cases t;rfl
@[go_sem] theorem Ty.take7:t.cs.take 7=t.cs:=by cases t;rfl
@[go_sem] theorem Ty.a0:(t.cs++l).getD 0 d = .val (.int .i64 t.kind):=by cases t;rfl
@[go_sem] theorem Ty.a1:(t.cs++l).getD 1 d = .val (.int .i64 t.min):=by cases t;rfl
@[go_sem] theorem Ty.a2:(t.cs++l).getD 2 d = .val (.int .i64 t.max):=by cases t;rfl
@[go_sem] theorem Ty.a3:(t.cs++l).getD 3 d = .val (.int .i64 t.scale):=by cases t;rfl
@[go_sem] theorem Ty.a4:(t.cs++l).getD 4 d = .list (t.words.map fun x => .val (.string x)) .none:=by cases t;rfl
@[go_sem] theorem Ty.a5:(t.cs++l).getD 5 d = .list (MV t.elem) .none:=by cases t;rfl
@[go_sem] theorem Ty.a6:(t.cs++l).getD 6 d = .list (HV t.fields) .none:=by cases t;rfl
@[go_sem] theorem Ty.a7:(t.cs++[x]).getD 7 d=x:=by cases t;rfl
@[go_sem] theorem Ty.take7a:(t.cs++l).take 7=t.cs:=by cases t;rfl
@[go_sem] theorem Ty.take8a:(t.cs++[x]).take 8=t.cs++[x]:=by cases t;rfl
@[go_sem] theorem Ty.drop7a:(t.cs++l).drop 7=l:=by cases t;rfl
attribute [go_sem] List.length_append List.map_append
end
end Go.Proofs.YtcpmjgdlioggjaaGreatDoor
namespace Go.Proofs.YtcpmjgdlioggjaaGreatDoor
open Go Go.RowKit Go.Ev
theorem Zd5 (t:ByteArray):OA t ⟨#[]⟩=decide (t.size=0):=by
 by_cases h:t.size=0
 ·have:t=⟨#[]⟩:=by
   obtain ⟨⟨l⟩⟩:=t
   simp [ByteArray.size] at h
   subst h;rfl
  subst this
  rfl
 ·simp only [h,decide_false]
  obtain ⟨⟨l⟩⟩:=t
  simp [ByteArray.size] at h
  simp [OA,h]
theorem Xm (w0:World) (B:Aj) (Rw:Am) (L:An) (n low high:Int) :
  ACalls Tryz.prog w0 205 [Ag n,Ag low,Ag high] ⟨B,Rw,L⟩ fun r st=>r = .val (.bool (decide (low<=n)&&decide (n<=high)))/\st=⟨B,Rw,L⟩:=by
 refine ACalls.finP (BN (rs:=[.tmp 6]) Tryz.func205 rfl rfl Tryz.ntmps205 (AU Tryz.func205 rfl (by decide)) (Nat.le_of_ble_eq_true rfl) ?_)
 intro M0 W0 f d e a g
 simp only [As]
 apply Ah;intro K1 b
 apply Ap 1 [0,1,2]
 rw [Ai];simp +decide only [go_sem]
 (repeat' apply Ac)<;>first | refine b _ _ ?_ | exact cl
 clear b
 apply Ah;intro K2 c
 apply Ap 1 [6]
 rw [Ai];simp +decide only [go_sem]
 (repeat' apply Ac)<;>first | refine c _ _ ?_ | exact cl
 clear c
 apply BC;simp +decide only [go_sem]
 refine JG a pf pf pf (by simp +decide only [go_sem]) ⟨?_,rfl⟩
 rfl
theorem W6 (w0:World) (B:Aj) (Rw:Am) (L:An) (a:Int) :
  ACalls Tryz.prog w0 85 [Ag a] ⟨B,Rw,L⟩ fun r st=>r = .val (.bool false)/\st=⟨B,Rw,L⟩:=by
 refine ACalls.finP (BN (rs:=[.tmp 2]) Tryz.func85 rfl rfl Tryz.ntmps85 (AU Tryz.func85 rfl (by decide)) (Nat.le_of_ble_eq_true rfl) ?_)
 intro M0 W0 g e f b h
 simp only [As]
 apply Ah;intro K1 c
 apply Ap 1 [0]
 rw [Ai];simp +decide only [go_sem]
 (repeat' apply Ac)<;>first | refine c _ _ ?_ | exact cl
 clear c
 apply Ah;intro K2 d
 apply Ap 1 [2]
 rw [Ai];simp +decide only [go_sem]
 (repeat' apply Ac)<;>first | refine d _ _ ?_ | exact cl
 clear d
 apply BC;simp +decide only [go_sem]
 refine JG b pf pf pf (by simp +decide only [go_sem]) ⟨?_,rfl⟩
 rw [JO]
theorem JU (w0:World) (B:Aj) (Rw:Am) (L:An) (a b:Int) :
  ACalls Tryz.prog w0 53 [Ag a,Ag b] ⟨B,Rw,L⟩ fun r st=>r=Ag (if a<b then -1 else if a=b then 0 else 1)/\st=⟨B,Rw,L⟩:=by
 refine ACalls.finP (BN (rs:=[.tmp 4]) Tryz.func53 rfl rfl Tryz.ntmps53 (AU Tryz.func53 rfl (by decide)) (Nat.le_of_ble_eq_true rfl) ?_)
 intro M0 W0 w t u c v
 simp only [As]
 apply Ah;intro K1 p
 apply Ap 1 [0,1]
 rw [Ai];simp +decide only [go_sem]
 (repeat' apply Ac)<;>first | refine p _ _ ?_ | exact cl
 clear p
 apply Ah;intro K2 o
 apply Ap 2 [0,1,5]
 rw [Ai];simp +decide only [go_sem]
 (repeat' apply Ac)<;>first | refine Nl _ (W6 w0 _ Rw L _) ?_ | exact cl
 rw [Ai];simp +decide only [go_sem]
 (repeat' apply Ac)<;>first | refine o _ _ ?_ | exact cl
 clear o
 apply Ah;intro K3 n
 apply Ap 2 [0,1,5,6]
 rw [Ai];simp +decide only [go_sem]
 (repeat' apply Ac)<;>first | refine Nl _ (W6 w0 _ Rw L _) ?_ | exact cl
 rw [Ai];simp +decide only [go_sem]
 (repeat' apply Ac)<;>first | refine n _ _ ?_ | exact cl
 clear n
 apply Ah;intro K4 s
 apply Ah;intro K5 q
 apply Ap 1 [0,1,6,11]
 rw [Ai];simp +decide only [go_sem]
 (repeat' apply Ac)<;>first | refine q _ _ ?_ | exact cl
 clear q
 refine Bl _ (by simp +decide only [go_sem]) (by simp +decide only [go_sem];rfl) (fun d=>?_) (fun d=>?_)
 ·simp at d
 skip
 apply BB;simp only [go_sem]
 (repeat' apply Ac)<;>first | refine s _ _ ?_ | exact cl
 clear s
 apply Ah;intro K10 k
 apply Ah;intro K11 h
 apply Ap 1 [0,1,13]
 rw [Ai];simp +decide only [go_sem]
 (repeat' apply Ac)<;>first | refine h _ _ ?_ | exact cl
 clear h
 refine Bl _ (by simp +decide only [go_sem]) (by simp +decide only [go_sem];rfl) (fun d=>?_) (fun d=>?_)
 ·simp at d
 try simp at d
 apply BB;simp only [go_sem]
 (repeat' apply Ac)<;>first | refine k _ _ ?_ | exact cl
 clear k
 apply Ah;intro K13 i
 apply Ah;intro K14 j
 apply Ap 1 [0,1,16]
 rw [Ai];simp +decide only [go_sem]
 (repeat' apply Ac)<;>first | refine j _ _ ?_ | exact cl
 clear j
 refine Bl _ (by simp +decide only [go_sem]) (by simp +decide only [go_sem];rfl) (fun d=>?_) (fun d=>?_)
 ·try simp at d
  apply Ah;intro K15 g
  apply Ap 1 [4]
  rw [Ai];simp +decide only [go_sem]
  (repeat' apply Ac)<;>first | refine g _ _ ?_ | exact cl
  clear g
  apply BC;simp +decide only [go_sem]
  refine JG c pf pf pf (by simp +decide only [go_sem]) ⟨?_,rfl⟩
  rw [JO]
  rw [Ab]
 try simp at d
 apply BB;simp only [go_sem]
 (repeat' apply Ac)<;>first | refine i _ _ ?_ | exact cl
 clear i
 apply Ah;intro K16 m
 apply Ah;intro K17 l
 apply Ap 1 [19]
 rw [Ai];simp +decide only [go_sem]
 (repeat' apply Ac)<;>first | refine l _ _ ?_ | exact cl
 clear l
 refine Bl _ (by simp +decide only [go_sem]) (by simp +decide only [go_sem];rfl) (fun d=>?_) (fun d=>?_)
 ·try simp at d
  apply Ah;intro K18 e
  apply Ap 1 [4]
  rw [Ai];simp +decide only [go_sem]
  (repeat' apply Ac)<;>first | refine e _ _ ?_ | exact cl
  clear e
  apply BC;simp +decide only [go_sem]
  refine JG c pf pf pf (by simp +decide only [go_sem]) ⟨?_,rfl⟩
  rw [JO]
  rw [Aa,Aa]
 try simp at d
 apply BB;simp only [go_sem]
 (repeat' apply Ac)<;>first | refine m _ _ ?_ | exact cl
 clear m
 apply Ah;intro K19 f
 apply Ap 1 [4]
 rw [Ai];simp +decide only [go_sem]
 (repeat' apply Ac)<;>first | refine f _ _ ?_ | exact cl
 clear f
 apply BC;simp +decide only [go_sem]
 refine JG c pf pf pf (by simp +decide only [go_sem]) ⟨?_,rfl⟩
 rw [JO]
 rw [Aa,Ab]
def Kv (c:Nat):Bool:=decide (97<=c)&&decide (c<=122)
def S1 (c:Nat):Bool:=Kv c||decide (c=95)||(decide (48<=c)&&decide (c<=57))
def ZbW (l:List UInt8):Bool:=decide (1<=l.length/\l.length<=32)&&Kv (l.headD 0).toNat&&l.all fun c=>S1 c.toNat
def OG (s:ByteArray):Bool:=ZbW s.data.toList
theorem SC (s:ByteArray) (k:Nat) (h:k<s.size):s.get! k=s.data.toList[k]'(by simpa using h):=by
 rw [Utf8W.get!_of_lt s k h];rfl
theorem Zbu (s:ByteArray) (f:UInt8->Bool) (k:Nat) (h:k<s.size):(s.data.toList.drop k).all f=(f (s.get! k)&&(s.data.toList.drop (k+1)).all f):=by
 rw [List.drop_eq_getElem_cons (by simpa using h),SC s k h];rfl
theorem Zbp (s:ByteArray) (h:0<s.size):s.data.toList.headD 0=s.get! 0:=by
 rw [SC s 0 h]
 have b:0<s.data.toList.length:=by simpa using h
 have:∀ (l:List UInt8) (q:0<l.length),l.headD 0=l[0]:=fun l q=>by
  cases l with
  | nil=>simp at q
  | cons a l=>rfl
 exact this _ b
theorem Zs (s:ByteArray) (k:Nat) (h:k<s.size):(FO s.data.toList).getD k .junk = .val (.int .u8 (s.get! k).toNat):=by
 have a:s.data.toList.length=s.size:=by simp
 rw [SC s k h]
 simp [FO,a,h,List.getD]
theorem V8 (s:ByteArray):(FO s.data.toList).length=s.size:=by
 have a:s.data.toList.length=s.size:=by simp
 simp [FO,a]
theorem ZS (c:Nat):S1 c=decide ((97<=(c:Int)/\(c:Int)<=122)\/(c:Int)=95\/(48<=(c:Int)/\(c:Int)<=57)):=by
 rw [Bool.eq_iff_iff]
 simp [S1,Kv]
 omega
theorem Q1 (c:Nat):Kv c=decide (97<=(c:Int)/\(c:Int)<=122):=by
 rw [Bool.eq_iff_iff]
 simp [Kv]
 omega
theorem SK (s:ByteArray) (h1:1<=s.size) (h2:s.size<=32):OG s=(Kv (s.get! 0).toNat&&s.data.toList.all fun c=>S1 c.toNat):=by
 have a:s.data.toList.length=s.size:=by simp
 rw [OG,ZbW,decide_eq_true (by omega),Zbp s h1];rfl
theorem XQ (s:ByteArray) (h:¬ (1<=s.size/\s.size<=32)):OG s=false:=by
 have a:s.data.toList.length=s.size:=by simp
 rw [OG,ZbW,decide_eq_false (by omega)];rfl
theorem Lq (w0:World) (B:Aj) (Rw:Am) (L:An) (s:ByteArray) (hs:s.size<=maxLen) :
  ACalls Tryz.prog w0 171 [.val (.string s)] ⟨B,Rw,L⟩ fun r st=>r = .val (.bool (OG s))/\st=⟨B,Rw,L⟩:=by
 refine ACalls.finP (BN (rs:=[.tmp 2]) Tryz.func171 rfl rfl Tryz.ntmps171 (AU Tryz.func171 rfl (by decide)) (Nat.le_of_ble_eq_true rfl) ?_)
 intro M0 W0 O H K b N
 unfold maxLen at hs
 have J:s.data.toList.length=s.size:=by simp
 have f:=Zd5 s
 obtain ⟨d,hd⟩:∃ d,(s.get! 0).toNat=d:=⟨_,rfl⟩
 have a:=V8 s
 simp only [As]
 apply Ah;intro K1 v
 apply Ap 1 [0]
 rw [Ai];simp +decide only [go_sem,hd,a,f]
 (repeat' apply Ac)<;>first | refine v _ _ ?_ | exact cl
 clear v
 apply Ah;intro K2 u
 apply Ah;intro K3 t
 apply Ap 1 [0,21]
 rw [Ai];simp +decide only [go_sem,hd,a,f]
 (repeat' apply Ac)<;>first | refine t _ _ ?_ | exact cl
 clear t
 refine Bl _ (by simp +decide only [go_sem]) (by simp +decide only [go_sem];rfl) (fun g=>?_) (fun g=>?_)
 ·simp only [Bool.or_eq_true,Bool.or_eq_false_iff,Bool.and_eq_true,Bool.and_eq_false_iff,decide_eq_true_eq,decide_eq_false_iff_not,Bool.not_eq_true',Bool.not_eq_false',Bool.not_eq_eq_eq_not,Bool.not_true,Bool.not_false] at g
  apply Ah;intro K4 D
  apply Ap 1 [2]
  rw [Ai];simp +decide only [go_sem,hd,a,f]
  (repeat' apply Ac)<;>first | refine D _ _ ?_ | exact cl
  clear D
  apply BC;simp +decide only [go_sem]
  refine JG b pf pf pf (by simp +decide only [go_sem]) ⟨?_,rfl⟩
  rw [JO]
  congr 2
  symm
  by_cases hz:1<=s.size/\s.size<=32
  ·rw [SK s hz.1 hz.2,hd,Q1,decide_eq_false (by omega)];rfl
  ·exact XQ s hz
 simp only [Bool.or_eq_true,Bool.or_eq_false_iff,Bool.and_eq_true,Bool.and_eq_false_iff,decide_eq_true_eq,decide_eq_false_iff_not,Bool.not_eq_true',Bool.not_eq_false',Bool.not_eq_eq_eq_not,Bool.not_true,Bool.not_false] at g
 have G:1<=s.size/\s.size<=32/\97<=d/\d<=122:=by omega
 clear g
 have h:Kv d=true:=by rw [Q1];exact decide_eq_true (by omega)
 apply BB;simp only [go_sem]
 (repeat' apply Ac)<;>first | refine u _ _ ?_ | exact cl
 clear u
 apply Ah;intro K5 z
 apply Ah;intro K6 q
 apply Ap 1 [23,24,25]
 rw [Ai];simp +decide only [go_sem,hd,a,f]
 (repeat' apply Ac)<;>first | refine q _ _ ?_ | exact cl
 clear q
 apply Ao
 refine AB (fun m e st=>∃ k:Nat,k<=s.size/\m=s.size-k/\Kv d=true/\(s.data.toList.all fun c=>S1 c.toNat)=((s.data.toList.drop k).all fun c=>S1 c.toNat)/\e=[(23,true,.list (FO s.data.toList) .none),(24,true,Ag s.size),(25,true,Ag k)]/\st=⟨B,Rw,L⟩) s.size ⟨0,by omega,rfl,by assumption,rfl,rfl,rfl⟩ ?_
 rintro m e st ⟨k,Q,rfl,F,p,rfl,rfl⟩ KR E
 obtain ⟨c,hc⟩:∃ c,(s.get! k).toNat=c:=⟨_,rfl⟩
 obtain ⟨x,hn1⟩:∃ x,(FO s.data.toList).getD k .junk=x:=⟨_,rfl⟩
 apply Ah;intro K7 y
 apply Ap 1 [23,24,25,26]
 rw [Ai];simp +decide only [go_sem,hn1,a]
 (repeat' apply Ac)<;>first | refine y _ _ ?_ | exact cl
 clear y
 apply Ah;intro K8 C
 refine Bl _ (by simp +decide only [go_sem]) (by simp +decide only [go_sem];rfl) (fun g=>?_) (fun g=>?_)
 rotate_left
 ·simp only [Bool.or_eq_true,Bool.or_eq_false_iff,Bool.and_eq_true,Bool.and_eq_false_iff,decide_eq_true_eq,decide_eq_false_iff_not,Bool.not_eq_true',Bool.not_eq_false',Bool.not_eq_eq_eq_not,Bool.not_true,Bool.not_false] at g
  apply D4;simp +decide only [go_sem,hn1,a]
  (repeat' apply Ac)<;>first | refine z _ _ ?_ | exact cl
  clear z
  apply Ah;intro K9 w
  apply Ap 1 [2]
  rw [Ai];simp +decide only [go_sem,hn1,a]
  (repeat' apply Ac)<;>first | refine w _ _ ?_ | exact cl
  clear w
  apply BC;simp +decide only [go_sem]
  refine JG b pf pf pf (by simp +decide only [go_sem]) ⟨?_,rfl⟩
  rw [JO]
  have:k=s.size:=by omega
  subst this
  rw [SK s (by omega) (by omega),hd,h,p,List.drop_eq_nil_of_le (by omega)];rfl
 simp only [Bool.or_eq_true,Bool.or_eq_false_iff,Bool.and_eq_true,Bool.and_eq_false_iff,decide_eq_true_eq,decide_eq_false_iff_not,Bool.not_eq_true',Bool.not_eq_false',Bool.not_eq_eq_eq_not,Bool.not_true,Bool.not_false] at g
 have i:=Zbu s (fun c=>S1 c.toNat) k (by omega)
 simp only [hc] at i
 rw [ZS c] at i
 have hn2:=Zs s k (by omega)
 rw [hn1,hc] at hn2
 subst hn2
 apply BB;simp only [go_sem]
 (repeat' apply Ac)<;>first | refine C _ _ ?_ | exact cl
 clear C
 apply Ah;intro K10 o
 apply Ao
 apply Ah;intro K11 l
 apply Ap 1 [4,23,24,25]
 rw [Ai];simp +decide only [go_sem,hn1,a]
 (repeat' apply Ac)<;>first | refine l _ _ ?_ | exact cl
 clear l
 apply Ah;intro K12 j
 apply Ap 1 [23,24,25,46]
 rw [Ai];simp +decide only [go_sem,hn1,a]
 (repeat' apply Ac)<;>first | refine j _ _ ?_ | exact cl
 clear j
 refine Bl _ (by simp +decide only [go_sem]) (by simp +decide only [go_sem];rfl) (fun g=>?_) (fun g=>?_)
 ·simp only [Bool.or_eq_true,Bool.or_eq_false_iff,Bool.and_eq_true,Bool.and_eq_false_iff,decide_eq_true_eq,decide_eq_false_iff_not,Bool.not_eq_true',Bool.not_eq_false',Bool.not_eq_eq_eq_not,Bool.not_true,Bool.not_false] at g
  apply Ah;intro K13 n
  apply Ap 1 [2]
  rw [Ai];simp +decide only [go_sem,hn1,a]
  (repeat' apply Ac)<;>first | refine n _ _ ?_ | exact cl
  clear n
  apply BC;simp +decide only [go_sem]
  refine JG b pf pf pf (by simp +decide only [go_sem]) ⟨?_,rfl⟩
  rw [JO]
  rw [SK s (by omega) (by omega),hd,h,p,i,decide_eq_false (by omega)];rfl
 simp only [Bool.or_eq_true,Bool.or_eq_false_iff,Bool.and_eq_true,Bool.and_eq_false_iff,decide_eq_true_eq,decide_eq_false_iff_not,Bool.not_eq_true',Bool.not_eq_false',Bool.not_eq_eq_eq_not,Bool.not_true,Bool.not_false] at g
 apply BB;simp only [go_sem]
 (repeat' apply Ac)<;>first | refine o _ _ ?_ | exact cl
 clear o
 apply Ap 1 [23,24,25]
 rw [Ai];simp +decide only [go_sem,hn1,a]
 (repeat' apply Ac)<;>first | refine E (s.size-(k+1)) _ _ ?_ ⟨k+1,?_,rfl,?_,?_,?_,rfl⟩ | exact cl
 ·omega
 ·omega
 ·exact h
 ·rw [p,i,decide_eq_true (by omega)];rfl
 ·simp
def Ze3 (a b:ByteArray):Int:=Lib.compareBytes a.data.toList b.data.toList
theorem WV (w0:World) (st:St) (a b:ByteArray):ACalls Tryz.prog w0 48 [.val (.string a),.val (.string b)] st fun v s'=>v=Ag (Ze3 a b)/\s'=st :=
 Hj (AU Tryz.func48 rfl (by decide)) rfl fun M w d h c=>by
  have:=NB (us:=[.string a,.string b]) c
  subst this
  exact (Tryz.strings_Compare a b w).mono fun e i ⟨g,f⟩=>⟨g,f▸Below.refl _ _⟩
theorem ZC (w0:World) (st:St) (hT:Lib.Utf8Tabs 1 2 w0) (s:ByteArray) (hs:s.size<=maxLen):ACalls Tryz.prog w0 165 [.val (.string s)] st fun v s'=>v = .val (.bool (Lib.validD s.data.toList))/\s'=st :=
 Hj (AU Tryz.func165 rfl (by decide)) rfl fun M w b c a=>by
  have:=NB (us:=[.string s]) a
  subst this
  exact Any.utf8_ValidString Tryz.laysValid s w hs (Utf8Tabs_below hT c)
def E1 (v:Vl):List Vl:=if v.kind=8\/v.kind=10 then v.list else if v.kind=9 then v.fields.map (·.2) else []
@[go_sem] theorem ZfU (l:List Vl):(∀ y∈DL l,y.cells.length=6)<->True:=iff_true_intro (by
 rw [EG];intro y a
 obtain ⟨v,_,rfl⟩:=List.mem_map.1 a
 exact v.cs_length)
@[go_sem] theorem Zji (l:List Vl):(∀ y∈DL l,y.cells.length=6/\A9 y=true)<->True:=iff_true_intro (by
 rw [EG];intro y a
 obtain ⟨v,_,rfl⟩:=List.mem_map.1 a
 exact ⟨v.cs_length,rfl⟩)
@[go_sem] theorem Zh7 (l:List Vl):(DL l).map AV.pub=DL l:=by
 rw [EG,List.map_map]
 refine List.map_congr_left fun v _=>?_
 simp only [Function.comp,AV.pub,Vl.cs_pub]
theorem Z7 (l:List Vl) (k:Nat) (h:k<l.length):(DL l).getD k .junk = .agg (l[k]).cs:=by
 simp [EG,List.getD,h]
theorem Zah (l:List (ByteArray × Vl)) (k:Nat) (h:k<l.length):(It l).getD k .junk = .agg (.val (.string (l[k]).1)::(l[k]).2.cs):=by
 simp [Ol,List.getD,h]
theorem Yu (l:List (ByteArray × Vl)) (k:Nat) (h:k<l.length):DL ((l.take (k+1)).map (·.2))=DL ((l.take k).map (·.2))++[.agg (l[k]).2.cs]:=by
 rw [EG,EG,List.take_succ_eq_append_getElem h,List.map_append,List.map_append];rfl
theorem WJ (l:List (ByteArray × Vl)) (k:Nat) (h:k<=l.length):(DL ((l.take k).map (·.2))).length=k:=by
 rw [PL,List.length_map,List.length_take];omega
theorem Zcc (w0:World) (B:Aj) (Rw:Am) (L:An) (v:Vl) (hl:v.list.length<=1000000000000) (hf:v.fields.length<=1000000000000) :
  ACalls Tryz.prog w0 216 [.agg v.cs] ⟨B,Rw,L⟩ fun r st=>r = .list (DL (E1 v)) .none/\st=⟨B,Rw,L⟩:=by
 refine ACalls.finP (BN (rs:=[.tmp 2]) Tryz.func216 rfl rfl Tryz.ntmps216 (AU Tryz.func216 rfl (by decide)) (Nat.le_of_ble_eq_true rfl) ?_)
 intro M0 W0 V N Q a U
 have K:=Wl v.fields
 simp only [As]
 apply Ah;intro K1 C
 apply Ap 1 [1]
 rw [Ai];simp +decide only [go_sem]
 (repeat' apply Ac)<;>first | refine C _ _ ?_ | exact cl
 clear C
 apply Ah;intro K2 z
 apply Ah;intro K3 y
 apply Ap 1 [1,7]
 rw [Ai];simp +decide only [go_sem]
 (repeat' apply Ac)<;>first | refine y _ _ ?_ | exact cl
 clear y
 apply Ao
 apply Ah;intro K4 f
 apply Ah;intro K5 E
 apply Ap 1 [1,7,8]
 rw [Ai];simp +decide only [go_sem]
 (repeat' apply Ac)<;>first | refine E _ _ ?_ | exact cl
 clear E
 refine Bl _ (by simp +decide only [go_sem]) (by simp +decide only [go_sem];rfl) (fun b=>?_) (fun b=>?_)
 -- JOIN
 ·simp only [Bool.or_eq_true,Bool.or_eq_false_iff,Bool.and_eq_true,Bool.and_eq_false_iff,decide_eq_true_eq,decide_eq_false_iff_not,Bool.not_eq_true',Bool.not_eq_false',Bool.not_eq_eq_eq_not,Bool.not_true,Bool.not_false] at b
  apply BB;simp only [go_sem]
  (repeat' apply Ac)<;>first | refine f _ _ ?_ | exact cl
  clear f
  refine Bl _ (by simp +decide only [go_sem]) (by simp +decide only [go_sem];rfl) (fun b=>?_) (fun b=>?_)
  ·simp only [Bool.or_eq_true,Bool.or_eq_false_iff,Bool.and_eq_true,Bool.and_eq_false_iff,decide_eq_true_eq,decide_eq_false_iff_not,Bool.not_eq_true',Bool.not_eq_false',Bool.not_eq_eq_eq_not,Bool.not_true,Bool.not_false] at b
   apply Ah;intro K6 w
   apply Ap 1 [2]
   rw [Ai];simp +decide only [go_sem]
   (repeat' apply Ac)<;>first | refine w _ _ ?_ | exact cl
   clear w
   apply BC;simp +decide only [go_sem]
   refine JG a pf pf pf ?_ ⟨?_,rfl⟩
   ·simp +decide only [go_sem]
   ·simp only [go_sem]
    rw [E1,Ab]
  simp only [Bool.or_eq_true,Bool.or_eq_false_iff,Bool.and_eq_true,Bool.and_eq_false_iff,decide_eq_true_eq,decide_eq_false_iff_not,Bool.not_eq_true',Bool.not_eq_false',Bool.not_eq_eq_eq_not,Bool.not_true,Bool.not_false] at b
  omega
 simp only [Bool.or_eq_true,Bool.or_eq_false_iff,Bool.and_eq_true,Bool.and_eq_false_iff,decide_eq_true_eq,decide_eq_false_iff_not,Bool.not_eq_true',Bool.not_eq_false',Bool.not_eq_eq_eq_not,Bool.not_true,Bool.not_false] at b
 apply Ap 1 [1,7,8]
 rw [Ai];simp +decide only [go_sem]
 (repeat' apply Ac)<;>first | refine f _ _ ?_ | exact cl
 clear f
 refine Bl _ (by simp +decide only [go_sem]) (by simp +decide only [go_sem];rfl) (fun b=>?_) (fun b=>?_)
 ·simp only [Bool.or_eq_true,Bool.or_eq_false_iff,Bool.and_eq_true,Bool.and_eq_false_iff,decide_eq_true_eq,decide_eq_false_iff_not,Bool.not_eq_true',Bool.not_eq_false',Bool.not_eq_eq_eq_not,Bool.not_true,Bool.not_false] at b
  apply Ah;intro K17 u
  apply Ap 1 [2]
  rw [Ai];simp +decide only [go_sem]
  (repeat' apply Ac)<;>first | refine u _ _ ?_ | exact cl
  clear u
  apply BC;simp +decide only [go_sem]
  refine JG a pf pf pf ?_ ⟨?_,rfl⟩
  ·simp +decide only [go_sem]
  ·simp only [go_sem]
   rw [E1,Ab]
 simp only [Bool.or_eq_true,Bool.or_eq_false_iff,Bool.and_eq_true,Bool.and_eq_false_iff,decide_eq_true_eq,decide_eq_false_iff_not,Bool.not_eq_true',Bool.not_eq_false',Bool.not_eq_eq_eq_not,Bool.not_true,Bool.not_false] at b
 apply Ah;intro K18 g
 apply Ap 1 [1,13]
 rw [Ai];simp +decide only [go_sem]
 (repeat' apply Ac)<;>first | refine g _ _ ?_ | exact cl
 clear g
 refine Bl _ (by simp +decide only [go_sem]) (by simp +decide only [go_sem];rfl) (fun b=>?_) (fun b=>?_)
 ·simp only [Bool.or_eq_true,Bool.or_eq_false_iff,Bool.and_eq_true,Bool.and_eq_false_iff,decide_eq_true_eq,decide_eq_false_iff_not,Bool.not_eq_true',Bool.not_eq_false',Bool.not_eq_eq_eq_not,Bool.not_true,Bool.not_false] at b
  apply Ah;intro K19 i
  apply Ap 1 [1,3]
  rw [Ai];simp +decide only [go_sem]
  (repeat' apply Ac)<;>first | refine i _ _ ?_ | exact cl
  clear i
  apply Ah;intro K20 s
  apply Ah;intro K21 n
  apply Ap 1 [3,16,17,18]
  rw [Ai];simp +decide only [go_sem]
  (repeat' apply Ac)<;>first | refine n _ _ ?_ | exact cl
  clear n
  apply Ao
  refine AB (fun m e st=>∃ (k:Nat) (o:Ev.Own) (r:Am) (X:Aj),k<=v.fields.length/\m=v.fields.length-k/\Grow Rw 6 (DL ((v.fields.take k).map (·.2))) o r /\
   e=[(3,true,.list (DL ((v.fields.take k).map (·.2))) o),(16,true,.list (It v.fields) .none),(17,true,Ag v.fields.length),(18,true,Ag k)]/\st=⟨B++X,Rw++r,L⟩) v.fields.length ⟨0,.full,[],[v.cs],by omega,rfl,.nil _ _,rfl,by simp⟩ ?_
  rintro m e st ⟨k,o,r,X,O,rfl,G,rfl,rfl⟩ KR H
  obtain ⟨x,hx⟩:∃ x,(It v.fields).getD k .junk=x:=⟨_,rfl⟩
  have d:=Uf (P:=Tryz.prog) NQ (by rw [IB];rfl) (by decide) G
  have c:=WJ v.fields k O
  apply Ah;intro K22 l
  apply Ap 1 [3,16,17,18,19]
  rw [Ai];simp +decide only [go_sem,hx,d,c]
  (repeat' apply Ac)<;>first | refine l _ _ ?_ | exact cl
  clear l
  apply Ah;intro K23 t
  refine Bl _ (by simp +decide only [go_sem]) (by simp +decide only [go_sem];rfl) (fun b=>?_) (fun b=>?_)
  rotate_left
  ·simp only [Bool.or_eq_true,Bool.or_eq_false_iff,Bool.and_eq_true,Bool.and_eq_false_iff,decide_eq_true_eq,decide_eq_false_iff_not,Bool.not_eq_true',Bool.not_eq_false',Bool.not_eq_eq_eq_not,Bool.not_true,Bool.not_false] at b
   apply D4;simp +decide only [go_sem,hx,d,c]
   (repeat' apply Ac)<;>first | refine s _ _ ?_ | exact cl
   clear s
   apply Ah;intro K24 j
   apply Ap 1 [2]
   rw [Ai];simp +decide only [go_sem,hx,d,c]
   (repeat' apply Ac)<;>first | refine j _ _ ?_ | exact cl
   clear j
   apply BC;simp +decide only [go_sem]
   refine JG a pf pf pf ?_ ⟨?_,rfl⟩
   ·simp +decide only [go_sem]
   ·simp only [go_sem]
    rw [E1,Aa,Ab,List.take_of_length_le (by omega)]
  simp only [Bool.or_eq_true,Bool.or_eq_false_iff,Bool.and_eq_true,Bool.and_eq_false_iff,decide_eq_true_eq,decide_eq_false_iff_not,Bool.not_eq_true',Bool.not_eq_false',Bool.not_eq_eq_eq_not,Bool.not_true,Bool.not_false] at b
  have D:k<v.fields.length:=by omega
  have hx2:=Zah v.fields k D
  rw [hx] at hx2
  subst hx2
  have J:=Yu v.fields k D
  have F:=WJ v.fields (k+1) (by omega)
  apply BB;simp only [go_sem]
  (repeat' apply Ac)<;>first | refine t _ _ ?_ | exact cl
  clear t
  apply Ah;intro K25 q
  apply Ao
  apply Ah;intro K26 h
  apply Ap 1 [3,5,16,17,18]
  rw [Ai];simp +decide only [go_sem,hx,d,c]
  (repeat' apply Ac)<;>first | refine h _ _ ?_ | exact cl
  clear h
  apply Ap 1 [3,16,17,18]
  rw [Ai];simp +decide only [go_sem,hx,d,c]
  (repeat' apply Ac)<;>first | refine q _ _ ?_ | exact cl
  clear q
  apply Ap 1 [3,16,17,18]
  rw [Ai];simp +decide only [go_sem,hx,d,c]
  (repeat' apply Ac)<;>first | refine H (v.fields.length-(k+1)) _ _ ?_ ⟨k+1,.row Rw.length,[.grow (k+1) 6],_,?_,rfl,.more _ _ _ _ F,?_,rfl⟩ | exact cl
  ·omega
  ·omega
  ·rw [J];simp
 simp only [Bool.or_eq_true,Bool.or_eq_false_iff,Bool.and_eq_true,Bool.and_eq_false_iff,decide_eq_true_eq,decide_eq_false_iff_not,Bool.not_eq_true',Bool.not_eq_false',Bool.not_eq_eq_eq_not,Bool.not_true,Bool.not_false] at b
 apply BB;simp only [go_sem]
 (repeat' apply Ac)<;>first | refine z _ _ ?_ | exact cl
 clear z
 apply Ah;intro K27 p
 apply Ap 1 [2]
 rw [Ai];simp +decide only [go_sem]
 (repeat' apply Ac)<;>first | refine p _ _ ?_ | exact cl
 clear p
 apply BC;simp +decide only [go_sem]
 refine JG a pf pf pf ?_ ⟨?_,rfl⟩
 ·simp +decide only [go_sem]
 ·simp only [go_sem]
  rw [E1,Aa,Aa];rfl
mutual
def IJ (lv:Nat):Vl->List (Nat × Vl)
 | .mk k i s t l f=>(lv,.mk k i s t l f)::(if k=8\/k=10 then Zd (lv+1) l else if k=9 then YT (lv+1) f else [])
def Zd (lv:Nat):List Vl->List (Nat × Vl)
 | []=>[]
 | v::r=>IJ lv v++Zd lv r
def YT (lv:Nat):List (ByteArray × Vl)->List (Nat × Vl)
 | []=>[]
 | (_,v)::r=>IJ lv v++YT lv r
end
theorem XC (lv:Nat):∀ l,Zd lv l=l.flatMap (IJ lv)
 | []=>rfl
 | v::r=>by simp [Zd,XC lv r]
theorem XG (lv:Nat):∀ l,YT lv l=(l.map (·.2)).flatMap (IJ lv)
 | []=>rfl
 | (_,v)::r=>by simp [YT,XG lv r]
theorem Zd2 (lv:Nat) (v:Vl):IJ lv v=(lv,v)::(E1 v).flatMap (IJ (lv+1)):=by
 obtain ⟨k,i,s,t,l,f⟩:=v
 simp only [IJ,E1,Vl.kind,Vl.list,Vl.fields,XC,XG]
 by_cases h1:k=8\/k=10
 ·simp only [h1,if_true]
 ·by_cases h2:k=9
  ·subst h2;simp
  ·simp only [h1,h2,if_false,List.flatMap_nil]
theorem Vx {α β:Type} (f:α->List β) (l:List α) (q:Nat) (h:q<l.length):((l.take (q+1)).flatMap f).length=((l.take q).flatMap f).length+(f l[q]).length:=by
 rw [List.take_succ_eq_append_getElem h,List.flatMap_append,List.length_append];simp
theorem Xk {α β:Type} (f:α->List β) (l:List α) (q:Nat) (h:q<l.length) (j:Nat) (x:β) (hx:(f l[q])[j]? = some x):(l.flatMap f)[((l.take q).flatMap f).length+j]? = some x:=by
 have e:l=l.take q++l[q]::l.drop (q+1):=by rw [<-List.drop_eq_getElem_cons h,List.take_append_drop]
 have a:l.flatMap f=(l.take q).flatMap f++(f l[q]++(l.drop (q+1)).flatMap f):=by
  conv=>lhs;rw [e]
  rw [List.flatMap_append,List.flatMap_cons]
 rw [a,List.getElem?_append_right (by omega),Nat.add_sub_cancel_left,List.getElem?_append_left (Af.1 hx).1,hx]
theorem Ss:∀ (l:List Vl) (v:Vl),v∈l->v.size<=NF l
 | [],_,h=>by simp at h
 | a::r,v,h=>by
  rcases List.mem_cons.1 h with rfl | h
  ·simp [NF]
  ·have:=Ss r v h
   simp [NF];omega
theorem Sv:∀ (l:List (ByteArray × Vl)) (p:ByteArray × Vl),p∈l->p.2.size<=Nc l
 | [],_,h=>by simp at h
 | (n,a)::r,p,h=>by
  rcases List.mem_cons.1 h with rfl | h
  ·simp [Nc]
  ·have:=Sv r p h
   simp [Nc];omega
theorem Vl.size_pos (v:Vl):0<v.size:=by cases v;simp [Vl.size];omega
theorem TO:∀ l:List Vl,l.length<=NF l
 | []=>Nat.le_refl _
 | v::r=>by have:=TO r;have:=v.size_pos;simp [NF];omega
theorem TZ:∀ l:List (ByteArray × Vl),l.length<=Nc l
 | []=>Nat.le_refl _
 | (n,v)::r=>by have:=TZ r;have:=v.size_pos;simp [Nc];omega
theorem Vl.size_eq (v:Vl):v.size=1+NF v.list+Nc v.fields:=by cases v;simp [Vl.size,Vl.list,Vl.fields]
theorem Zi (v x:Vl) (h:x∈E1 v):x.size<v.size:=by
 have e:=v.size_eq
 unfold E1 at h
 split at h
 ·have:=Ss _ _ h;omega
 ·split at h
  ·obtain ⟨p,a,rfl⟩:=List.mem_map.1 h
   have:=Sv _ _ a;omega
  ·simp at h
theorem Zw (v:Vl):v.list.length<v.size/\v.fields.length<v.size/\(E1 v).length<v.size:=by
 have e:=v.size_eq
 have b:=TO v.list
 have a:=TZ v.fields
 refine ⟨by omega,by omega,?_⟩
 unfold E1
 split
 ·omega
 ·split
  ·simp;omega
  ·simp;omega
mutual
def Vl.wide:Vl->Bool
 | .mk _ _ _ _ l f=>decide (l.length<=1000000000000)&&decide (f.length<=1000000000000)&&Su l&&Tz f
def Su:List Vl->Bool
 | []=>true
 | v::r=>v.wide&&Su r
def Tz:List (ByteArray × Vl)->Bool
 | []=>true
 | (_,v)::r=>v.wide&&Tz r
end
theorem S9:∀ l,Su l=true<->∀ v∈l,v.wide=true
 | []=>by simp [Su]
 | v::r=>by simp [Su,S9 r]
theorem Ua:∀ l,Tz l=true<->∀ p∈l,p.2.wide=true
 | []=>by simp [Tz]
 | (n,v)::r=>by simp [Tz,Ua r]
theorem Vl.wide_iff (v:Vl):v.wide=true<->v.list.length<=1000000000000/\v.fields.length<=1000000000000/\(∀ x∈v.list,x.wide=true)/\∀ p∈v.fields,p.2.wide=true:=by
 cases v;simp only [Vl.wide,Bool.and_eq_true,decide_eq_true_eq,S9,Ua,Vl.list,Vl.fields,and_assoc]
theorem Zx {v x:Vl} (h:v.wide=true) (hx:x∈E1 v):x.wide=true:=by
 obtain ⟨_,_,b,a⟩:=v.wide_iff.1 h
 unfold E1 at hx
 split at hx
 ·exact b x hx
 ·split at hx
  ·obtain ⟨p,c,rfl⟩:=List.mem_map.1 hx
   exact a p c
  ·simp at hx
mutual
def Vl.depth:Vl->Nat
 | .mk _ _ _ _ l f=>1+max (Oi l) (Oo f)
def Oi:List Vl->Nat
 | []=>0
 | t::r=>max t.depth (Oi r)
def Oo:List (ByteArray × Vl)->Nat
 | []=>0
 | (_,t)::r=>max t.depth (Oo r)
end
theorem Tt:∀ (l:List Vl) (d:Nat),Oi l<=d<->∀ v∈l,v.depth<=d
 | [],d=>by simp [Oi]
 | v::r,d=>by simp [Oi,Nat.max_le,Tt r d]
theorem SV:∀ (l:List (ByteArray × Vl)) (d:Nat),Oo l<=d<->∀ v∈l,v.2.depth<=d
 | [],d=>by simp [Oo]
 | (_,t)::r,d=>by simp [Oo,Nat.max_le,SV r d]
theorem Vl.depth_eq (v:Vl):v.depth=1+Max.max (Oi v.list) (Oo v.fields):=by cases v;simp [Vl.depth,Vl.list,Vl.fields]
theorem XT {v x:Vl} (h:x∈E1 v):x.depth<v.depth:=by
 have e:=v.depth_eq
 unfold E1 at h
 split at h
 ·have:=(Tt v.list _).1 (Nat.le_refl _) x h;omega
 ·split at h
  ·obtain ⟨p,a,rfl⟩:=List.mem_map.1 h
   have:=(SV v.fields _).1 (Nat.le_refl _) p a;omega
  ·simp at h
def Y8 (p:Nat × Vl):List AV:=[Ag p.1,.agg p.2.cs]
def YO (w0:World) (items:Aj) (k:Nat) (J:Nat->St->Prop) (Jx:St->Prop):Prop :=
 ∀ i SB SR SL x XB XL,J i ⟨SB,SR,SL⟩->items[i]? = some x->SQ Tryz.prog w0 k x ⟨SB++XB,SR,SL++XL⟩ fun r s'=>∃ TB TR TL b,r = .val (.bool b)/\s'=⟨TB++XB,TR,TL++XL⟩/\TB.length=SB.length/\SR.length<=TR.length/\TL.length=SL.length/\(b=true->J (i+1) ⟨TB,TR,TL⟩)/\(b=false->Jx ⟨TB,TR,TL⟩)
def Ym (w0:World) (items:Aj) (k:Nat) (J:Nat->St->Prop) (Jx:St->Prop) (v:Vl):Prop :=
 ∀ (lv i:Nat) (lvi:Int) SB SR SL XB XL,lv+v.depth<=4611686018427387904->v.wide=true->J i ⟨SB,SR,SL⟩->lvi=lv->(∀ j x,(IJ lv v)[j]? = some x->items[i+j]? = some (Y8 x)) ->
  ACalls Tryz.prog w0 174 [.agg v.cs,Ag lvi,.yld k] ⟨SB++XB,SR,SL++XL⟩ fun r s'=>∃ TB TR TL XB' b,r = .val (.bool b)/\s'=⟨TB++(XB++XB'),TR,TL++XL⟩/\TB.length=SB.length/\SR.length<=TR.length/\TL.length=SL.length/\(b=true->J (i+(IJ lv v).length) ⟨TB,TR,TL⟩)/\(b=false->Jx ⟨TB,TR,TL⟩)
theorem YA (w0:World) (items:Aj) (k:Nat) (J:Nat->St->Prop) (Jx:St->Prop) (hY:YO w0 items k J Jx) (v:Vl) (ih:∀ x,x.size<v.size->Ym w0 items k J Jx x):Ym w0 items k J Jx v:=by
 intro d i ah SB SR SL XB XL ae g h0 hle K
 subst hle
 obtain ⟨N,E,_⟩:=v.wide_iff.1 g
 have Z:(E1 v).length<=1000000000000:=by
  unfold E1
  split
  ·exact N
  ·split
   ·simpa using E
   ·simp
 refine BN (rs:=[.tmp 6]) Tryz.func174 rfl rfl Tryz.ntmps174 (AU Tryz.func174 rfl (by decide)) (Nat.le_of_ble_eq_true rfl) ?_
 intro M0 W0 hN ag ai Q hu
 obtain ⟨ad,af,ab⟩:=Zw v
 have f:=Zd2 d v
 have c:=PL (E1 v)
 obtain ⟨ps,hpe⟩:∃ ps,E1 v=ps:=⟨_,rfl⟩
 have w:items[i]? = some (Y8 (d,v)):=by
  have:=K 0 (d,v) (by rw [f];rfl)
  simpa using this
 simp only [As]
 apply Ah;intro K1 y
 apply Ap 1 [1,2,3]
 rw [Ai];simp +decide only [go_sem]
 (repeat' apply Ac)<;>first | refine y _ _ ?_ | exact cl
 clear y
 apply Ah;intro K2 u
 apply Ah;intro K3 t
 apply Ap 2 [1,2,3,13]
 rw [Ai];simp +decide only [go_sem]
 (repeat' apply Ac)<;>first | refine Q0 _ (fun _=>hY i SB SR SL _ (XB++[v.cs]) XL h0 w) (fun r s' hp _=>?_) | exact cl
 obtain ⟨TB,TR,TL,b,rfl,rfl,l1,l2,l3,O,hp2⟩:=hp rfl
 rw [<-l1]
 rw [Ai];simp +decide only [go_sem]
 (repeat' apply Ac)<;>first | refine t _ _ ?_ | exact cl
 clear t
 refine Bl _ (by simp +decide only [go_sem]) (by simp +decide only [go_sem];rfl) (fun hb=>?_) (fun hb=>?_)
 ·simp only [Bool.not_eq_true'] at hb
  apply Ah;intro K4 G
  apply Ap 1 [6]
  rw [Ai];simp +decide only [go_sem]
  (repeat' apply Ac)<;>first | refine G _ _ ?_ | exact cl
  clear G
  apply BC;simp +decide only [go_sem]
  exact ⟨TB,TR,TL,[v.cs],false,rfl,rfl,l1,l2,l3,fun h=>(by cases h),fun _=>hp2 hb⟩
 simp only [Bool.not_eq_false'] at hb
 apply BB;simp only [go_sem]
 (repeat' apply Ac)<;>first | refine u _ _ ?_ | exact cl
 clear u
 apply Ah;intro K5 D
 apply Ah;intro K6 s
 apply Ap 2 [1,2,15,16,17]
 rw [Ai];simp +decide only [go_sem]
 (repeat' apply Ac)<;>first | refine Nl _ (Zcc w0 _ TR _ v N E) ?_ | exact cl
 rw [hpe] at c ab Z f ⊢
 rw [Ai];simp +decide only [go_sem]
 (repeat' apply Ac)<;>first | refine s _ _ ?_ | exact cl
 clear s
 apply Ao
 refine AB (fun m e st=>∃ (q:Nat) (UB:Aj) (UR:Am) (UL:An) (XB':Aj),q<=ps.length/\m=ps.length-q/\J (i+1+((ps.take q).flatMap (IJ (d+1))).length) ⟨UB,UR,UL⟩/\UB.length=SB.length/\SR.length<=UR.length/\UL.length=SL.length/\e=[(1,true,Ag d),(2,true,.yld k),(15,true,.list (DL ps) .none),(16,true,Ag ps.length),(17,true,Ag q)]/\st=⟨UB++(XB++XB'),UR,UL++XL⟩) ps.length ⟨0,TB,TR,TL,[v.cs],by omega,rfl,by simpa using O hb,l1,l2,l3,rfl,by simp⟩ ?_
 rintro m e st ⟨q,UB,UR,UL,XB',hq,rfl,hj,m1,m2,m3,rfl,rfl⟩ KR V
 obtain ⟨x,hx⟩:∃ x,(DL ps).getD q .junk=x:=⟨_,rfl⟩
 apply Ah;intro K7 C
 apply Ap 1 [1,2,15,16,17,18]
 rw [Ai];simp +decide only [go_sem,hx,c]
 (repeat' apply Ac)<;>first | refine C _ _ ?_ | exact cl
 clear C
 apply Ah;intro K8 F
 refine Bl _ (by simp +decide only [go_sem]) (by simp +decide only [go_sem];rfl) (fun hb=>?_) (fun hb=>?_)
 rotate_left
 ·simp only [Bool.or_eq_true,Bool.or_eq_false_iff,Bool.and_eq_true,Bool.and_eq_false_iff,decide_eq_true_eq,decide_eq_false_iff_not,Bool.not_eq_true',Bool.not_eq_false',Bool.not_eq_eq_eq_not,Bool.not_true,Bool.not_false] at hb
  apply D4;simp +decide only [go_sem,hx,c]
  (repeat' apply Ac)<;>first | refine D _ _ ?_ | exact cl
  clear D
  apply Ah;intro K9 z
  apply Ap 1 [6]
  rw [Ai];simp +decide only [go_sem,hx,c]
  (repeat' apply Ac)<;>first | refine z _ _ ?_ | exact cl
  clear z
  apply BC;simp +decide only [go_sem]
  refine ⟨UB,UR,UL,XB',true,rfl,rfl,m1,m2,m3,fun _=>?_,fun h=>(by cases h)⟩
  rw [List.take_of_length_le (by omega)] at hj
  rw [f,List.length_cons,show i+((ps.flatMap (IJ (d+1))).length+1)=i+1+(ps.flatMap (IJ (d+1))).length by omega]
  exact hj
 simp only [Bool.or_eq_true,Bool.or_eq_false_iff,Bool.and_eq_true,Bool.and_eq_false_iff,decide_eq_true_eq,decide_eq_false_iff_not,Bool.not_eq_true',Bool.not_eq_false',Bool.not_eq_eq_eq_not,Bool.not_true,Bool.not_false] at hb
 have a:q<ps.length:=by omega
 have hx2:=Z7 ps q a
 rw [hx] at hx2
 subst hx2
 have aa:=Vx (IJ (d+1)) ps q a
 have H:∀ j x,(IJ (d+1) (ps[q]'a))[j]? = some x->items[i+1+((ps.take q).flatMap (IJ (d+1))).length+j]? = some (Y8 x):=fun j x Y=>by
  have h1:=Xk (IJ (d+1)) ps q a j x Y
  have h2:=K (((ps.take q).flatMap (IJ (d+1))).length+j+1) x (by rw [f,List.getElem?_cons_succ,h1])
  rw [show i+1+((ps.take q).flatMap (IJ (d+1))).length+j=i+(((ps.take q).flatMap (IJ (d+1))).length+j+1) by omega]
  exact h2
 apply BB;simp only [go_sem]
 (repeat' apply Ac)<;>first | refine F _ _ ?_ | exact cl
 clear F
 apply Ah;intro K10 p
 apply Ao
 apply Ah;intro K11 n
 apply Ap 1 [1,2,8,15,16,17]
 rw [Ai];simp +decide only [go_sem,hx,c]
 (repeat' apply Ac)<;>first | refine n _ _ ?_ | exact cl
 clear n
 apply Ah;intro K12 l
 apply Ap 2 [1,2,15,16,17,26]
 rw [Ai];simp +decide only [go_sem,hx,c]
 (repeat' apply Ac)<;>first | refine TN _ (ih (ps[q]'a) (Zi v _ (by rw [hpe];exact List.getElem_mem a)) (d+1) _ _ UB UR UL (XB++(XB'++[(ps[q]'a).cs])) XL (by have:=XT (v:=v) (x:=ps[q]'a) (by rw [hpe];exact List.getElem_mem a);omega) (Zx g (by rw [hpe];exact List.getElem_mem a)) hj (by omega) H) ?_ | exact cl
 rintro r s' ⟨VB,VR,VL,XB2,b2,rfl,rfl,n1,n2,n3,U,np2⟩
 rw [Ai];simp +decide only [go_sem,hx,c]
 (repeat' apply Ac)<;>first | refine l _ _ ?_ | exact cl
 clear l
 refine Bl _ (by simp +decide only [go_sem]) (by simp +decide only [go_sem];rfl) (fun hb=>?_) (fun hb=>?_)
 ·simp only [Bool.not_eq_true'] at hb
  apply Ah;intro K13 o
  apply Ap 1 [6]
  rw [Ai];simp +decide only [go_sem,hx,c]
  (repeat' apply Ac)<;>first | refine o _ _ ?_ | exact cl
  clear o
  apply BC;simp +decide only [go_sem]
  exact ⟨VB,VR,VL,XB'++([(ps[q]'a).cs]++XB2),false,rfl,by simp,by omega,by omega,by omega,fun h=>(by cases h),fun _=>np2 hb⟩
 simp only [Bool.not_eq_false'] at hb
 apply BB;simp only [go_sem]
 (repeat' apply Ac)<;>first | refine p _ _ ?_ | exact cl
 clear p
 apply Ap 1 [1,2,15,16,17]
 rw [Ai];simp +decide only [go_sem,hx,c]
 (repeat' apply Ac)<;>first | refine V (ps.length-(q+1)) _ _ ?_ ⟨q+1,VB,VR,VL,XB'++([(ps[q]'a).cs]++XB2),?_,rfl,?_,?_,?_,?_,?_,?_⟩ | exact cl
 ·omega
 ·omega
 ·rw [aa];have:=U hb;rwa [Nat.add_assoc (i+1)] at this
 ·omega
 ·omega
 ·omega
 ·simp
 ·simp
theorem Xg (w0:World) (items:Aj) (k:Nat) (J:Nat->St->Prop) (Jx:St->Prop) (hY:YO w0 items k J Jx):∀ (n:Nat) (v:Vl),v.size<=n->Ym w0 items k J Jx v
 | 0,v,h=>by have:=v.size_pos;omega
 | n+1,v,h=>YA w0 items k J Jx hY v fun x a=>Xg w0 items k J Jx hY n x (by omega)
def Jv (v:Vl):List (List AV):=(IJ 1 v).map Y8
theorem Uz (w0:World) (v:Vl) (hv:v.depth<4611686018427387904/\v.wide=true) (l:Nat):ZfC Tryz.prog w0 173 [.box l 0] (Jv v) (fun st=>st.boxes[l]? = some v.cs):=by
 intro k J Jx E H D y
 have O:YO w0 (Jv v) k J (fun s=>Jx s):=by
  intro i SB SR SL x XB XL U q
  have:=H i ⟨SB,SR,SL⟩ x ⟨XB,[],XL⟩ rfl U q
  simp only [St.ext,List.append_nil] at this
  intro M w d C z
  obtain ⟨F,e,t,f,g,u⟩:=this M w d C z
  refine ⟨F,e,t,f,g,fun n=>(u n).mono ?_⟩
  intro en Z K
  refine K.mono ?_
  rintro r s ⟨⟨TB,TR,TL⟩,rfl,⟨q1,q2,q3⟩,hp⟩
  rcases hp with ⟨rfl,hp⟩ | ⟨rfl,hp⟩
  ·exact ⟨TB,TR,TL,true,rfl,rfl,q1,q2,q3,fun _=>hp,fun h=>(by cases h)⟩
  ·exact ⟨TB,TR,TL,false,rfl,rfl,q1,q2,q3,fun h=>(by cases h),fun _=>hp⟩
 obtain ⟨a,G⟩:=E _ _ y
 obtain ⟨SB,SR,SL⟩:=D
 have Q:l<SB.length:=(Af.1 a).1
 have g:Cm ⟨SB,SR,SL⟩ (.box l 0)=true:=by simp [Cm,Q]
 have u:Bt ⟨SB,SR,SL⟩ (.box l 0)=v.cs:=by
  simp only at a
  simp [Bt,List.getD,a]
 have c:=Xg w0 (Jv v) k J Jx O v.size v (Nat.le_refl _) 1 0 1 SB SR SL [] [] (by omega) hv.2 y rfl (fun j x q=>by simp [Jv,q])
 simp only [List.append_nil,List.nil_append,Nat.zero_add] at c
 refine BN (rs:=[]) Tryz.func173 rfl rfl Tryz.ntmps173 (AU Tryz.func173 rfl (by decide)) (Nat.le_of_ble_eq_true rfl) ?_
 intro M0 W0 hN N V o Y
 simp only [As]
 apply Ap 2 []
 rw [Ai];simp +decide only [go_sem,g,u]
 (repeat' apply Ac)<;>first | refine TN _ c ?_ | exact cl
 rintro r s ⟨TB,TR,TL,XB',b,rfl,rfl,q1,q2,q3,m,p⟩
 rw [Ai];simp +decide only [go_sem]
 refine ⟨⟨TB,TR,TL⟩,⟨XB',[],[]⟩,rfl,by simp [St.ext],?_⟩
 cases b with
 | true=>exact .inl (by have:=m rfl;simpa [Jv] using this)
 | false=>exact .inr (p rfl)
theorem Uk (v:Vl):(Jv v).length=(IJ 1 v).length:=by simp [Jv]
theorem Ys (v:Vl) (i:Nat) (x:List AV) (h:(Jv v)[i]? = some x):∃ p,(IJ 1 v)[i]? = some p/\x=[Ag p.1,.agg p.2.cs]/\i<(IJ 1 v).length:=by
 simp only [Jv,List.getElem?_map,Option.map_eq_some_iff] at h
 obtain ⟨p,a,rfl⟩:=h
 exact ⟨p,a,rfl,(Af.1 a).1⟩
theorem Yc (v:Vl) (x:List AV) (h:x∈Jv v):x.length=2:=by
 obtain ⟨p,_,rfl⟩:=List.mem_map.1 h
 rfl
theorem Xt (w0:World) (B:Aj) (Rw:Am) (L:An) (v:Vl) :
  ACalls Tryz.prog w0 119 [.agg v.cs] ⟨B,Rw,L⟩ fun r st=>r = .clo 173 [.box B.length 0]/\st=⟨B++[v.cs],Rw,L⟩:=by
 refine BN (rs:=[.tmp 2]) Tryz.func119 rfl rfl Tryz.ntmps119 (AU Tryz.func119 rfl (by decide)) (Nat.le_of_ble_eq_true rfl) ?_
 intro M0 W0 f d e c g
 simp only [As]
 apply Ah;intro K1 a
 apply Ap 1 [1]
 rw [Ai];simp +decide only [go_sem]
 (repeat' apply Ac)<;>first | refine a _ _ ?_ | exact cl
 clear a
 apply Ah;intro K2 b
 apply Ap 1 [2]
 rw [Ai];simp +decide only [go_sem]
 (repeat' apply Ac)<;>first | refine b _ _ ?_ | exact cl
 clear b
 apply BC;simp +decide only [go_sem]
 skip
def S4:List AV:=[.val .nilFunc,.clo 158 [],.clo 160 [],.clo 161 [],.clo 163 [],.clo 166 [],.clo 167 [],.clo 168 [],.clo 169 [],.clo 170 [],.clo 172 []]
theorem ZbP (w0:World) (B:Aj) (Rw:Am) (L:An)  :
  ACalls Tryz.prog w0 118 [] ⟨B,Rw,L⟩ fun r st=>r = .agg S4/\st=⟨B,Rw,L⟩:=by
 refine ACalls.finP (BN (rs:=[.cell 0 203]) Tryz.func118 rfl rfl Tryz.ntmps118 (AU Tryz.func118 rfl (by decide)) (Nat.le_of_ble_eq_true rfl) ?_)
 intro M0 W0 f d e a g
 simp only [As]
 apply Ah;intro K1 b
 apply Ap 1 [0]
 rw [Ai];simp +decide only [go_sem,EE,C0,Ci,BH,List.getElem?_cons_zero,List.getElem?_cons_succ,List.nil_append,List.cons_append]
 (repeat' apply Ac)<;>first | refine b _ _ ?_ | exact cl
 clear b
 apply Ah;intro K2 c
 apply Ap 1 [0]
 rw [Ai];simp +decide only [go_sem,EE,C0,Ci,BH,List.getElem?_cons_zero,List.getElem?_cons_succ,List.nil_append,List.cons_append]
 (repeat' apply Ac)<;>first | refine c _ _ ?_ | exact cl
 clear c
 apply BC;simp +decide only [go_sem]
 refine JG a pf pf pf (by simp +decide only [go_sem]) ⟨?_,rfl⟩
 rfl
inductive Ex where
 | mk (op int:Int) (text:ByteArray) (value:List Vl) (args:List Ex)
namespace Ex
def op:Ex->Int | mk o _ _ _ _=>o
def int:Ex->Int | mk _ i _ _ _=>i
def text:Ex->ByteArray | mk _ _ t _ _=>t
def value:Ex->List Vl | mk _ _ _ v _=>v
def args:Ex->List Ex | mk _ _ _ _ a=>a
end Ex
mutual
def Ex.size:Ex->Nat
 | .mk _ _ _ _ a=>1+Zb3 a
def Zb3:List Ex->Nat
 | []=>0
 | e::r=>e.size+Zb3 r
end
mutual
def Ex.cs:Ex->List AV
 | .mk o i t v a=>[.val (.int .i64 o),.val (.int .i64 i),.val (.string t),.list (DL v) .none,.list (N3 a) .none]
def N3:List Ex->List AV
 | []=>[]
 | e::r => .agg e.cs::N3 r
end
theorem Ot:∀ l:List Ex,N3 l=l.map fun v => .agg v.cs
 | []=>rfl
 | v::r=>by simp [N3,Ot r]
@[go_sem] theorem Zfk (l:List Ex):(N3 l).length=l.length:=by simp [Ot]
mutual
theorem Ex.under (nb nr nl:Nat):∀ v:Ex,∀ x∈v.cs,Under nb nr nl x
 | .mk o i t v a=>by
  intro x b
  simp only [Ex.cs,List.mem_cons,List.not_mem_nil,or_false] at b
  rcases b with rfl | rfl | rfl | rfl | rfl
  ·exact .val _
  ·exact .val _
  ·exact .val _
  ·exact .list (Iu nb nr nl v) trivial
  ·exact .list (Nu nb nr nl a) trivial
theorem Nu (nb nr nl:Nat):∀ l:List Ex,∀ x∈N3 l,Under nb nr nl x
 | []=>fun _ h=>by simp [N3] at h
 | v::r=>by
  intro x hx
  simp only [N3,List.mem_cons] at hx
  rcases hx with rfl | hx
  ·exact .agg (Ex.under nb nr nl v)
  ·exact Nu nb nr nl r x hx
end
@[go_sem] theorem Zhp (nb nr nl:Nat) (v:Ex):Under nb nr nl (.agg v.cs)<->True:=iff_true_intro (.agg (v.under nb nr nl))
@[go_sem] theorem Zft (nb nr nl:Nat) (l:List Ex):(∀ x∈N3 l,Under nb nr nl x)<->True:=iff_true_intro (Nu nb nr nl l)
@[go_sem] theorem Ex.cs_length (v:Ex):v.cs.length=5:=by cases v;rfl
@[go_sem] theorem Ex.cs_pub (v:Ex):v.cs.map AV.pubCell=v.cs:=by cases v;rfl
section
variable (v:Ex) (d:AV) (l:List AV)
@[go_sem] theorem Ex.g0:v.cs.getD 0 d = .val (.int .i64 v.op):=by cases v;rfl
@[go_sem] theorem Ex.g1:v.cs.getD 1 d = .val (.int .i64 v.int):=by cases v;rfl
@[go_sem] theorem Ex.g2:v.cs.getD 2 d = .val (.string v.text):=by cases v;rfl
@[go_sem] theorem Ex.g3:v.cs.getD 3 d = .list (DL v.value) .none:=by cases v;rfl
@[go_sem] theorem Ex.g4:v.cs.getD 4 d = .list (N3 v.args) .none:=by cases v;rfl
@[go_sem] theorem Ex.take5:v.cs.take 5=v.cs:=by cases v;rfl
@[go_sem] theorem Ex.take5a:(v.cs++l).take 5=v.cs:=by cases v;rfl
end
end Go.Proofs.YtcpmjgdlioggjaaGreatDoor
