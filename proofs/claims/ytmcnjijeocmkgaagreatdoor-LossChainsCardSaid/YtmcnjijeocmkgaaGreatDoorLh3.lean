/-
  Part 3 of the proof: rules and walks that the claim's last text uses.
-/
import Derived.Ground.Names2Prog
import Derived.Ground.NamesProg
import Derived.Ground.SlgfProg
import Derived.Ground.SlgnProg
import Derived.Ground.SlsfProg
import Derived.Shelf.LaysC
import Derived.Shelf.LaysM
import Derived.Shelf.SlicesE.Clone
import Derived.Shelf.Small.Bits
import Derived.Shelf.Small.Strs
import Derived.Shelf.Small.Utf8
import Derived.Shelf.Sort.Plain
import Derived.Shelf.Strconv.Atoi
import Derived.Shelf.Strconv.AtoiAll
import Derived.Shelf.Strconv.AtoiErrFast
import Derived.Shelf.Strconv.AtoiFail
import Derived.Shelf.Strconv.AtoiInnerAll
import Derived.Shelf.Strconv.AtoiLong
import Derived.Shelf.Strconv.Clone
import Derived.Shelf.Strconv.Itoa0
import Derived.Shelf.Strconv.Itoa1
import Derived.Shelf.Strconv.Itoa2
import Derived.Shelf.Strconv.Itoa3
import Derived.Shelf.Strconv.Lower
import Derived.Shelf.Strconv.ParseInt10
import Derived.Shelf.Strconv.ParseIntEmpty
import Derived.Shelf.Strconv.ParseUint10
import Derived.Shelf.Strconv.ParseUint10Any
import Derived.Shelf.Strconv.ParseUint10Empty
import Derived.Shelf.Strconv.RangeError
import Derived.Shelf.Strconv.SyntaxError
import Derived.Shelf.Strconv.ToError
import Derived.Shelf.Strconv.ToErrorRange
import Derived.Shelf.Strings.AsciiSet
import Derived.Shelf.Strings.Cut
import Derived.Shelf.Strings.IndexAny
import Derived.Shelf.Strings.IndexAnyAll
import Derived.Shelf.Strings.Repeat
import Derived.Shelf.Strings.Runes
import Derived.Shelf.Strings.Search1
import Derived.Shelf.Strings.Search2
import Derived.Shelf.Strings.Shaped
import Derived.Shelf.Unicode.DecodeSlow
import Derived.Shelf.Unicode.ValidAny
import Derived.Test.YtmcnjijeocmkgaaGreatDoorProg
import Derived.Test.YtmcnjijeocmkgaaGreatDoorLh2
set_option linter.unusedSimpArgs false
set_option linter.unusedVariables false
set_option maxRecDepth 100000
set_option maxHeartbeats 4000000
namespace Go.Ev
open Go Go.RowKit
def AV.pubA:AV→AV
 | .tup vs => .tup (vs.map AV.pub)
 | .agg cs => .agg (cs.map AV.pubCell)
 | .list xs _ => .list xs .none
 | x=>x
section
variable (vs cs xs:List AV) (o:Own) (v:Value) (x:AV) (i j k m:Nat)
@[go_sem] theorem ZkW:AV.pubA (.tup vs) = .tup (vs.map AV.pub):=rfl
@[go_sem] theorem Zk9:AV.pubA (.agg cs) = .agg (cs.map AV.pubCell):=rfl
@[go_sem] theorem Zky:AV.pubA (.list xs o) = .list xs .none:=rfl
@[go_sem] theorem V9:AV.pubA (.val v) = .val v:=rfl
@[go_sem] theorem ZkK:AV.pubA (.elem x i) = .elem x i:=rfl
@[go_sem] theorem Zk2:AV.pubA (.box i j) = .box i j:=rfl
@[go_sem] theorem ZlA:AV.pubA (.clo i xs) = .clo i xs:=rfl
@[go_sem] theorem Zln:AV.pubA (.yld i) = .yld i:=rfl
@[go_sem] theorem Zmr:AV.pubA (.mp i) = .mp i:=rfl
@[go_sem] theorem ZlJ:AV.pubA (.vec i j k m) = .vec i j k m:=rfl
@[go_sem] theorem Zlx:AV.pubA (.vel i j k) = .vel i j k:=rfl
@[go_sem] theorem Zmi:AV.pub (.agg cs) = .agg (cs.map AV.pubCell):=rfl
@[go_sem] theorem Zlq:AV.pub (.list xs o) = .list xs .none:=rfl
@[go_sem] theorem ZlT:AV.pub (.val v) = .val v:=rfl
@[go_sem] theorem ZkT:AV.pub (.elem x i) = .elem x i:=rfl
@[go_sem] theorem ZlX:AV.pub (.box i j) = .box i j:=rfl
@[go_sem] theorem ZlQ:AV.pub (.clo i xs) = .clo i xs:=rfl
@[go_sem] theorem Zl2:AV.pub (.yld i) = .yld i:=rfl
@[go_sem] theorem Zmy:AV.pub (.mp i) = .mp i:=rfl
@[go_sem] theorem Zml:AV.pub (.vec i j k m) = .vec i j k m:=rfl
@[go_sem] theorem ZlZ:AV.pub (.vel i j k) = .vel i j k:=rfl
@[go_sem] theorem ZhY:AV.pubCell (.list xs o) = .list xs .none:=rfl
@[go_sem] theorem Zim:AV.pubCell (.val v) = .val v:=rfl
@[go_sem] theorem Zii:AV.pubCell (.elem x i) = .elem x i:=rfl
@[go_sem] theorem ZiO:AV.pubCell (.box i j) = .box i j:=rfl
@[go_sem] theorem Ziz:AV.pubCell (.clo i xs) = .clo i xs:=rfl
@[go_sem] theorem Ziq:AV.pubCell (.yld i) = .yld i:=rfl
@[go_sem] theorem Zi8:AV.pubCell (.mp i) = .mp i:=rfl
@[go_sem] theorem Zi0:AV.pubCell (.vec i j k m) = .vec i j k m:=rfl
@[go_sem] theorem ZiK:AV.pubCell (.vel i j k) = .vel i j k:=rfl
end
theorem R.pubA {w0:World} {M:Mem} {w:World} {v:Value} {x:AV} (h:R w0 M w v x):R w0 M w v x.pubA:=by
 cases h with
 | tup hl h=>exact .tup (by simpa using hl) (fun i a b=>by simp only [List.getElem_map];exact (h i a (by simpa using b)).pub)
 | flat hf=>exact (R.flat hf).pub
 | agg hl h1 h=>exact (R.agg hl h1 h).pub
 | nil ho=>exact (R.nil ho).pub
 | emp ho=>exact (R.emp ho).pub
 | list sz us hc hm hcell hu ho=>exact (R.list sz us hc hm hcell hu ho).pub
 | elem u k hcell hu=>exact (R.elem u k hcell hu).pub
 | box hl=>exact (R.box hl).pub
 | clo hl h=>exact (R.clo hl h).pub
 | yld hk=>exact (R.yld hk).pub
 | mp hk=>exact (R.mp hk).pub
 | vec hi hv h=>exact (R.vec hi hv h).pub
 | vel hi hv h=>exact (R.vel hi hv h).pub
section
variable {P:Program} {w0:World} {st:St} {f:FuncId}
theorem ACalls.pub {args args':List AV} {Post:AV→St→Prop} (h:ACalls P w0 f args' st Post) (he:args.map AV.pubA=args'):ACalls P w0 f args st Post:=by
 subst he
 refine ⟨h.1,fun M w c e d=>h.2 M w c e ?_⟩
 obtain ⟨g,j⟩:=d
 refine ⟨by simpa using g,fun i a b=>?_⟩
 simp only [List.getElem_map]
 exact (j i a (by simpa using b)).pubA
theorem Ax {c d:Bool} {cs args args':List AV} {k:AV→St→Prop} (v:AV)
  (h:ACalls P w0 f args' st fun r s=>r=v∧s=st) (he:(args++cs).map AV.pubA=args') (hk:k v st):La P w0 c d (.clo f cs) args st k := .inl ⟨v,fun _=>h.pub he,hk⟩
theorem QJ {c d:Bool} {cs args args':List AV} {k:AV→St→Prop} (v:AV)
  (h:c=true→ACalls P w0 f args' st fun r s=>r=v∧s=st) (he:(args++cs).map AV.pubA=args') (hk:k v st):La P w0 c d (.clo f cs) args st k := .inl ⟨v,fun q=>(h q).pub he,hk⟩
theorem DL {cs args args':List AV} {k:AV→St→Prop} (Post:AV→St→Prop)
  (h:ACalls P w0 f args' st Post) (he:(args++cs).map AV.pubA=args') (hk:∀ v s,Post v s→k v s):La P w0 true false (.clo f cs) args st k := .inr ⟨rfl,Post,fun _=>h.pub he,fun v s a _=>hk v s (a rfl)⟩
def finP (st:St) (Post:AV→St→Prop) (r:AV) (s:St):Prop :=
 st.boxes.length≤s.boxes.length∧st.rows.length≤s.rows.length∧st.loops.length≤s.loops.length∧Calm st.boxes.length st.rows.length st.loops.length (s.cut st.boxes.length st.rows.length st.loops.length) ∧
  Under st.boxes.length st.rows.length st.loops.length r.pubA∧Post r.pubA (s.cut st.boxes.length st.rows.length st.loops.length)
theorem ACalls.finP {args:List AV} {Post:AV→St→Prop} (h:ACalls P w0 f args st (finP st Post)):ACalls P w0 f args st Post:=by
 refine ⟨h.1,fun M w b a c=>(h.2 M w b a c).mono ?_⟩
 rintro en n ⟨v,M',r,e,g,⟨k,m,d,j,l,i⟩,h3,h4,h5⟩
 exact ⟨v,M'.cut st.boxes.length st.rows.length st.loops.length,r.pubA,_,g,i,h3.cut (by have:=a.N;omega) (by have:=a.NR;omega) (by have:=a.loop.NL;omega) (by rw [h4.loop.NL];exact d),h4.cut k m d j,h5.pubA.cut l⟩
theorem RF {B:List (List AV)} {Rw:List RowA} {L:List LoopA} {s:St} {Post:AV→St→Prop} {v:AV} (hc:Ev.Calm B.length Rw.length L.length ⟨B,Rw,L⟩) (h1:B <+: s.boxes) (h2:Rw <+: s.rows) (h3:L <+: s.loops) (hu:Under B.length Rw.length L.length v.pubA) (hp:Post v.pubA ⟨B,Rw,L⟩) :
  Go.Ev.finP ⟨B,Rw,L⟩ Post v s:=by
 obtain ⟨b,e1⟩:=h1
 obtain ⟨r,e2⟩:=h2
 obtain ⟨l,e3⟩:=h3
 obtain ⟨c,a,d⟩:=s
 simp only at e1 e2 e3
 subst e1 e2 e3
 have e:St.cut ⟨B++b,Rw++r,L++l⟩ B.length Rw.length L.length=⟨B,Rw,L⟩:=by simp [St.cut]
 exact ⟨by simp,by simp,by simp,by simp only [e];exact hc,hu,by simp only [e];exact hp⟩
end
@[go_sem] theorem Zip (xs c:List AV) (h:xs.length=c.length):CN xs 0 c=c:=by simp [CN,h]
section
universe u v
variable {α:Type u} {β:Type v} {r:β}
theorem Au {c:Prop} [Decidable c] {x:Option β} (h:(if c then x else none)=some r):c∧x=some r:=by
 by_cases q:c
 ·rw [Ai q] at h;exact ⟨q,h⟩
 ·rw [Aj q] at h;cases h
theorem bind_some {o:Option α} {f:α→Option β} (h:o.bind f=some r):∃ x,o=some x∧f x=some r:=by
 cases o with
 | none=>cases h
 | some x=>exact ⟨x,rfl,h⟩
theorem Be {b:Bool} {x y:β} (h:(if b=true then x else y)=r) (hb:b=true):x=r:=by rwa [Ai hb] at h
theorem Bh {b:Bool} {x y:β} (h:(if b=true then x else y)=r) (hb:b=false):y=r:=by rwa [Aj (by simp [hb])] at h
def BJ (xs:List α) (i:Int):Option α:=if 0≤i then xs[i.toNat]? else none
theorem AY {xs:List α} {i:Int} {x:α} (h:BJ xs i=some x):0≤i∧i<xs.length∧xs[i.toNat]? = some x:=by
 unfold BJ at h
 obtain ⟨b,a⟩:=Au h
 have:=(Ak.1 a).1
 exact ⟨b,by omega,a⟩
theorem ZjJ {xs:List α} {i:Nat} (h:i<xs.length):BJ xs (i:Int)=some xs[i]:=by simp [BJ,h]
theorem AO {f:α→AV} {xs:List α} {i:Nat} {x:α} (h:xs[i]? = some x):(xs.map f).getD i .junk=f x:=by simp [List.getD,h]
end
abbrev A9 (n:Int):Prop := -9223372036854775808≤n∧n≤9223372036854775807
theorem Bn {nb nr nl nb' nr' nl':Nat} {x:AV} (h1:nb≤nb') (h2:nr≤nr') (h3:nl≤nl') (h:Under nb nr nl x):Under nb' nr' nl' x:=by
 induction h with
 | val v=>exact .val v
 | list h ho ih=>exact .list ih (by rename_i o;cases o<;>first | trivial | exact Nat.lt_of_lt_of_le ho h2)
 | elem h ih=>exact .elem ih
 | box h=>exact .box (by omega)
 | clo h ih=>exact .clo ih
 | agg h ih=>exact .agg ih
 | tup h ih=>exact .tup ih
 | yld h=>exact .yld (by omega)
 | mp h=>exact .mp (by omega)
 | vec h=>exact .vec (by omega)
 | vel h=>exact .vel (by omega)
def OwnsAt (lo:Nat) (ho:Own) (rows:Aw) (x:Nat × Nat × Own):Prop:=x.2.2 = .full∨∃ id,x.2.2 = .row id∧(lo≤id∨ho = .row id)∧rows[id]? = some (.grow x.2.1 x.1)
inductive VO where
 | nil
 | row (id ver:Nat)
def Ks:VO→Nat→AV
 | .nil,_ => .list [] .seed
 | .row id ver,n => .vec id ver 0 n
abbrev VE:=VO × Nat × List AV
def VAt (lo:Nat) (ho:Own) (rows:Aw) (x:VE):Prop:=(x.1 = .nil∧x.2.2=[])∨∃ id ver,x.1 = .row id ver∧(lo≤id∨ho = .row id)∧rows[id]? = some (.vec ver x.2.1 x.2.2)
def X8 (v:List VE) (i:Nat):Prop:=∀ x∈v,∀ ver,x.1 ≠ .row i ver
theorem Zat (i:Nat):X8 [] i:=fun _ h=>(nomatch h)
structure Owns (Rw rows:Aw) (l:List (Nat × Nat × Own)) (ho:Own := .none) (v:List VE:=[]):Prop where
 len:Rw.length≤rows.length
 keep:∀ i,i<Rw.length→ho ≠ .row i→rows[i]? = Rw[i]?
 calm:∀ i r,rows[i]? = some r→(Rw.length≤i∨ho = .row i)→X8 v i→r.cells=[]
 each:∀ x∈l,OwnsAt Rw.length ho rows x
 apart:l.Pairwise fun x y=>∀ id,x.2.2 = .row id→y.2.2 ≠ .row id
 veach:∀ x∈v,VAt Rw.length ho rows x
 vapart:v.Pairwise fun x y=>∀ id a b,x.1 = .row id a→y.1 ≠ .row id b
section
variable {Rw rows:List RowA} {l:List (Nat × Nat × Own)} {ho:Own} {v:List VE}
theorem Owns.none (Rw:Aw):Owns Rw Rw []:=by
 refine ⟨Nat.le_refl _,fun _ _ _=>rfl,fun i r h q _=>?_,by simp,.nil,by simp,.nil⟩
 have:=(Ak.1 h).1
 rcases q with q | q
 ·omega
 ·cases q
theorem Owns.pre (h:Owns Rw rows l .none v):Rw <+: rows:=by
 rw [List.prefix_iff_getElem?]
 intro i hi
 rw [h.keep i hi (fun q=>by cases q),List.getElem?_eq_getElem hi]
theorem Owns.sub {l':List (Nat × Nat × Own)} (h:Owns Rw rows l ho v) (hs:l'.Sublist l):Owns Rw rows l' ho v :=
 ⟨h.len,h.keep,h.calm,fun x a=>h.each x (hs.subset a),h.apart.sublist hs,h.veach,h.vapart⟩
theorem Owns.full (h:Owns Rw rows l ho v) (sz n:Nat):Owns Rw rows ((sz,n,.full)::l) ho v :=
 ⟨h.len,h.keep,h.calm,fun x hx=>by
  rcases List.mem_cons.1 hx with rfl | hx
  ·exact .inl rfl
  ·exact h.each x hx,List.pairwise_cons.2 ⟨fun _ _ id q=>(nomatch q),h.apart⟩,h.veach,h.vapart⟩
theorem VAt.up {lo:Nat} {x:VE} (h:VAt lo ho rows x) (r:Aw):VAt lo ho (rows++r) x:=by
 rcases h with h | ⟨id,ver,h1,h2,h3⟩
 ·exact .inl h
 ·exact .inr ⟨id,ver,h1,h2,by rw [List.getElem?_append_left (Ak.1 h3).1];exact h3⟩
theorem VAt.set {lo:Nat} {x:VE} (h:VAt lo ho rows x) {i:Nat} (hi:∀ ver,x.1 ≠ .row i ver) (r:RowA):VAt lo ho (rows.set i r) x:=by
 rcases h with h | ⟨id,ver,h1,h2,h3⟩
 ·exact .inl h
 ·exact .inr ⟨id,ver,h1,h2,by rw [List.getElem?_set_ne (fun (e:i=id)=>hi ver (by rw [e];exact h1))];exact h3⟩
theorem Owns.make (h:Owns Rw rows l ho v) (sz n:Nat):Owns Rw (rows++[.grow n sz]) ((sz,n,.row rows.length)::l) ho v:=by
 have e:=h.len
 refine ⟨by simp;omega,fun i b f=>?_,fun i r a q c=>?_,fun x hx=>?_,List.pairwise_cons.2 ⟨fun y d id q k=>?_,h.apart⟩,fun x hx=>(h.veach x hx).up _,h.vapart⟩
 ·rw [List.getElem?_append_left (by omega)];exact h.keep i b f
 ·by_cases b:i<rows.length
  ·rw [List.getElem?_append_left b] at a;exact h.calm i r a q c
  ·rw [List.getElem?_append_right (by omega)] at a
   have:=List.mem_of_getElem? a
   simp only [List.mem_singleton] at this;subst this;rfl
 ·rcases List.mem_cons.1 hx with rfl | hx
  ·exact .inr ⟨_,rfl,.inl e,by simp⟩
  ·rcases h.each x hx with q | ⟨id,q1,q2,q3⟩
   ·exact .inl q
   ·exact .inr ⟨id,q1,q2,by rw [List.getElem?_append_left (Ak.1 q3).1];exact q3⟩
 ·rcases h.each y d with q' | ⟨id',q1,q2,q3⟩
  ·rw [q'] at k;cases k
  ·rw [q1] at k;cases k;cases q
   exact absurd (Ak.1 q3).1 (Nat.lt_irrefl _)
theorem Owns.unders (h:Owns Rw rows l ho v):∀ x∈l,x.2.2.under rows.length:=fun x a=>by
 rcases h.each x a with q | ⟨id,q1,q2,q3⟩
 ·rw [q];trivial
 ·rw [q1];exact (Ak.1 q3).1
theorem Owns.of_eq {l':List (Nat × Nat × Own)} (h:Owns Rw rows l ho v) (he:l=l'):Owns Rw rows l' ho v:=he▸h
theorem Owns.swap {l':List (Nat × Nat × Own)} (h:Owns Rw rows l ho v) (hp:l.Perm l'):Owns Rw rows l' ho v :=
 ⟨h.len,h.keep,h.calm,fun x c=>h.each x (hp.mem_iff.2 c),(hp.pairwise_iff (R:=fun x y:Nat × Nat × Own=>∀ id,x.2.2 = .row id→y.2.2 ≠ .row id) (fun q id a b=>q id b a)).1 h.apart,h.veach,h.vapart⟩
theorem Owns.grow_off (h:Owns Rw rows l ho v) {sz n id:Nat} (hx:(sz,n,Own.row id)∈l):X8 v id:=by
 intro x hv a e
 rcases h.each _ hx with q | ⟨id',q1,q2,q3⟩
 ·cases q
 ·cases q1
  rcases h.veach x hv with w | ⟨id2,ver2,w1,w2,w3⟩
  ·rw [w.1] at e;cases e
  ·rw [w1] at e;cases e
   rw [w3] at q3;cases q3
end
theorem Y8 {Rw rows:List RowA} (h:Rw <+: rows) {id:Nat} (hi:Rw.length≤id) (x:RowA):Rw <+: rows.set id x:=by
 obtain ⟨t,rfl⟩:=h
 rw [List.set_append_right _ _ hi]
 exact List.prefix_append _ _
theorem Owns.more {Rw rows:List RowA} {l:List (Nat × Nat × Own)} {ho:Own} {v:List VE} {sz n id:Nat} (h:Owns Rw rows ((sz,n,.row id)::l) ho v) (m:Nat):Owns Rw (rows.set id (.grow m sz)) ((sz,m,.row id)::l) ho v:=by
 have a:=h.grow_off (List.mem_cons_self ..)
 obtain ⟨p,g,t,f,z,u,o⟩:=h
 obtain ⟨hid,hrow⟩:(Rw.length≤id∨ho = .row id)∧rows[id]? = some (.grow n sz):=by
  rcases f _ (List.mem_cons_self ..) with q | ⟨id',q1,q2,q3⟩
  ·cases q
  ·cases q1;exact ⟨q2,q3⟩
 have b:=(Ak.1 hrow).1
 obtain ⟨c,w⟩:=List.pairwise_cons.1 z
 refine ⟨by simpa using p,fun i s d=>?_,fun i r hr q j=>?_,fun x hx=>?_,List.pairwise_cons.2 ⟨fun y k=>c y k,w⟩,fun x hx=>(u x hx).set (a x hx) _,o⟩
 ·have:id≠i:=by
   rintro rfl
   rcases hid with q | q
   ·omega
   ·exact d q
  rw [List.getElem?_set_ne this];exact g i s d
 ·by_cases e:id=i
  ·subst e
   rw [List.getElem?_set_self b] at hr
   cases hr;rfl
  ·rw [List.getElem?_set_ne e] at hr;exact t i r hr q j
 ·rcases List.mem_cons.1 hx with rfl | hx
  ·exact .inr ⟨id,rfl,hid,by simp [b]⟩
  ·rcases f x (List.mem_cons_of_mem _ hx) with q | ⟨id',q1,q2,q3⟩
   ·exact .inl q
   ·have:id'≠id:=fun e=>c x hx id rfl (e▸q1)
    exact .inr ⟨id',q1,q2,by rw [List.getElem?_set_ne (Ne.symm this)];exact q3⟩
theorem Owns.inV {Rw rows:List RowA} {l:List (Nat × Nat × Own)} {ho:Own} {v:List VE} (h:Owns Rw rows l ho v) {i:Nat} {r:RowA} (hr:rows[i]? = some r) (hi:¬ X8 v i):∃ x∈v,r.cells=x.2.2∧(Rw.length≤i∨ho = .row i):=by
 simp only [X8,ne_eq,Classical.not_forall,Classical.not_not] at hi
 obtain ⟨x,a,b,e⟩:=hi
 rcases h.veach x a with w | ⟨id,ver',w1,w2,w3⟩
 ·rw [w.1] at e;cases e
 ·rw [w1] at e;cases e
  rw [w3] at hr;cases hr
  exact ⟨x,a,rfl,w2⟩
theorem Owns.rowsCalm {Rw rows:List RowA} {l:List (Nat × Nat × Own)} {ho:Own} {v:List VE} (h:Owns Rw rows l ho v) {nb nb' nl:Nat} (hb:nb≤nb') (hc:∀ r∈Rw,∀ x∈r.cells,Under nb Rw.length nl x) (hv:∀ x∈v,∀ y∈x.2.2,Under nb' rows.length nl y:=by intro x hx;cases hx):∀ r∈rows,∀ x∈r.cells,Under nb' rows.length nl x:=fun r d x hx=>by
 obtain ⟨i,f,rfl⟩:=List.mem_iff_getElem.1 d
 have b:rows[i]? = some rows[i]:=List.getElem?_eq_getElem f
 by_cases qv:X8 v i
 case neg =>
  obtain ⟨y,c,e,_⟩:=h.inV b qv
  rw [e] at hx
  exact hv y c x hx
 by_cases q:Rw.length≤i∨ho = .row i
 ·rw [h.calm i _ b q qv] at hx;cases hx
 ·have a:i<Rw.length:=by omega
  have:=h.keep i a (fun e=>q (.inr e))
  rw [b,List.getElem?_eq_getElem a] at this
  rw [Option.some.inj this] at hx
  exact Bn hb h.len (Nat.le_refl _) (hc _ (List.getElem_mem a) x hx)
theorem Owns.call {Rw rows rows':List RowA} {l:List (Nat × Nat × Own)} {ho o o':Own} {v:List VE} {sz n n':Nat} (h:Owns Rw rows ((sz,n,o)::l) ho v) (hc:Owns rows rows' [(sz,n',o')] o):Owns Rw rows' ((sz,n',o')::l) ho v:=by
 have c:=h.each _ (List.mem_cons_self ..)
 have b:∀ i,o = .row i→X8 v i:=fun i e=>h.grow_off (sz:=sz) (n:=n) (by rw [←e];exact List.mem_cons_self ..)
 obtain ⟨g,s⟩:=List.pairwise_cons.1 h.apart
 have own:∀ i,o = .row i→(Rw.length≤i∨ho = .row i)∧i<rows.length:=fun i e=>by
  rcases c with q | ⟨id,q1,q2,q3⟩
  ·simp only at q;rw [e] at q;cases q
  ·simp only at q1;rw [e] at q1;cases q1
   exact ⟨q2,(Ak.1 q3).1⟩
 have u:=h.len
 have t:=hc.len
 have a:=hc.each _ (List.mem_cons_self ..)
 refine ⟨by omega,fun i p j=>?_,fun i r d q m=>?_,fun x hxm=>?_,List.pairwise_cons.2 ⟨fun y f id e=>?_,s⟩,fun x c=>?_,h.vapart⟩
 ·have:o ≠ .row i:=fun e=>by
   rcases (own i e).1 with q | q
   ·omega
   ·exact j q
  rw [hc.keep i (by omega) this];exact h.keep i p j
 ·by_cases e:rows.length≤i∨o = .row i
  ·exact hc.calm i r d e (Zat i)
  ·rw [hc.keep i (by omega) (fun k=>e (.inr k))] at d
   exact h.calm i r d q m
 ·rcases List.mem_cons.1 hxm with rfl | hxm
  ·rcases a with q | ⟨id,q1,q2,q3⟩
   ·exact .inl q
   ·refine .inr ⟨id,q1,?_,q3⟩
    rcases q2 with q2 | q2
    ·exact .inl (by omega)
    ·exact (own id q2).1
  ·rcases h.each x (List.mem_cons_of_mem _ hxm) with q | ⟨id,q1,q2,q3⟩
   ·exact .inl q
   ·refine .inr ⟨id,q1,q2,?_⟩
    rw [hc.keep id (Ak.1 q3).1 (fun e=>g x hxm id e q1)]
    exact q3
 ·intro k
  rcases a with q | ⟨id',q1,q2,q3⟩
  ·simp only at q e;rw [q] at e;cases e
  ·simp only at q1 e
   rw [q1] at e;cases e
   rcases q2 with q2 | q2
   ·rcases h.each y (List.mem_cons_of_mem _ f) with w | ⟨id,w1,w2,w3⟩
    ·rw [w] at k;cases k
    ·rw [w1] at k;cases k
     have:=(Ak.1 w3).1
     omega
   ·exact g y f _ q2 k
 ·rcases h.veach x c with w | ⟨id,ver,w1,w2,w3⟩
  ·exact .inl w
  ·refine .inr ⟨id,ver,w1,w2,?_⟩
   rw [hc.keep id (Ak.1 w3).1 (fun e=>b id e x c ver w1)]
   exact w3
theorem Owns.append {P:Program} {t el:TypeId} {sz by8 n:Nat} {ag:Bool} {Rw rows:List RowA} {l:List (Nat × Nat × Own)} {o ho:Own} {v:List VE} (h:Owns Rw rows ((sz,n,o)::l) ho v) (he:Mc P t=some (el,sz,ag,by8)) (hz:(Br P el).isSome=true) (hs:0<sz) (m:Nat)
  (hb:(n+m)*by8≤140737488355328) (hb2:n+m≤4611686018427387904):∃ o' rows',Owns Rw rows' ((sz,n+m,o')::l) ho v ∧
   ∀ (xs ys:List AV) (B:Aq) (L:Av) (o2:Own),xs.length=n→ys.length=m→(∀ y∈xs,y.cells.length=sz) →
    BP P ⟨B,rows,L⟩ t (.list xs o) (.list ys o2)=((∀ y∈ys,y.cells.length=sz∧A3 y=true),.list (xs++ys.map AV.pub) o',⟨B,rows',L⟩):=by
 have b:∀ (ys:List AV),ys.length=m→C5 P el sz by8 n ys=(∀ y∈ys,y.cells.length=sz∧A3 y=true):=by
  intro ys f
  simp only [C5,hs,hz,f,hb,hb2,true_and]
 rcases h.each _ (List.mem_cons_self ..) with q | ⟨id,q1,q2,q3⟩
 ·simp only at q;subst q
  have e:=h.sub (List.sublist_cons_self _ _)
  by_cases hm:m=0
  ·subst hm
   refine ⟨.full,rows,e.full _ _,fun xs ys B L o2 c a d=>?_⟩
   have:ys=[]:=List.length_eq_zero_iff.1 a
   subst this
   simp [BP,he,A0,BD,hs]
  ·refine ⟨.row rows.length,rows++[.grow (n+m) sz],e.make _ _,fun xs ys B L o2 c a d=>?_⟩
   simp only [BP,he,A0,BD]
   rw [Aa,c,b ys a,a]
   simp only [true_and,Prod.mk.injEq,eq_iff_iff,and_true]
   exact ⟨fun q=>q.1,fun q=>⟨q,d⟩⟩
 ·simp only at q1;subst q1
  refine ⟨.row id,_,h.more (n+m),fun xs ys B L o2 c a d=>?_⟩
  simp only [BP,he,A0,BD]
  rw [c,b ys a,a]
  simp only [true_and,Prod.mk.injEq,eq_iff_iff,and_true]
  exact ⟨fun q=>q.1,fun q=>⟨q,d,q3⟩⟩
theorem Vb {α:Type} {xs:List α} {i:Nat} {x:α} (h:xs[i]? = some x):xs.drop i=x::xs.drop (i+1):=by
 obtain ⟨a,rfl⟩:=Ak.1 h
 exact List.drop_eq_getElem_cons a
theorem UO {M1:Mem} {B bs bs' XB:List (List AV)} {Rw rows rows':List RowA} {L XL lp:List LoopA} {la:LoopA} {l l':List (Nat × Nat × Own)} {oh:Own} (hra:RoundAt M1 ((St.push ⟨B++bs,rows,L⟩ la).ext ⟨XB,[],XL⟩)) (ho:Owns Rw rows l oh) (ho':Owns Rw rows' l' oh) (hlen:bs'.length=bs.length) (hr:rows.length≤rows'.length)
  (hlp:lp=(L++[la])++XL) (hbs:∀ cs∈bs',∀ x∈cs,Under (B.length+bs.length+XB.length) rows'.length lp.length x):Calm ((B++bs).length+XB.length) rows'.length lp.length ⟨(B++bs')++XB,rows',lp⟩:=by
 subst hlp
 have b:=hra.calm
 simp only [St.ext,St.push,List.append_nil] at b
 have e:((B++bs)++XB).length=(B++bs).length+XB.length:=List.length_append
 rw [e] at b
 refine ⟨fun r h x hx=>?_,fun cs h x hx=>?_,fun a g k x hx n=>Bn (Nat.le_refl _) hr (Nat.le_refl _) (b.loops a g k x hx n)⟩
 ·obtain ⟨i,m,rfl⟩:=List.mem_iff_getElem.1 h
  have f:rows'[i]? = some rows'[i]:=List.getElem?_eq_getElem m
  by_cases q:Rw.length≤i∨oh = .row i
  ·rw [ho'.calm i _ f q (Zat i)] at hx;cases hx
  ·have c:i<Rw.length:=by omega
   have d:=ho'.keep i c (fun e=>q (.inr e))
   have j:=ho.keep i c (fun e=>q (.inr e))
   rw [f,←j] at d
   exact Bn (Nat.le_refl _) hr (Nat.le_refl _) (b.rows _ (List.mem_of_getElem? d.symm) x hx)
 ·rcases List.mem_append.1 h with h | h
  ·rcases List.mem_append.1 h with h | h
   ·exact Bn (Nat.le_refl _) hr (Nat.le_refl _) (b.boxes cs (by simp [h]) x hx)
   ·have:=hbs cs h x hx
    rwa [List.length_append]
  ·exact Bn (Nat.le_refl _) hr (Nat.le_refl _) (b.boxes cs (by simp [h]) x hx)
section
variable {P:Program} {w0:World} {n:Nat} {e:Env} {st:St} {M0:Mem} {W0:World} {ro:Option Nat} {Q:AQ} {c:Code}
theorem X1 (k:Nat) {a:AV} (hk:look e k=some (true,a)) (h:Eb P w0 n M0 W0 ro c Q ((k,true,a.pub)::e) st):Eb P w0 n M0 W0 ro c Q e st :=
 I8 _ _ (fun M _ w b=>⟨M,.refl _ _ _,b.relabel k _ (by
  have:=b.env k _ hk
  simp only [entryOk,if_true] at this
  exact this.pub)⟩) h
theorem OW (l i:Nat) {cs:List AV} {x:AV} (hl:st.boxes[l]? = some cs) (hi:cs[i]? = some x) (h1:x.one=true) (h:Eb P w0 n M0 W0 ro c Q e { st with boxes:=st.boxes.set l (cs.set i x.pubCell) }):Eb P w0 n M0 W0 ro c Q e st :=
 I8 _ _ (fun M _ w a=>⟨M,.refl _ _ _,a.st.setBox hl hi (by rw [AV.one_pubCell];exact h1) (fun v hv=>hv.pubCell),a.size,a.env⟩) h
theorem RelSt.pubBox {M:Mem} {w:World} (h:RelSt w0 M st w) {l:Nat} {cs:List AV} (hl:st.boxes[l]? = some cs):RelSt w0 M { st with boxes:=st.boxes.set l (cs.map AV.pubCell) } w:=by
 have b:l<st.boxes.length:=(Ak.1 hl).1
 refine ⟨h.below,by simp [h.N],h.NR,h.top,h.inj,fun a cs' hl'=>?_,h.row,h.rowinj,h.loop⟩
 by_cases q:a=l
 ·subst q
  rw [List.getElem?_set_self b] at hl'
  cases hl'
  obtain ⟨a1,a2,c,g,a3,a4,a5,a6⟩:=h.box a cs hl
  refine ⟨a1,a2,c,g,a3,by simp [a4],fun z f=>?_,fun j d i=>?_⟩
  ·obtain ⟨y,e,rfl⟩:=List.mem_map.1 f
   rw [AV.one_pubCell];exact a5 y e
  ·simp only [List.getElem_map]
   exact (a6 j d (by simpa using i)).pubCell
 ·rw [List.getElem?_set_ne (Ne.symm q)] at hl'
  exact h.box a cs' hl'
theorem Gz (l:Nat) {cs cs':List AV} (hl:st.boxes[l]? = some cs) (he:cs.map AV.pubCell=cs') (h:Eb P w0 n M0 W0 ro c Q e { st with boxes:=st.boxes.set l cs' }):Eb P w0 n M0 W0 ro c Q e st:=by
 subst he
 exact I8 _ _ (fun M _ w a=>⟨M,.refl _ _ _,a.st.pubBox hl,a.size,a.env⟩) h
theorem YT {a:AV} {xs:List AV} (h:a.pub = .list xs .none):∃ o,a = .list xs o:=by
 cases a<;>simp only [AV.pub,reduceCtorEq] at h
 ·cases h;exact ⟨_,rfl⟩
theorem HE (l i:Nat) {cs:List AV} {a:AV} {xs:List AV} (hl:st.boxes[l]? = some cs) (hi:cs[i]? = some a) (ha:a.pub = .list xs .none) (h:Eb P w0 n M0 W0 ro c Q e { st with boxes:=st.boxes.set l (cs.set i (.list xs .none)) }):Eb P w0 n M0 W0 ro c Q e st:=by
 obtain ⟨o,rfl⟩:=YT ha
 exact OW l i hl hi rfl h
theorem Cf {nb nr nl:Nat} {f:FuncId} {cs:List AV} (h:Under nb nr nl (.clo f cs)):∀ nb' nr' nl',nb≤nb'→nr≤nr'→nl≤nl'→∀ x∈cs,Under nb' nr' nl' x :=
 fun _ _ _ b c d x a=>Bn b c d (RQ.1 h x a)
theorem Su {B0 B bs X:List (List AV)} {Rw rows:List RowA} {L l':List LoopA} {l:List (Nat × Nat × Own)} {oh:Own} {v:List VE} (hN:M0.N=B0.length) (hNR:M0.NR=Rw.length) (hNL:M0.NL=L.length) (hB:B.length=B0.length) (hc:Calm B0.length Rw.length L.length ⟨B,Rw,L⟩) (ho:Owns Rw rows l oh v)
  (hbs:∀ cs∈bs,∀ x∈cs,Under (B0.length+bs.length) rows.length L.length x) (he:Jn (B0.length+bs.length) rows.length L.length e)
  (h:Eb P w0 n M0 W0 ro c Q e ⟨B++bs,rows,L⟩) (hv:∀ x∈v,∀ y∈x.2.2,Under (B0.length+bs.length) rows.length L.length y:=by intro x hx;cases hx):Eb P w0 n M0 W0 ro c Q e ⟨B++(bs++X),rows,L++l'⟩:=by
 rw [←hB] at hN hc hbs he hv
 clear hB B0
 have i:=ho.len
 have b:St.cut ⟨B++(bs++X),rows,L++l'⟩ (B.length+bs.length) rows.length L.length=⟨B++bs,rows,L⟩:=by
  simp only [St.cut,List.take_length,←List.append_assoc]
  rw [List.take_left' (by simp),List.take_left' rfl]
 refine Up (B.length+bs.length) rows.length L.length (by simp) (Nat.le_refl _) (by simp) (by omega) (by omega) (by omega) ?_ he (by rw [b];exact h)
 rw [b]
 refine ⟨fun r d x hx=>?_,fun cs hcs x hx=>?_,fun f a k x hx g=>?_⟩
 ·exact ho.rowsCalm (by omega) hc.rows hv r d x hx
 ·rcases List.mem_append.1 hcs with hcs | hcs
  ·exact Bn (by omega) (by omega) (Nat.le_refl _) (hc.boxes cs hcs x hx)
  ·exact hbs cs hcs x hx
 ·exact Bn (by omega) (by omega) (Nat.le_refl _) (hc.loops f a k x hx g)
theorem A8 {B0 B bs X:List (List AV)} {Rw rows:List RowA} {L:List LoopA} {l:List (Nat × Nat × Own)} {oh:Own} {v:List VE} (hN:M0.N=B0.length) (hNR:M0.NR=Rw.length) (hNL:M0.NL=L.length) (hB:B.length=B0.length) (hc:Calm B0.length Rw.length L.length ⟨B,Rw,L⟩) (ho:Owns Rw rows l oh v)
  (hbs:∀ cs∈bs,∀ x∈cs,Under (B0.length+bs.length) rows.length L.length x) (he:Jn (B0.length+bs.length) rows.length L.length e)
  (h:Eb P w0 n M0 W0 ro c Q e ⟨B++bs,rows,L⟩) (hv:∀ x∈v,∀ y∈x.2.2,Under (B0.length+bs.length) rows.length L.length y:=by intro x hx;cases hx):Eb P w0 n M0 W0 ro c Q e ⟨B++(bs++X),rows,L⟩:=by
 rw [←hB] at hN hc hbs he hv
 clear hB B0
 have i:=ho.len
 have b:St.cut ⟨B++(bs++X),rows,L⟩ (B.length+bs.length) rows.length L.length=⟨B++bs,rows,L⟩:=by
  simp only [St.cut,List.take_length,←List.append_assoc]
  rw [List.take_left' (by simp)]
 refine Up (B.length+bs.length) rows.length L.length (by simp) (Nat.le_refl _) (Nat.le_refl _) (by omega) (by omega) (by omega) ?_ he (by rw [b];exact h)
 rw [b]
 refine ⟨fun r d x hx=>?_,fun cs hcs x hx=>?_,fun f a k x hx g=>?_⟩
 ·exact ho.rowsCalm (by omega) hc.rows hv r d x hx
 ·rcases List.mem_append.1 hcs with hcs | hcs
  ·exact Bn (by omega) (by omega) (Nat.le_refl _) (hc.boxes cs hcs x hx)
  ·exact hbs cs hcs x hx
 ·exact Bn (by omega) (by omega) (Nat.le_refl _) (hc.loops f a k x hx g)
end
theorem Zfe {B0 B bs:List (List AV)} {Rw rows:List RowA} {L:List LoopA} {l:List (Nat × Nat × Own)} {oh:Own} {v:List VE} (hB:B.length=B0.length) (hc:Calm B0.length Rw.length L.length ⟨B,Rw,L⟩) (ho:Owns Rw rows l oh v)
  (hbs:∀ cs∈bs,∀ x∈cs,Under (B0.length+bs.length) rows.length L.length x) (hv:∀ x∈v,∀ y∈x.2.2,Under (B0.length+bs.length) rows.length L.length y:=by intro x hx;cases hx):Calm (B0.length+bs.length) rows.length L.length ⟨B++bs,rows,L⟩:=by
 have e:=ho.len
 refine ⟨fun r b x hx=>?_,fun cs hcs x hx=>?_,fun c a k x hx d=>?_⟩
 ·exact ho.rowsCalm (by omega) hc.rows hv r b x hx
 ·rcases List.mem_append.1 hcs with hcs | hcs
  ·exact Bn (by omega) (by omega) (Nat.le_refl _) (hc.boxes cs hcs x hx)
  ·exact hbs cs hcs x hx
 ·exact Bn (by omega) (by omega) (Nat.le_refl _) (hc.loops c a k x hx d)
section
variable {P:Program} {w0:World} {st:St}
theorem Zg1 {c d:Bool} {f:FuncId} {cs args args':List AV} {k:AV→St→Prop} (v:AV)
  (h:ACalls P w0 f args' st fun r s=>r=v∧s=st) (he:args++cs=args') (hk:k v st):La P w0 c d (.clo f cs) args st k := .inl ⟨v,fun _=>by
 show ACalls P w0 f (args++cs) st _
 rw [he];exact h,hk⟩
theorem He {d:Bool} {fv:AV} {args:List AV} {k:AV→St→Prop} (h:k .junk st):La P w0 false d fv args st k := .inl ⟨.junk,fun q=>(nomatch q),h⟩
theorem FD {B B' X:List (List AV)} {Rw rows:List RowA} {L:List LoopA} {Post:AV→St→Prop} {v:AV} (hc:Calm B.length Rw.length L.length ⟨B',Rw,L⟩) (hB:B'.length=B.length) (h2:Rw <+: rows) (hu:Under B.length Rw.length L.length v.pubA) (hp:Post v.pubA ⟨B',Rw,L⟩) :
  Go.Ev.finP ⟨B,Rw,L⟩ Post v ⟨B'++X,rows,L⟩:=by
 obtain ⟨r,rfl⟩:=h2
 have e:St.cut ⟨B'++X,Rw++r,L⟩ B.length Rw.length L.length=⟨B',Rw,L⟩:=by simp [St.cut,←hB]
 exact ⟨by simp [hB],by simp,by simp,by simp only [e];exact hc,hu,by simp only [e];exact hp⟩
end
theorem Dy {B B':List (List AV)} {Rw rows:List RowA} {L:List LoopA} {Post:AV→St→Prop} {v:AV} (hc:Calm B.length Rw.length L.length ⟨B',Rw,L⟩) (hB:B'.length=B.length) (h2:Rw <+: rows) (hu:Under B.length Rw.length L.length v.pubA) (hp:Post v.pubA ⟨B',Rw,L⟩) :
  Go.Ev.finP ⟨B,Rw,L⟩ Post v ⟨B',rows,L⟩:=by
 have:=FD (X:=[]) hc hB h2 hu hp
 rwa [List.append_nil] at this
theorem C6 {nb nr nl:Nat} {B:List (List AV)} {Rw:List RowA} {L:List LoopA} {l:Nat} {cs:List AV} (h:Calm nb nr nl ⟨B,Rw,L⟩) (hc:∀ x∈cs,Under nb nr nl x):Calm nb nr nl ⟨B.set l cs,Rw,L⟩ :=
 ⟨h.rows,fun b hd x a=>by
  rcases List.mem_or_eq_of_mem_set hd with hd | rfl
  ·exact h.boxes b hd x a
  ·exact hc x a,h.loops⟩
theorem ZiI {B B' X:List (List AV)} {Rw rows:List RowA} {L l:List LoopA} {Post:AV→St→Prop} {v:AV} (hc:Calm B.length Rw.length L.length ⟨B',Rw,L⟩) (hB:B'.length=B.length) (h2:Rw <+: rows) (hu:Under B.length Rw.length L.length v.pubA) (hp:Post v.pubA ⟨B',Rw,L⟩) :
  Go.Ev.finP ⟨B,Rw,L⟩ Post v ⟨B'++X,rows,L++l⟩:=by
 obtain ⟨r,rfl⟩:=h2
 have e:St.cut ⟨B'++X,Rw++r,L++l⟩ B.length Rw.length L.length=⟨B',Rw,L⟩:=by simp [St.cut,←hB]
 exact ⟨by simp [hB],by simp,by simp,by simp only [e];exact hc,hu,by simp only [e];exact hp⟩
theorem As {B:List (List AV)} {l:Nat} {cs:List AV} (h:B[l]? = some cs) :
  (∀ X R L o,DW ⟨B++X,R,L⟩ (.box l o)=true)∧(∀ R L o,DW ⟨B,R,L⟩ (.box l o)=true)∧(∀ X R L o,Bi ⟨B++X,R,L⟩ (.box l o)=cs)∧(∀ R L o,Bi ⟨B,R,L⟩ (.box l o)=cs) ∧
  (∀ X,(B++X)[l]? = some cs)∧B[l]? = some cs∧(∀ X,(B++X).getD l []=cs)∧B.getD l []=cs∧(∀ X c,(B++X).set l c=B.set l c++X) ∧
  (∀ X R L o c,DW ⟨B.set l c++X,R,L⟩ (.box l o)=true)∧(∀ R L o c,DW ⟨B.set l c,R,L⟩ (.box l o)=true)∧(∀ X R L o c,Bi ⟨B.set l c++X,R,L⟩ (.box l o)=c)∧(∀ R L o c,Bi ⟨B.set l c,R,L⟩ (.box l o)=c) ∧
  (∀ X c,(B.set l c++X)[l]? = some c)∧(∀ c,(B.set l c)[l]? = some c)∧(∀ X c,(B.set l c++X).getD l []=c)∧(∀ c,(B.set l c).getD l []=c)∧(∀ X c d,(B.set l c++X).set l d=B.set l d++X)∧(∀ c d,(B.set l c).set l d=B.set l d)∧B.set l cs=B:=by
 have a:=(Ak.1 h).1
 have e:∀ X,(B++X)[l]? = some cs:=fun X=>by rw [List.getElem?_append_left a];exact h
 have b:∀ X c,(B.set l c++X)[l]? = some c:=fun X c=>by rw [List.getElem?_append_left (by simpa using a)];simp [a]
 have f:∀ c,(B.set l c)[l]? = some c:=fun c=>by simp [a]
 refine ⟨?_,?_,?_,?_,e,h,?_,?_,?_,?_,?_,?_,?_,b,f,?_,?_,?_,?_,?_⟩
 ·intro X R L o;simp [DW];omega
 ·intro R L o;simp [DW,a]
 ·intro X R L o;simp only [Bi,List.getD_eq_getElem?_getD,e,Option.getD_some]
 ·intro R L o;simp only [Bi,List.getD_eq_getElem?_getD,h,Option.getD_some]
 ·intro X;rw [List.getD_eq_getElem?_getD,e];rfl
 ·rw [List.getD_eq_getElem?_getD,h];rfl
 ·intro X c;exact List.set_append_left _ _ a
 ·intro X R L o c;simp [DW];omega
 ·intro R L o c;simp [DW,a]
 ·intro X R L o c;simp only [Bi,List.getD_eq_getElem?_getD,b,Option.getD_some]
 ·intro R L o c;simp only [Bi,List.getD_eq_getElem?_getD,f,Option.getD_some]
 ·intro X c;rw [List.getD_eq_getElem?_getD,b];rfl
 ·intro c;rw [List.getD_eq_getElem?_getD,f];rfl
 ·intro X c d;rw [List.set_append_left _ _ (by simpa using a),List.set_set]
 ·intro c d;exact List.set_set ..
 ·obtain ⟨g,rfl⟩:=Ak.1 h;exact List.set_getElem_self _
@[go_sem] theorem ZjH (B X:Aq) (R:Aw) (L:Av) (i k o:Nat) (c:List AV):DW ⟨B.set i c++X,R,L⟩ (.box (B.length+k) o)=decide (k<X.length):=by simp [DW]
@[go_sem] theorem ZiW (B X:Aq) (R:Aw) (L:Av) (i o:Nat) (c:List AV):DW ⟨B.set i c++X,R,L⟩ (.box B.length o)=decide (0<X.length):=by simp [DW]
@[go_sem] theorem WT (B X:Aq) (i k:Nat) (c:List AV):(B.set i c++X).getD (B.length+k) []=X.getD k []:=by
 have:=ZaH (B.set i c) X k
 rwa [List.length_set] at this
@[go_sem] theorem UJ (B X:Aq) (i:Nat) (c:List AV):(B.set i c++X).getD B.length []=X.getD 0 []:=by
 have:=Xg (B.set i c) X
 rwa [List.length_set] at this
@[go_sem] theorem Zhk (B X:Aq) (R:Aw) (L:Av) (i k o:Nat) (c:List AV):Bi ⟨B.set i c++X,R,L⟩ (.box (B.length+k) o)=X.getD k []:=WT B X i k c
@[go_sem] theorem Zgq (B X:Aq) (R:Aw) (L:Av) (i o:Nat) (c:List AV):Bi ⟨B.set i c++X,R,L⟩ (.box B.length o)=X.getD 0 []:=UJ B X i c
@[go_sem] theorem ZfB (B X:Aq) (i k:Nat) (c x:List AV):(B.set i c++X).set (B.length+k) x=B.set i c++X.set k x:=by
 have:=ZhA (B.set i c) X k x
 rwa [List.length_set] at this
@[go_sem] theorem Zdd (B X:Aq) (i:Nat) (c x:List AV):(B.set i c++X).set B.length x=B.set i c++X.set 0 x:=by
 have:=ZdZ (B.set i c) X x
 rwa [List.length_set] at this
@[go_sem] theorem Eu (B X:Aq) (i k:Nat) (c:List AV):(B.set i c++X)[B.length+k]? = X[k]? := by
 rw [List.getElem?_append_right (by simp),List.length_set,Nat.add_sub_cancel_left]
@[go_sem] theorem C7 (B X:Aq) (i:Nat) (c:List AV):(B.set i c++X)[B.length]? = X[0]? := by
 rw [List.getElem?_append_right (by simp),List.length_set,Nat.sub_self]
attribute [go_sem] List.length_set
theorem D7 {α:Type} {B B':List α} {l:Nat} {c:α} (h:B <+: B') (hl:B[l]? = some c):B'[l]? = some c:=by
 obtain ⟨t,rfl⟩:=h
 rw [List.getElem?_append_left (Ak.1 hl).1];exact hl
theorem Ob {α:Type} {f:α→List AV} (sz:Nat) (hf:∀ x,(f x).length=sz):∀ {xs:List α} {i:Nat} {x:α},xs[i]? = some x→((xs.flatMap f).drop (i*sz)).take sz=f x
 | [],i,x,h=>by simp at h
 | y::ys,0,x,h=>by
  simp only [List.getElem?_cons_zero,Option.some.injEq] at h
  subst h
  simp [List.flatMap_cons,←hf y]
 | y::ys,i+1,x,h=>by
  simp only [List.getElem?_cons_succ] at h
  rw [List.flatMap_cons,Nat.succ_mul,Nat.add_comm,List.drop_append,hf y,Nat.add_sub_cancel_left,List.drop_eq_nil_of_le (by rw [hf y];omega),List.nil_append]
  exact Ob sz hf h
@[go_sem] theorem Zjf (l:List AV):CN l 0 []=l:=by simp [CN]
@[go_sem] theorem Zh4 (a x:AV) (l xs:List AV):CN (a::l) 0 (x::xs)=x::CN l 0 xs:=by simp [CN]
@[go_sem] theorem Ziu (a:AV) (l xs:List AV) (n:Nat):CN (a::l) (n+1) xs=a::CN l n xs:=by simp [CN,Nat.succ_add]
@[go_sem] theorem E3 (B l:Aq) (k:Nat):(B++l)[B.length+k]? = l[k]? := by rw [List.getElem?_append_right (by omega),Nat.add_sub_cancel_left]
@[go_sem] theorem Dx (B l:Aq):(B++l)[B.length]? = l[0]? := by rw [List.getElem?_append_right (by omega),Nat.sub_self]
theorem Owns.enter {Rw rows:List RowA} {l:List (Nat × Nat × Own)} {ho o:Own} {v:List VE} {sz n:Nat} (h:Owns Rw rows ((sz,n,o)::l) ho v):Owns rows rows [(sz,n,o)] o:=by
 have a:=h.each _ (List.mem_cons_self ..)
 refine ⟨Nat.le_refl _,fun _ _ _=>rfl,fun i r b q _=>?_,fun x c=>?_,by simp,by simp,.nil⟩
 ·rcases q with q | q
  ·have:=(Ak.1 b).1;omega
  ·rcases a with w | ⟨id,w1,w2,w3⟩
   ·simp only at w;rw [q] at w;cases w
   ·simp only at w1 w3;rw [q] at w1;cases w1
    rw [b] at w3;rw [Option.some.inj w3];rfl
 ·rw [List.mem_singleton.1 c]
  rcases a with w | ⟨id,w1,w2,w3⟩
  ·exact .inl w
  ·exact .inr ⟨id,w1,.inr w1,w3⟩
theorem N6 {nb nr nr' nl:Nat} {st:St} (h:Calm nb nr nl st) (hr:nr≤nr'):Calm nb nr' nl st :=
 ⟨fun r a x b=>Bn (Nat.le_refl _) hr (Nat.le_refl _) (h.rows r a x b),fun cs a x b=>Bn (Nat.le_refl _) hr (Nat.le_refl _) (h.boxes cs a x b),fun d a k x b c=>Bn (Nat.le_refl _) hr (Nat.le_refl _) (h.loops d a k x b c)⟩
section
variable {P:Program} {w0:World} {f:FuncId} {st:St}
def finG (st:St) (Post:AV→St→Prop) (r:AV) (s:St):Prop :=
 st.boxes.length≤s.boxes.length∧st.rows.length≤s.rows.length∧st.loops.length≤s.loops.length∧Calm st.boxes.length s.rows.length st.loops.length (s.cut st.boxes.length s.rows.length st.loops.length) ∧
  Under st.boxes.length s.rows.length st.loops.length r.pubA∧Post r.pubA (s.cut st.boxes.length s.rows.length st.loops.length)
theorem ACalls.finG {args:List AV} {Post:AV→St→Prop} (h:ACalls P w0 f args st (finG st Post)):ACalls P w0 f args st Post:=by
 refine ⟨h.1,fun M w b a c=>(h.2 M w b a c).mono ?_⟩
 rintro en m ⟨v,M',r,d,g,⟨k,n,e,j,l,i⟩,h3,h4,h5⟩
 exact ⟨v,M'.cut st.boxes.length d.rows.length st.loops.length,r.pubA,_,g,i,h3.cut (by have:=a.N;omega) (by have:=a.NR;omega) (by have:=a.loop.NL;omega) (by rw [h4.loop.NL];exact e),h4.cut k (Nat.le_refl _) e j,h5.pubA.cut l⟩
theorem Zlu {B B' X:List (List AV)} {R0 rows:List RowA} {L l:List LoopA} {Post:AV→St→Prop} {v:AV} {ow:List (Nat × Nat × Own)} {oh:Own} {ve:List VE} (ho:Owns R0 rows ow oh ve) (hc:Calm B.length rows.length L.length ⟨B',R0,L⟩) (hB:B'.length=B.length) (hu:Under B.length rows.length L.length v.pubA) (hp:Post v.pubA ⟨B',rows,L⟩) (hv:∀ x∈ve,∀ y∈x.2.2,Under B.length rows.length L.length y:=by intro x hx;cases hx) :
  Go.Ev.finG ⟨B,R0,L⟩ Post v ⟨B'++X,rows,L++l⟩:=by
 have e:St.cut ⟨B'++X,rows,L++l⟩ B.length rows.length L.length=⟨B',rows,L⟩:=by simp [St.cut,←hB]
 refine ⟨by simp [hB],ho.len,by simp,?_,hu,by simp only [e];exact hp⟩
 simp only [e]
 refine ⟨fun r d x hx=>?_,hc.boxes,hc.loops⟩
 obtain ⟨i,f,rfl⟩:=List.mem_iff_getElem.1 d
 have b:rows[i]? = some rows[i]:=List.getElem?_eq_getElem f
 by_cases qv:X8 ve i
 case neg =>
  obtain ⟨y,c,e,_⟩:=ho.inV b qv
  rw [e] at hx
  exact hv y c x hx
 by_cases q:R0.length≤i∨oh = .row i
 ·rw [ho.calm i _ b q qv] at hx;cases hx
 ·have a:i<R0.length:=by omega
  have:=ho.keep i a (fun e=>q (.inr e))
  rw [b,List.getElem?_eq_getElem a] at this
  rw [Option.some.inj this] at hx
  exact hc.rows _ (List.getElem_mem a) x hx
end
theorem Zbh {B B' X:List (List AV)} {R0 rows:List RowA} {L:List LoopA} {Post:AV→St→Prop} {v:AV} {ow:List (Nat × Nat × Own)} {oh:Own} {ve:List VE} (ho:Owns R0 rows ow oh ve) (hc:Calm B.length rows.length L.length ⟨B',R0,L⟩) (hB:B'.length=B.length) (hu:Under B.length rows.length L.length v.pubA) (hp:Post v.pubA ⟨B',rows,L⟩) (hv:∀ x∈ve,∀ y∈x.2.2,Under B.length rows.length L.length y:=by intro x hx;cases hx) :
  Go.Ev.finG ⟨B,R0,L⟩ Post v ⟨B'++X,rows,L⟩:=by
 have:=Zlu (X:=X) (l:=[]) ho hc hB hu hp hv
 rwa [List.append_nil] at this
section
variable {P:Program} {w0:World} {n:Nat} {e:Env} {st:St} {M0:Mem} {W0:World} {ro:Option Nat} {Q:AQ} {c:Code}
theorem PP {B0 B bs X:List (List AV)} {Rw rows:List RowA} {L:List LoopA} {l:List (Nat × Nat × Own)} {oh:Own} {v:List VE} (hN:M0.N=B0.length) (hNR:M0.NR=Rw.length) (hNL:M0.NL=L.length) (hB:B.length=B0.length) (hc:Calm B0.length rows.length L.length ⟨B,Rw,L⟩) (ho:Owns Rw rows l oh v)
  (hbs:∀ cs∈bs,∀ x∈cs,Under (B0.length+bs.length) rows.length L.length x) (he:Jn (B0.length+bs.length) rows.length L.length e)
  (h:Eb P w0 n M0 W0 ro c Q e ⟨B++bs,rows,L⟩) (hv:∀ x∈v,∀ y∈x.2.2,Under (B0.length+bs.length) rows.length L.length y:=by intro x hx;cases hx):Eb P w0 n M0 W0 ro c Q e ⟨B++(bs++X),rows,L⟩:=by
 rw [←hB] at hN hc hbs he hv
 clear hB B0
 have s:=ho.len
 have f:St.cut ⟨B++(bs++X),rows,L⟩ (B.length+bs.length) rows.length L.length=⟨B++bs,rows,L⟩:=by
  simp only [St.cut,List.take_length,←List.append_assoc]
  rw [List.take_left' (by simp)]
 refine Up (B.length+bs.length) rows.length L.length (by simp) (Nat.le_refl _) (Nat.le_refl _) (by omega) (by omega) (by omega) ?_ he (by rw [f];exact h)
 rw [f]
 refine ⟨fun r j x hx=>?_,fun cs hcs x hx=>?_,fun o d k x hx p=>?_⟩
 ·obtain ⟨i,m,rfl⟩:=List.mem_iff_getElem.1 j
  have b:rows[i]? = some rows[i]:=List.getElem?_eq_getElem m
  by_cases qv:X8 v i
  case neg =>
   obtain ⟨y,g,e,_⟩:=ho.inV b qv
   rw [e] at hx
   exact hv y g x hx
  by_cases q:Rw.length≤i∨oh = .row i
  ·rw [ho.calm i _ b q qv] at hx;cases hx
  ·have a:i<Rw.length:=by omega
   have:=ho.keep i a (fun e=>q (.inr e))
   rw [b,List.getElem?_eq_getElem a] at this
   rw [Option.some.inj this] at hx
   exact Bn (by omega) (Nat.le_refl _) (Nat.le_refl _) (hc.rows _ (List.getElem_mem a) x hx)
 ·rcases List.mem_append.1 hcs with hcs | hcs
  ·exact Bn (by omega) (Nat.le_refl _) (Nat.le_refl _) (hc.boxes cs hcs x hx)
  ·exact hbs cs hcs x hx
 ·exact Bn (by omega) (Nat.le_refl _) (Nat.le_refl _) (hc.loops o d k x hx p)
end
def U3 (acc:List Nat) (o:Oper):Nat:=o.after.toList.foldl (fun m e=>if Region.binds .any e then m ||| 2 ^ e.on ||| acc.getD e.on 0 else m) 0
def H8:List Oper→List Nat→List Nat
 | [],acc=>acc
 | o::os,acc=>H8 os (acc++[U3 acc o])
def OL (ms:List Nat) (i j:Nat):Bool:=(ms.getD i 0).testBit j
theorem ZaE (acc:List Nat) (j:Nat):∀ (es:List Edge) (m:Nat),(es.foldl (fun m e=>if Region.binds .any e then m ||| 2 ^ e.on ||| acc.getD e.on 0 else m) m).testBit j=true→m.testBit j=true∨∃ e∈es,Region.binds .any e=true∧(e.on=j∨OL acc e.on j=true)
 | [],m,h => .inl h
 | e::es,m,h=>by
  simp only [List.foldl_cons] at h
  rcases ZaE acc j es _ h with h | ⟨e',h1,h2⟩
  ·by_cases c:Region.binds .any e=true
   ·rw [Ai c] at h
    simp only [Nat.testBit_or,Bool.or_eq_true,Nat.testBit_two_pow,decide_eq_true_eq] at h
    rcases h with (h | h) | h
    ·exact .inl h
    ·exact .inr ⟨e,List.mem_cons_self .., c,.inl h⟩
    ·exact .inr ⟨e,List.mem_cons_self .., c,.inr h⟩
   ·rw [Aj c] at h;exact .inl h
  ·exact .inr ⟨e',List.mem_cons_of_mem _ h1,h2⟩
theorem Uz (acc acc':List Nat):∀ (es:List Edge) (m:Nat),(∀ e∈es,Region.binds .any e=true→acc.getD e.on 0=acc'.getD e.on 0) →
  es.foldl (fun m e=>if Region.binds .any e then m ||| 2 ^ e.on ||| acc.getD e.on 0 else m) m=es.foldl (fun m e=>if Region.binds .any e then m ||| 2 ^ e.on ||| acc'.getD e.on 0 else m) m
 | [],_,_=>rfl
 | e::es,m,h=>by
  simp only [List.foldl_cons]
  have:(if Region.binds .any e=true then m ||| 2 ^ e.on ||| acc.getD e.on 0 else m)=if Region.binds .any e=true then m ||| 2 ^ e.on ||| acc'.getD e.on 0 else m:=by
   by_cases c:Region.binds .any e=true
   ·rw [Ai c,Ai c,h e (List.mem_cons_self ..) c]
   ·rw [Aj c,Aj c]
  rw [this]
  exact Uz acc acc' es _ fun b a=>h b (List.mem_cons_of_mem _ a)
theorem RO:∀ (os:List Oper) (acc:List Nat) (i:Nat),i<acc.length→(H8 os acc).getD i 0=acc.getD i 0
 | [],_,_,_=>rfl
 | o::os,acc,i,h=>by
  rw [H8,RO os _ i (by simp;omega),List.getD_eq_getElem?_getD,List.getElem?_append_left h,List.getD_eq_getElem?_getD]
theorem ZA:∀ (os:List Oper) (acc:List Nat) (k:Nat) (o:Oper),os[k]? = some o→(∀ (k:Nat) (o:Oper),os[k]? = some o→∀ e∈o.after,Region.binds .any e=true→e.on<acc.length+k)→(H8 os acc).getD (acc.length+k) 0=U3 (H8 os acc) o
 | [],_,_,_,h,_=>by simp at h
 | o'::os,acc,0,o,h,hb=>by
  simp only [List.getElem?_cons_zero,Option.some.injEq] at h
  subst h
  rw [H8,RO os _ _ (by simp)]
  have c:(acc++[U3 acc o']).getD (acc.length+0) 0=U3 acc o':=by simp [List.getD_eq_getElem?_getD]
  rw [c]
  refine Uz _ _ _ _ fun e b a=>?_
  have:=hb 0 o' rfl e (by simpa using b) a
  rw [RO os _ _ (by simp;omega),List.getD_eq_getElem?_getD,List.getD_eq_getElem?_getD,List.getElem?_append_left (by omega)]
 | o'::os,acc,k+1,o,h,hb=>by
  rw [H8]
  have:=ZA os (acc++[U3 acc o']) k o (by simpa using h) (fun k o h e b a=>by
   have:=hb (k+1) o (by simpa using h) e b a
   simp;omega)
  rw [List.length_append,List.length_singleton,Nat.add_assoc,Nat.add_comm 1 k] at this
  exact this
def PH (ef:List Nat) (ms:List Nat) (i j:Nat):Bool :=
 if ef.contains i then ef.contains j||OL ms i j else if ef.contains j then OL ms j i else decide (j<i)&&OL ms i j
def Un (ef:List Nat) (ms:List Nat) (i j:Nat):Bool :=
 if ef.contains i then ef.contains j||OL ms i j else ef.contains j&&OL ms j i
def Ni (l:List Oper) (ef:List Nat):Bool:=(ef.all fun i=>decide (i<l.length)) &&
 (List.range l.length).all fun i=>match l[i]? with
  | some o=>(o.after.toList.all fun e => !Region.binds .any e||decide (e.on<i))&&(List.range l.length).all fun j=>match l[j]? with
   | some p=>match p.dst with
    | some s=>(decide (i=j)||o.dst != some s||Un ef (H8 l []) i j)&&(!(looks l o).contains s||PH ef (H8 l []) i j)
    | none=>true
   | none=>true
  | none=>true
theorem EZ {l:List Oper} {ef:List Nat} (hB:Ni l ef=true) {i:Nat} {o:Oper} (ho:l[i]? = some o) :
  (∀ e∈o.after,Region.binds .any e=true→e.on<i)∧∀ j p s,l[j]? = some p→p.dst=some s→(o.dst=some s→i=j∨Un ef (H8 l []) i j=true)∧(s∈looks l o→PH ef (H8 l []) i j=true):=by
 have a:=List.all_eq_true.1 (Bool.and_eq_true_iff.1 hB).2 i (List.mem_range.2 (Ak.1 ho).1)
 simp only [ho,Bool.and_eq_true] at a
 refine ⟨fun e f d=>?_,fun j p s c hs=>?_⟩
 ·have:=List.all_eq_true.1 a.1 e (by simpa using f)
  simpa [d] using this
 ·have b:=List.all_eq_true.1 a.2 j (List.mem_range.2 (Ak.1 c).1)
  simp only [c,hs,Bool.and_eq_true,Bool.or_eq_true,decide_eq_true_eq,bne_iff_ne,Bool.not_eq_true'] at b
  refine ⟨fun hd=>?_,fun g=>?_⟩
  ·rcases b.1 with (h | h) | h
   ·exact .inl h
   ·exact absurd hd h
   ·exact .inr h
  ·rcases b.2 with h3 | h3
   ·have:(looks l o).contains s=true:=by simpa using g
    rw [h3] at this;cases this
   ·exact h3
theorem VK {l:List Oper} {ef:List Nat} (hB:Ni l ef=true) {listed:Array Bool} (closed:∀ (j:Nat) (oj:Oper),l[j]? = some oj→listed.getD j false=true→∀ e∈oj.after,Region.binds .any e=true→listed.getD e.on false=true) (j:Nat) :
  ∀ (i:Nat) (o:Oper),l[i]? = some o→(∀ e∈o.after,Region.binds .any e=true→listed.getD e.on false=true)→OL (H8 l []) i j=true→listed.getD j false=true:=by
 intro i
 induction i using Nat.strongRecOn with
 | _ i ih =>
  intro o ho g a
  have f:=ZA l [] i o ho (fun k o h e c m=>by have:=(EZ hB h).1 e c m;simpa using this)
  simp only [List.length_nil,Nat.zero_add] at f
  unfold OL at a
  rw [f] at a
  rcases ZaE _ _ _ _ a with h | ⟨e,h1,h2,h3⟩
  ·simp at h
  ·have c:e∈o.after:=by simpa using h1
   have b:=g e c h2
   have d:=(EZ hB ho).1 e c h2
   rcases h3 with rfl | h3
   ·exact b
   ·have n:=(Ak.1 ho).1
    exact ih e.on d _ (List.getElem?_eq_getElem (by omega)) (closed e.on _ (List.getElem?_eq_getElem (by omega)) b) h3
def Eg (ef:List Nat):Nat→List Oper→List Oper
 | _,[]=>[]
 | i,o::os=>(if ef.contains i then { o with dst:=none,op := .move (.const (.bool true)),guard:=none } else o)::Eg ef (i+1) os
theorem SQ (ef:List Nat):∀ (l:List Oper) (k i:Nat),(Eg ef k l)[i]? = (l[i]?).map fun o=>if ef.contains (k+i) then { o with dst:=none,op := .move (.const (.bool true)),guard:=none } else o
 | [],_,_=>by simp [Eg]
 | o::os,k,0=>by simp [Eg]
 | o::os,k,i+1=>by simp only [Eg,List.getElem?_cons_succ];rw [SQ ef os (k+1) i,Nat.add_assoc,Nat.add_comm 1 i]
theorem I7 (ef:List Nat):∀ (l:List Oper) (k:Nat),(Eg ef k l).length=l.length
 | [],_=>rfl
 | o::os,k=>by simp [Eg,I7 ef os]
section
variable {P:Program} {w0:World} {n:Nat}
def F9 (P:Program) (w0:World) (ev:Env) (s:St) (o:Oper) (v:AV) (s':St):Prop :=
 match o.op with
 | .call ⟨.value f,args,_⟩=>AP ev true f∧(∀ x∈args.toList,AP ev true x)∧OH P w0 (AC ev f) (args.toList.map fun x=>argP ev (AC ev x)) s fun r t=>r=v∧t=s'
 | op=>(A4 P ev true s op).1∧(A4 P ev true s op).2.1=v∧(A4 P ev true s op).2.2=s'
theorem Yl {ev:Env} {s s':St} {o:Oper} {v:AV} (hc:¬ MF o.op=true):F9 P w0 ev s o v s'=((A4 P ev true s o.op).1∧(A4 P ev true s o.op).2.1=v∧(A4 P ev true s o.op).2.2=s'):=by
 obtain ⟨e,op,c,d,a,b⟩:=o
 cases op with
 | call cc =>
  obtain ⟨callee,args,g⟩:=cc
  cases callee with
  | value f=>exact absurd rfl hc
  | _=>rfl
 | _=>rfl
def Xj (P:Program) (w0:World) (ev:Env) (s:St) (o:Oper) (Post:AV→St→Prop):Prop :=
 (MF o.op=true∧match o.op with
  | .call ⟨.value f,args,_⟩=>AP ev true f∧(∀ x∈args.toList,AP ev true x)∧OH P w0 (AC ev f) (args.toList.map fun x=>argP ev (AC ev x)) s Post
  | _=>False)∨∃ v s',F9 P w0 ev s o v s'∧∀ r t,r=v∧t=s'→Post r t
theorem Y4 {M:Mem} {ev:Env} {s s':St} {a:Act} {w:World} (h:Rel w0 n M ev s a w) (ro:Option Nat) (m:Nat) {o:Oper} {v:AV} (hv:F9 P w0 ev s o v s')
  (Q:Exit→Act→World→Prop) (K:Act→World→Prop) (hK:∀ u w' M',Ext w0 M w M' w'→RelSt w0 M' s' w'→R w0 M' w' u v→K (a.put o.dst u) w'):o.wpIn (FW ro) m P a w K Q:=by
 by_cases hc:MF o.op=true
 ·obtain ⟨dst,op,l,p,e,j⟩:=o
  cases op<;>try cases hc
  rename_i cc
  obtain ⟨callee,args,x⟩:=cc
  cases callee<;>try cases hc
  rename_i f
  obtain ⟨i,k,d⟩:=hv
  refine LJ h ro m i k d Q _ (fun r t q u w' M' g b c=>?_)
  obtain ⟨rfl,rfl⟩:=q
  exact hK u w' M' g b c
 ·rw [Yl hc] at hv
  obtain ⟨i,k,d⟩:=hv
  refine SX h ro m o i Q _ (fun u w' M' g b c=>?_)
  rw [d] at b
  rw [k] at c
  exact hK u w' M' g b c
theorem Zaa {M:Mem} {ev:Env} {s:St} {a:Act} {w:World} (h:Rel w0 n M ev s a w) (ro:Option Nat) (m:Nat) {o:Oper} {Post:AV→St→Prop} (hv:Xj P w0 ev s o Post)
  (Q:Exit→Act→World→Prop) (K:Act→World→Prop) (hK:∀ v s' u w' M',Post v s'→Ext w0 M w M' w'→RelSt w0 M' s' w'→R w0 M' w' u v→K (a.put o.dst u) w'):o.wpIn (FW ro) m P a w K Q:=by
 rcases hv with ⟨hc,hv⟩ | ⟨v,s',hv,g⟩
 ·obtain ⟨dst,op,j,l,c,i⟩:=o
  cases op<;>try cases hc
  rename_i cc
  obtain ⟨callee,args,x⟩:=cc
  cases callee<;>try cases hc
  rename_i f
  obtain ⟨p,q,k⟩:=hv
  exact LJ h ro m p q k Q _ (fun r t g u w' M' d b e=>hK r t u w' M' g d b e)
 ·exact Y4 h ro m hv Q K fun u w' M' d b e=>hK v s' u w' M' (g _ _ ⟨rfl,rfl⟩) d b e
def Good (P:Program) (w0:World) (n:Nat) (l:List Oper) (ef:List Nat) (F:St→Prop) (T:Env→St→Prop):Nat→List Nat→Env→St→Prop
 | 0,_,_,_=>False
 | k+1,dn,ev,s=>F s∧((ef.all fun i=>dn.contains i)=true→T ev s)∧∀ i∈ef,dn.contains i=false→(ef.all fun j => !OL (H8 l []) i j||dn.contains j)=true →
   ∃ o,l[i]? = some o∧o.guard=none∧KZ n o.dst∧∃ Post:AV→St→Prop,Xj P w0 (B9 true l o ev) s o Post∧∀ v s',Post v s'→Good P w0 n l ef F T k (i::dn) (Lu ev o.dst true v) s'
structure AInv (w0:World) (n:Nat) (l:List Oper) (ef:List Nat) (s0:St) (e e1:Env) (M1:Mem) (w1:World) (ds:List Deferred) (dn:List Nat) (ev:Env) (s:St) (listed:Array Bool) (a:Act) (w:World) (M:Mem):Prop where
 size:listed.size=l.length
 ini:dn=[]→s=s0
 closed:∀ (j:Nat) (oj:Oper),l[j]? = some oj→listed.getD j false=true→∀ e∈oj.after,Region.binds .any e=true→listed.getD e.on false=true
 eff:∀ i∈ef,(listed.getD i false=true↔i∈dn)
 sub:∀ i∈dn,i∈ef
 rel:RelSt w0 M s w
 tmps:a.tmps.size=n
 defers:a.defers=ds
 ext:Ext w0 M1 w1 M w
 evn:∀ t,(∀ j∈dn,∀ o,l[j]? = some o→o.dst≠some t)→look ev t=look e1 t
 done:∀ t x,(∃ j∈dn,∃ o,l[j]? = some o∧o.dst=some t)→look ev t=some x→entryOk w0 M w (a.tmps.getD t undef) x
 new:∀ t x,(∀ j∈dn,∀ o,l[j]? = some o→o.dst≠some t)→(∃ i o,i ∉ ef∧l[i]? = some o∧o.dst=some t∧listed.getD i false=true)→look e1 t=some x→entryOk w0 M w (a.tmps.getD t undef) x
 old:∀ t x,(∀ i o,l[i]? = some o→o.dst=some t→listed.getD i false=false)→look e t=some x→entryOk w0 M w (a.tmps.getD t undef) x
def YF (l:List Oper) (ef el:List Nat):Bool:=ef.all fun i=>el.all fun j=>OL (H8 l []) i j
def Zhd (P:Program) (w0:World) (n:Nat) (l:List Oper) (e1:Env) (s:St) (o:Oper):Prop :=
 ∃ (Ei:Env) (v:AV),Lm l (B9 true l o Ei) o.guard∧KZ n o.dst∧ZJ P w0 (B9 true l o Ei) (B1 l (B9 true l o Ei) o.guard) s o v∧(∀ t∈looks l o,look Ei t=look e1 t)∧∀ t,o.dst=some t→look e1 t=some (B1 l (B9 true l o Ei) o.guard,v)
theorem NA {l:List Oper} {ef:List Nat} {i:Nat} {o:Oper} (hi:i ∉ ef) (ho:l[i]? = some o):(Eg ef 0 l)[i]? = some o:=by
 rw [SQ,ho]
 simp [hi]
theorem Pn {l:List Oper} {ef:List Nat} {i:Nat} {o:Oper} {t:Nat} (hi:(Eg ef 0 l)[i]? = some o) (hd:o.dst=some t):i ∉ ef∧l[i]? = some o:=by
 rw [SQ] at hi
 cases hl:l[i]? with
 | none=>simp [hl] at hi
 | some p =>
  rw [hl] at hi
  simp only [Option.map_some,Nat.zero_add,Option.some.injEq] at hi
  by_cases c:i∈ef
  ·simp [c] at hi
   subst hi
   cases hd
  ·simp [c] at hi
   subst hi
   exact ⟨c,rfl⟩
theorem XN {l:List Oper} {ef ef':List Nat} (hB:Ni l ef=true) (hs:∀ i∈ef,i∈ef'):∀ (i j:Nat) (o p:Oper) (t:Nat),(Eg ef' 0 l)[i]? = some o→(Eg ef' 0 l)[j]? = some p→o.dst=some t→p.dst=some t→i=j:=by
 intro i j o p t e f a b
 obtain ⟨a1,a2⟩:=Pn e a
 obtain ⟨d,g⟩:=Pn f b
 have a3:i ∉ ef:=fun h=>a1 (hs i h)
 have c:j ∉ ef:=fun h=>d (hs j h)
 rcases ((EZ hB a2).2 j p t g b).1 a with h | h
 ·exact h
 ·simp [Un,a3,c] at h
theorem Yw {l:List Oper} {ef:List Nat} {e e1:Env} {s:St} (hB:Ni l ef=true) (h:∃ c,Uu P w0 n true l (fun e' s'=>e'=e1∧s'=s) c (Eg ef 0 l) e s) :
  (∀ t,(∀ i o,i ∉ ef→l[i]? = some o→o.dst≠some t)→look e1 t=look e t)∧∀ i o,i ∉ ef→l[i]? = some o→Zhd P w0 n l e1 s o:=by
 obtain ⟨c,x⟩:=h
 obtain ⟨E,C,V,T',r,_⟩:=Q4 c _ _ x
 rw [I7] at r
 have f:∀ t j,j≤l.length→_:=fun t j v=>N5 T' (XN hB fun _ h=>h) t j (by rw [I7];exact v)
 have k:∀ t,(∀ i o,i ∉ ef→l[i]? = some o→o.dst≠some t)→look e1 t=look e t:=by
  intro t G
  have:=(f t l.length (Nat.le_refl _)).1 fun i o _ D hd=>by
   obtain ⟨a1,a2⟩:=Pn D hd
   exact G i o a1 a2 hd
  rwa [r] at this
 refine ⟨k,fun i o b a=>?_⟩
 have d:i<l.length:=(Ak.1 a).1
 obtain ⟨_,F,y,w,z⟩:=T'.step i o (NA b a)
 refine ⟨E i,V i,F,y,by rw [w];exact z,fun t H=>?_,fun t hd=>?_⟩
 ·by_cases Bf:∃ i o,i ∉ ef∧l[i]? = some o∧o.dst=some t
  ·obtain ⟨j,p,q,g,m⟩:=Bf
   have J:=((EZ hB a).2 j p t g m).2 H
   have u:j<i∧OL (H8 l []) i j=true:=by simpa [PH,b,q] using J
   rw [(f t i (Nat.le_of_lt d)).2 j p u.1 (NA q g) m,←r,(f t l.length (Nat.le_refl _)).2 j p (by omega) (NA q g) m]
  ·rw [k t fun i o q g m=>Bf ⟨i,o,q,g,m⟩]
   exact (f t i (Nat.le_of_lt d)).1 fun j p _ v hd=>by
    obtain ⟨a1,a2⟩:=Pn v hd
    exact Bf ⟨j,p,a1,a2,hd⟩
 ·rw [w,←r]
  exact (f t l.length (Nat.le_refl _)).2 i o d (NA b a) hd
inductive PreOk (e1:Env):Env→Prop where
 | nil:PreOk e1 e1
 | cons {k:Nat} {v:Bool × AV} {r:Env} (h:look e1 k=some v) (h':PreOk e1 r):PreOk e1 ((k,v)::r)
theorem PreOk.look {e1 e':Env} (h:PreOk e1 e') (t:Nat):Go.Ev.look e' t=Go.Ev.look e1 t:=by
 induction h with
 | nil=>rfl
 | @cons k v r h _ ih =>
  show (if k=t then some v else Go.Ev.look r t)=_
  split
  ·rename_i q
   rw [←q,h]
  ·exact ih
theorem Zh1 {l:List Oper} {ef el:List Nat} {e1:Env} {s:St} (hB:Ni l ef=true) (h:∃ c,Uu P w0 n true l (fun e' s'=>s'=s∧PreOk e1 e') c (Eg (ef++el) 0 l) e1 s) (i:Nat) (o:Oper) (hie:i ∉ ef) (hil:i ∉ el) (ho':l[i]? = some o):Zhd P w0 n l e1 s o:=by
 obtain ⟨c,q⟩:=h
 obtain ⟨E,C,V,T',_,g⟩:=Q4 c _ _ q
 rw [I7] at g
 have b:∀ t j,j≤l.length→_:=fun t j e=>N5 T' (XN hB fun _ h=>List.mem_append_left _ h) t j (by rw [I7];exact e)
 have d:i<l.length:=(Ak.1 ho').1
 have a:i ∉ ef++el:=fun h=>(List.mem_append.1 h).elim hie hil
 have fin:∀ t,look (E l.length) t=look e1 t:=g.look
 obtain ⟨_,v,w,k,r⟩:=T'.step i o (NA a ho')
 refine ⟨E i,V i,v,w,by rw [k];exact r,fun t _=>?_,fun t hd=>?_⟩
 ·by_cases Bf:∃ j p,j<i∧(Eg (ef++el) 0 l)[j]? = some p∧p.dst=some t
  ·obtain ⟨j,p,u,m,f⟩:=Bf
   rw [(b t i (Nat.le_of_lt d)).2 j p u m f,←fin t,(b t l.length (Nat.le_refl _)).2 j p (by omega) m f]
  ·exact (b t i (Nat.le_of_lt d)).1 fun j p e x hd=>Bf ⟨j,p,e,x,hd⟩
 ·rw [k,←fin t]
  exact (b t l.length (Nat.le_refl _)).2 i o d (NA a ho') hd
theorem Zdy {l:List Oper} {ef el:List Nat} {s0:St} {e e1:Env} {F:St→Prop} {T:Env→St→Prop} {M1:Mem} {w1:World} {ds:List Deferred} {ro:Option Nat} {m:Nat} {Q:Exit→Act→World→Prop} (hB:Ni l ef=true) (hel:YF l ef el=true)
  (noE1:∀ t,(∀ i o,i ∉ ef→l[i]? = some o→o.dst≠some t)→look e1 t=look e t)
  (hF:∀ s,F s→∀ i o,i ∉ ef→(i∈el→s=s0)→l[i]? = some o→Zhd P w0 n l e1 s o)
  (hT:∀ ev s M a w,T ev s→Rel w0 n M ev s a w→Ext w0 M1 w1 M w→a.defers=ds→Q .normal a w) :
  ∀ fuel listed a w M k dn ev s,fuel=listed.toList.count false→Good P w0 n l ef F T k dn ev s→AInv w0 n l ef s0 e e1 M1 w1 ds dn ev s listed a w M→wpAnyIn (FW ro) m P .any l.toArray Q fuel listed a w:=by
 intro fuel
 induction fuel with
 | zero =>
  intro listed a w M k dn ev s hf hg inv
  have g:∀ j,j<l.length→listed.getD j false=true:=by
   intro j hj
   cases hq:listed.getD j false with
   | true=>rfl
   | false =>
    exfalso
    have ag:j<listed.size:=by rw [inv.size];omega
    have:false∈listed.toList:=by
     have e1:listed[j]=false:=by simpa [ag] using hq
     rw [←e1];simp
    have:=List.count_pos_iff.2 this
    omega
  cases k with
  | zero=>exact hg.elim
  | succ k =>
  obtain ⟨g1,g2,_⟩:=hg
  have hdn:(ef.all fun i=>dn.contains i)=true:=by
   refine List.all_eq_true.2 fun i D=>?_
   have c:i<l.length:=by simpa using List.all_eq_true.1 (Bool.and_eq_true_iff.1 hB).1 i D
   simpa using (inv.eff i D).1 (g i c)
  refine ⟨?_,hT ev s M a w (g2 hdn) ⟨inv.rel,inv.tmps,fun t x hx=>?_⟩ inv.ext inv.defers⟩
  ·refine List.eq_nil_iff_forall_not_mem.2 fun i D=>?_
   obtain ⟨J,o,ho,_⟩:=mem_ready.1 D
   have ho':l[i]? = some o:=by simpa using ho
   have:=g i (Ak.1 ho').1
   obtain ⟨q1,q2⟩:=ZaR J
   obtain ⟨q3,q4⟩:=Zdj this
   rw [q2] at q4;cases q4
  ·by_cases A:∃ j∈dn,∃ o,l[j]? = some o∧o.dst=some t
   ·exact inv.done t x A hx
   ·have E:∀ j∈dn,∀ o,l[j]? = some o→o.dst≠some t:=fun j hj o ho hd=>A ⟨j,hj,o,ho,hd⟩
    rw [inv.evn t E] at hx
    by_cases Bf:∃ i o,i ∉ ef∧l[i]? = some o∧o.dst=some t
    ·obtain ⟨i,o,b1,b2,b3⟩:=Bf
     exact inv.new t x E ⟨i,o,b1,b2,b3,g i (Ak.1 b2).1⟩ hx
    ·rw [noE1 t fun i o b1 b2 b3=>Bf ⟨i,o,b1,b2,b3⟩] at hx
     refine inv.old t x (fun i o ho hd=>?_) hx
     by_cases c:i∈ef
     ·exact absurd hd (E i ((inv.eff i c).1 (g i (Ak.1 ho).1)) o ho)
     ·exact absurd ⟨i,o,c,ho,hd⟩ Bf
 | succ fuel ih =>
  intro listed a w M k dn ev s hf hg inv
  cases k with
  | zero=>exact hg.elim
  | succ k =>
  obtain ⟨g1,g2,g3⟩:=hg
  have Y:∃ j,j<l.length∧listed.getD j false=false∧∀ i,i<j→listed.getD i false=true:=by
   refine TQ fun g=>?_
   have:0<listed.toList.count false:=by omega
   have hm:=List.count_pos_iff.1 this
   obtain ⟨i,D,Z⟩:=List.mem_iff_getElem.1 hm
   have b:i<listed.size:=by simpa using D
   have:=g i (by rw [←inv.size];exact b)
   simp only [Array.getD_eq_getD_getElem?,Array.getElem?_eq_getElem b,Option.getD_some] at this
   rw [Array.getElem_toList] at Z
   rw [Z] at this;cases this
  obtain ⟨k0,aj,ah,ap⟩:=Y
  have ao:k0<listed.size:=by rw [inv.size];omega
  have am:l[k0]? = some l[k0]:=List.getElem?_eq_getElem aj
  have G:k0∈Region.ready .any l.toArray listed :=
   mem_ready.2 ⟨by simpa [ao] using ah,l[k0],by simp,fun V Z hb=>ap _ ((EZ hB am).1 V Z hb)⟩
  refine ⟨fun h0=>absurd G (by rw [h0];simp),fun i D=>?_⟩
  obtain ⟨J,o,ho,N⟩:=mem_ready.1 D
  have ho':l[i]? = some o:=by simpa using ho
  have au:i<l.length:=(Ak.1 ho').1
  have b:i<listed.size:=by rw [inv.size];omega
  have O:listed.getD i false=false:=by simpa [b] using J
  have C:∀ j,OL (H8 l []) i j=true→listed.getD j false=true:=fun j hj=>VK hB inv.closed j i o ho' N hj
  have K:fuel=(listed.setIfInBounds i true).toList.count false:=by
   have ab:listed[i]=false:=by simpa [b] using J
   have ar:0<listed.toList.count false:=List.count_pos_iff.2 (by rw [←ab];simp)
   rw [Array.toList_setIfInBounds,List.count_set (by simpa using b)]
   simp only [Array.getElem_toList,ab]
   rw [Ai (show (false == false)=true from rfl),Aj (show ¬ (true == false)=true by decide)]
   omega
  have hclosed:∀ (j:Nat) (oj:Oper),l[j]? = some oj→(listed.setIfInBounds i true).getD j false=true→∀ V∈oj.after,Region.binds .any V=true→(listed.setIfInBounds i true).getD V.on false=true:=by
   intro j oj hj H V Z hb
   rw [ER b] at H ⊢
   split
   ·rfl
   ·by_cases c:i=j
    ·subst c
     rw [ho'] at hj;cases hj
     exact N V Z hb
    ·rw [Aj c] at H
     exact inv.closed j oj hj H V Z hb
  unfold wpOpIn
  simp only [ho]
  by_cases hie:i∈ef
  ·-- an effect
   have ai:dn.contains i=false:=by
    cases hq:dn.contains i with
    | false=>rfl
    | true=>have:=(inv.eff i hie).2 (by simpa using hq);rw [O] at this;cases this
   obtain ⟨o2,q1,q2,q3,Post,q4,af⟩:=g3 i hie ai (by
    refine List.all_eq_true.2 fun j hj=>?_
    cases hq:OL (H8 l []) i j with
    | false=>rfl
    | true=>simpa using (inv.eff j hj).1 (C j hq))
   rw [ho'] at q1;cases q1
   have z:Rel w0 n M (B9 true l o ev) s a w:=by
    refine ⟨inv.rel,inv.tmps,fun t x hs=>?_⟩
    simp only [B9,if_true] at hs
    have hm:=Nk _ _ _ _ hs
    have hx:=Jq _ _ _ _ hs
    by_cases A:∃ j∈dn,∃ o,l[j]? = some o∧o.dst=some t
    ·exact inv.done t x A hx
    ·have E:∀ j∈dn,∀ o,l[j]? = some o→o.dst≠some t:=fun j hj o ho hd=>A ⟨j,hj,o,ho,hd⟩
     rw [inv.evn t E] at hx
     by_cases Bf:∃ i o,i ∉ ef∧l[i]? = some o∧o.dst=some t
     ·obtain ⟨j,p,b1,b2,b3⟩:=Bf
      have H:=((EZ hB ho').2 j p t b2 b3).2 hm
      have:OL (H8 l []) i j=true:=by simpa [PH,hie,b1] using H
      exact inv.new t x E ⟨j,p,b1,b2,b3,C j this⟩ hx
     ·rw [noE1 t fun i o b1 b2 b3=>Bf ⟨i,o,b1,b2,b3⟩] at hx
      refine inv.old t x (fun j p hp hd=>?_) hx
      by_cases c:j∈ef
      ·cases hq:listed.getD j false with
       | false=>rfl
       | true=>exact absurd hd (E j ((inv.eff j c).1 hq) p hp)
      ·exact absurd ⟨j,p,c,hp,hd⟩ Bf
   have hw:Region.wanted o (yielded l.toArray a.tmps)=true:=by simp [Region.wanted,q2]
   rw [hw,Ai rfl]
   refine Zaa z ro m q4 Q _ fun v s' u w' M' U hx hst hu=>?_
   have q5:=af v s' U
   have keep:∀ t x,o.dst≠some t→entryOk w0 M w (a.tmps.getD t undef) x→entryOk w0 M' w' ((a.put o.dst u).tmps.getD t undef) x:=by
    intro t x f h1
    rw [LV a o.dst u t (by rw [inv.tmps];exact q3),Aj f]
    exact h1.mono hx
   refine ih _ _ _ M' k (i::dn) _ s' K q5 ⟨by simp [inv.size],fun q=>(by cases q),hclosed,fun j hj=>?_,fun j hj=>?_,hst,by rw [QT];exact inv.tmps,by rw [It];exact inv.defers,inv.ext.trans hx,fun t ht=>?_,fun t x hA hx'=>?_,fun t x hA hN hx'=>?_,fun t x hO hx'=>?_⟩
   ·rw [ER b]
    by_cases c:i=j
    ·subst c;simp
    ·rw [Aj c,inv.eff j hj];simp [Ne.symm c]
   ·rcases List.mem_cons.1 hj with rfl | hj
    ·exact hie
    ·exact inv.sub j hj
   ·have f:=ht i (List.mem_cons_self ..) o ho'
    have:look (Lu ev o.dst true v) t=look ev t:=by
     cases hd:o.dst with
     | none=>rfl
     | some d=>rw [hd] at f;simp only [Lu,look];rw [Aj (fun h=>f (by rw [h]))]
    rw [this]
    exact inv.evn t fun j hj=>ht j (List.mem_cons_of_mem _ hj)
   ·by_cases c:o.dst=some t
    ·rw [c] at hx'
     simp only [Lu,look,if_true,Option.some.injEq] at hx'
     subst hx'
     rw [LV a o.dst u t (by rw [inv.tmps];exact q3),Ai c]
     simpa only [entryOk,if_true] using hu
    ·have:look (Lu ev o.dst true v) t=look ev t:=by
      cases hd:o.dst with
      | none=>rfl
      | some d=>rw [hd] at c;simp only [Lu,look];rw [Aj (fun h=>c (by rw [h]))]
     rw [this] at hx'
     refine keep t x c (inv.done t x ?_ hx')
     obtain ⟨j,hj,p,hp,hd⟩:=hA
     rcases List.mem_cons.1 hj with rfl | hj
     ·rw [ho'] at hp;cases hp;exact absurd hd c
     ·exact ⟨j,hj,p,hp,hd⟩
   ·have f:=hA i (List.mem_cons_self ..) o ho'
    refine keep t x f (inv.new t x (fun j hj=>hA j (List.mem_cons_of_mem _ hj)) ?_ hx')
    obtain ⟨j,p,b1,b2,b3,b4⟩:=hN
    rw [ER b] at b4
    by_cases c:i=j
    ·subst c;exact absurd hie b1
    ·rw [Aj c] at b4;exact ⟨j,p,b1,b2,b3,b4⟩
   ·have f:o.dst≠some t:=fun hd=>by
     have:=hO i o ho' hd
     rw [ER b,Ai rfl] at this;cases this
    refine keep t x f (inv.old t x (fun j p hp hd=>?_) hx')
    have:=hO j p hp hd
    rw [ER b] at this
    by_cases c:i=j
    ·rw [Ai c] at this;cases this
    ·rwa [Aj c] at this
  ·-- one of the others
   have y:∀ j∈dn,∀ p,l[j]? = some p→OL (H8 l []) j i=true→False:=by
    intro j hj p hp ae
    have ak:=(inv.eff j (inv.sub j hj)).2 hj
    have:=VK hB inv.closed i j p hp (inv.closed j p hp ak) ae
    rw [O] at this;cases this
   obtain ⟨Ei,v,t2,t3,t5,t6,t7⟩:=hF s g1 i o hie (fun D=>by
    cases hdn:dn with
    | nil=>exact inv.ini hdn
    | cons j r =>
     have hj:j∈dn:=by rw [hdn];exact List.mem_cons_self ..
     have hje:=inv.sub j hj
     have c:j<l.length:=by simpa using List.all_eq_true.1 (Bool.and_eq_true_iff.1 hB).1 j hje
     exact (y j hj _ (List.getElem?_eq_getElem c) (List.all_eq_true.1 (List.all_eq_true.1 hel j hje) i D)).elim) ho'
   have z:Rel w0 n M (B9 true l o Ei) s a w:=by
    refine ⟨inv.rel,inv.tmps,fun t x hs=>?_⟩
    simp only [B9,if_true] at hs
    have hm:=Nk _ _ _ _ hs
    have hx:=Jq _ _ _ _ hs
    have E:∀ j∈dn,∀ p,l[j]? = some p→p.dst≠some t:=by
     intro j hj p hp hd
     have H:=((EZ hB ho').2 j p t hp hd).2 hm
     have hje:=inv.sub j hj
     exact y j hj p hp (by simpa [PH,hie,hje] using H)
    rw [t6 t hm] at hx
    by_cases Bf:∃ i o,i ∉ ef∧l[i]? = some o∧o.dst=some t
    ·obtain ⟨j,p,b1,b2,b3⟩:=Bf
     have H:=((EZ hB ho').2 j p t b2 b3).2 hm
     have ad:j<i∧OL (H8 l []) i j=true:=by simpa [PH,hie,b1] using H
     exact inv.new t x E ⟨j,p,b1,b2,b3,C j ad.2⟩ hx
    ·rw [noE1 t fun i o b1 b2 b3=>Bf ⟨i,o,b1,b2,b3⟩] at hx
     refine inv.old t x (fun j p hp hd=>?_) hx
     by_cases c:j∈ef
     ·cases hq:listed.getD j false with
      | false=>rfl
      | true=>exact absurd hd (E j ((inv.eff j c).1 hq) p hp)
     ·exact absurd ⟨j,p,c,hp,hd⟩ Bf
   refine Ti z ro m t2 t5 Q _ fun u w' M' hx hst hu=>?_
   have keep:∀ t x,o.dst≠some t→entryOk w0 M w (a.tmps.getD t undef) x→entryOk w0 M' w' ((a.put o.dst u).tmps.getD t undef) x:=by
    intro t x f h1
    rw [LV a o.dst u t (by rw [inv.tmps];exact t3),Aj f]
    exact h1.mono hx
   have aq:∀ t,o.dst=some t→∀ j∈dn,∀ p,l[j]? = some p→p.dst≠some t:=by
    intro t hd j hj p hp aa
    have hje:=inv.sub j hj
    rcases ((EZ hB ho').2 j p t hp aa).1 hd with h | h
    ·subst h;exact hie hje
    ·exact y j hj p hp (by simpa [Un,hie,hje] using h)
   refine ih _ _ _ M' (k+1) dn ev s K ⟨g1,g2,g3⟩ ⟨by simp [inv.size],inv.ini,hclosed,fun j hj=>?_,inv.sub,hst,by rw [QT];exact inv.tmps,by rw [It];exact inv.defers,inv.ext.trans hx,inv.evn,fun t x hA hx'=>?_,fun t x hA hN hx'=>?_,fun t x hO hx'=>?_⟩
   ·rw [ER b,Aj (fun (h:i=j)=>hie (h▸hj))]
    exact inv.eff j hj
   ·refine keep t x (fun hd=>?_) (inv.done t x hA hx')
    obtain ⟨j,hj,p,hp,aa⟩:=hA
    exact aq t hd j hj p hp aa
   ·by_cases c:o.dst=some t
    ·rw [LV a o.dst u t (by rw [inv.tmps];exact t3),Ai c]
     have e3:=t7 t c
     rw [hx'] at e3
     cases e3
     exact hu
    ·refine keep t x c (inv.new t x hA ?_ hx')
     obtain ⟨j,p,b1,b2,b3,b4⟩:=hN
     rw [ER b] at b4
     by_cases c':i=j
     ·subst c';rw [ho'] at b2;cases b2;exact absurd b3 c
     ·rw [Aj c'] at b4;exact ⟨j,p,b1,b2,b3,b4⟩
   ·have f:o.dst≠some t:=fun hd=>by
     have:=hO i o ho' hd
     rw [ER b,Ai rfl] at this;cases this
    refine keep t x f (inv.old t x (fun j p hp hd=>?_) hx')
    have:=hO j p hp hd
    rw [ER b] at this
    by_cases c:i=j
    ·rw [Ai c] at this;cases this
    ·rwa [Aj c] at this
def Conv (w0:World) (n nb:Nat) (e:Env) (s:St) (e':Env) (s':St):Prop:=∀ M a w,Rel w0 n M e s a w→∃ M',(∀ Ms ws,Ms.N=nb→Ext w0 Ms ws M w→Ext w0 Ms ws M' w)∧Rel w0 n M' e' s' a w
theorem Good.imp {l:List Oper} {ef:List Nat} {F:St→Prop} {T T':Env→St→Prop} (hT:∀ ev s,T ev s→T' ev s):∀ k dn ev s,Good P w0 n l ef F T k dn ev s→Good P w0 n l ef F T' k dn ev s
 | 0,_,_,_,h=>h
 | k+1,_,_,_,h=>⟨h.1,fun q=>hT _ _ (h.2.1 q),fun i a b c=>by
  obtain ⟨o,e,m,j,Post,d,g⟩:=h.2.2 i a b c
  exact ⟨o,e,m,j,Post,d,fun v f q=>Good.imp hT k _ _ _ (g v f q)⟩⟩
section
variable {M0:Mem} {W0:World} {ro:Option Nat} {Q:AQ} {e:Env} {st:St}
theorem ZaB (hm:P.follows .mixedOrders=true) (ef el L:List Nat) {id:Nat} {l:List Oper} (hB:Ni l ef=true) (hel:YF l ef el=true) (F:St→Prop) (k nb:Nat) {e1:Env} (hnb:st.boxes.length=nb)
  (hN:∀ t,(∀ i o,i ∉ ef→l[i]? = some o→o.dst≠some t)→look e1 t=look e t) (hF:∀ s,F s→∀ i o,i ∉ ef→(i∈el→s=st)→l[i]? = some o→Zhd P w0 n l e1 s o)
  (hG:Good P w0 n l ef F (fun ev s=>∃ e2 s2,Conv w0 n nb ev s e2 s2∧Q .normal (Ea L e2) s2) k [] e1 st):Eb P w0 n M0 W0 ro (.region id l.toArray true) Q e st:=by
 intro m M a w hr
 obtain ⟨d1,d2⟩:=hr.rel.st.drew
 refine wpIn_region_any hm (Zdy (s0:=st) (e:=e) (e1:=e1) (M1:=M) (w1:=w) (ds:=a.defers) hB hel hN hF (fun ev s g p u d b q hd=>?_) _ _ a _ M k [] e1 st ?_ hG ?_)
 ·obtain ⟨e2,s2,d,v⟩:=d
  obtain ⟨M2,r,y⟩:=d g p u b
  have f:=r M w (hr.rel.st.N.trans hnb) q
  refine ⟨M2,_,_,⟨y.sub (DV L _),hr.ext.trans f,?_⟩,v⟩
  rw [hd]
  exact hr.marks.later f hr.rel.st
 ·simp
 ·have hnl:∀ j,(Array.replicate l.toArray.size false).getD j false=false:=fun j=>by
   by_cases c:j<l.length
   ·simp [Array.getD_eq_getD_getElem?,c]
   ·simp [Array.getD_eq_getD_getElem?,c]
  exact ⟨by simp,fun _=>rfl,fun j _ _ hl=>(by rw [hnl] at hl;cases hl),fun i _=>(by rw [hnl];simp),fun _ h=>(nomatch h),d1,hr.rel.size,rfl,d2,fun _ _=>rfl,fun _ _ ⟨_,h,_⟩=>(nomatch h),
   fun _ _ _ ⟨i,_,_,_,_,h⟩=>(by rw [hnl] at h;cases h),fun t x _ hs=>(hr.rel.env t x hs).mono d2⟩
theorem ZI (hm:P.follows .mixedOrders=true) (ef L:List Nat) {id:Nat} {l:List Oper} (hB:Ni l ef=true) (F:St→Prop) (k nb:Nat) {e1:Env} (hnb:st.boxes.length=nb)
  (hF:∀ s,F s→∃ c,Uu P w0 n true l (fun e' s'=>e'=e1∧s'=s) c (Eg ef 0 l) e s) (hG:Good P w0 n l ef F (fun ev s=>∃ e2 s2,Conv w0 n nb ev s e2 s2∧Q .normal (Ea L e2) s2) k [] e1 st):Eb P w0 n M0 W0 ro (.region id l.toArray true) Q e st :=
 have a:F st:=by
  cases k with
  | zero=>exact hG.elim
  | succ k=>exact hG.1
 ZaB hm ef [] L hB (by simp [YF]) F k nb hnb (Yw hB (hF st a)).1 (fun s h i o b _ d=>(Yw hB (hF s h)).2 i o b d) hG
theorem Lp (hm:P.follows .mixedOrders=true) (ef L:List Nat) {id:Nat} {l:List Oper} (hB:Ni l ef=true) (F:St→Prop) (k nb:Nat) {e1 e2:Env} {s2:St} (hnb:st.boxes.length=nb)
  (hF:∀ s,F s→∃ c,Uu P w0 n true l (fun e' s'=>e'=e1∧s'=s) c (Eg ef 0 l) e s) (hG:Good P w0 n l ef F (fun ev s=>Conv w0 n nb ev s e2 s2) k [] e1 st) (hQ:Q .normal (Ea L e2) s2):Eb P w0 n M0 W0 ro (.region id l.toArray true) Q e st :=
 ZI hm ef L hB F k nb hnb hF (hG.imp (fun _ _ h=>⟨e2,s2,h,hQ⟩))
theorem ZX (hm:P.follows .mixedOrders=true) (ef el L:List Nat) {id:Nat} {l:List Oper} (hB:(Ni l ef&&YF l ef el)=true) (F:St→Prop) (k nb:Nat) {e1 e2:Env} {s2:St} (hnb:st.boxes.length=nb)
  (h0:∃ c,Uu P w0 n true l (fun e' s'=>e'=e1∧s'=st) c (Eg ef 0 l) e st)
  (hF:∀ s,F s→∃ c,Uu P w0 n true l (fun e' s'=>s'=s∧PreOk e1 e') c (Eg (ef++el) 0 l) e1 s) (hG:Good P w0 n l ef F (fun ev s=>Conv w0 n nb ev s e2 s2) k [] e1 st) (hQ:Q .normal (Ea L e2) s2):Eb P w0 n M0 W0 ro (.region id l.toArray true) Q e st :=
 have a:=Bool.and_eq_true_iff.1 hB
 ZaB hm ef el L a.1 a.2 F k nb hnb (Yw a.1 h0).1 (fun s h i o b f d=>by
  by_cases c:i∈el
  ·rw [f c];exact (Yw a.1 h0).2 i o b d
  ·exact Zh1 a.1 (hF s h) i o b c d) (hG.imp (fun _ _ h=>⟨e2,s2,h,hQ⟩))
end
theorem RU (L:List Nat) {nb:Nat} {e e':Env} {s:St} (h:Ea L e=e'):Conv w0 n nb e s e' s:=fun M _ w a=>⟨M,fun _ _ _ h=>h,by rw [←h];exact a.sub (DV L e)⟩
def ZbN (l:List Oper) (ef dn:List Nat):List Nat:=ef.filter fun i => !dn.contains i&&ef.all fun j => !OL (H8 l []) i j||dn.contains j
theorem Good.mk {l:List Oper} {ef dn:List Nat} {F:St→Prop} {T:Env→St→Prop} {k:Nat} {ev:Env} {s:St} (rs:List Nat) (hr:ZbN l ef dn=rs) (hF:F s) (hT:(ef.all fun i=>dn.contains i)=true→T ev s)
  (h:∀ i∈rs,∃ o,l[i]? = some o∧o.guard=none∧KZ n o.dst∧∃ Post:AV→St→Prop,Xj P w0 (B9 true l o ev) s o Post∧∀ v s',Post v s'→Good P w0 n l ef F T k (i::dn) (Lu ev o.dst true v) s'):Good P w0 n l ef F T (k+1) dn ev s :=
 ⟨hF,hT,fun i b hd a=>h i (by rw [←hr];exact List.mem_filter.2 ⟨b,by rw [hd,a];rfl⟩)⟩
theorem ET {l:List Oper} {ef dn:List Nat} {F:St→Prop} {T:Env→St→Prop} {k i:Nat} {ev:Env} {s:St} {o:Oper} {v:AV} {s':St} (ho:l[i]? = some o) (hg:o.guard=none) (hd:KZ n o.dst) (hs:F9 P w0 (B9 true l o ev) s o v s')
  (hk:Good P w0 n l ef F T k (i::dn) (Lu ev o.dst true v) s'):∃ o,l[i]? = some o∧o.guard=none∧KZ n o.dst∧∃ Post:AV→St→Prop,Xj P w0 (B9 true l o ev) s o Post∧∀ v s',Post v s'→Good P w0 n l ef F T k (i::dn) (Lu ev o.dst true v) s' :=
 ⟨o,ho,hg,hd,fun r t=>r=v∧t=s',.inr ⟨v,s',hs,fun _ _ h=>h⟩,by rintro _ _ ⟨rfl,rfl⟩;exact hk⟩
theorem ZbW {l:List Oper} {ef dn:List Nat} {F:St→Prop} {T:Env→St→Prop} {k i:Nat} {ev:Env} {s:St} {o:Oper} {f:Operand} {args:Array Operand} {ts:Array TypeId} {Post:AV→St→Prop} (ho:l[i]? = some o) (hg:o.guard=none) (hd:KZ n o.dst) (hop:o.op = .call ⟨.value f,args,ts⟩)
  (h1:AP (B9 true l o ev) true f) (h2:∀ x∈args.toList,AP (B9 true l o ev) true x) (h3:OH P w0 (AC (B9 true l o ev) f) (args.toList.map fun x=>argP (B9 true l o ev) (AC (B9 true l o ev) x)) s Post)
  (hk:∀ v s',Post v s'→Good P w0 n l ef F T k (i::dn) (Lu ev o.dst true v) s'):∃ o,l[i]? = some o∧o.guard=none∧KZ n o.dst∧∃ Post:AV→St→Prop,Xj P w0 (B9 true l o ev) s o Post∧∀ v s',Post v s'→Good P w0 n l ef F T k (i::dn) (Lu ev o.dst true v) s' :=
 ⟨o,ho,hg,hd,Post,.inl ⟨by rw [hop];rfl,by rw [hop];exact ⟨h1,h2,h3⟩⟩,hk⟩
end
def Tg {α:Type} (_:α):Prop:=True
theorem tg {α:Type} {a:α}:Tg a:=trivial
theorem cl {p:Prop} (h:p:=by first | (intros;omega) | (intros;simp_all;done) | (intros;simp only [Bool.or_eq_false_iff,Bool.or_eq_true,Bool.and_eq_true,Bool.and_eq_false_iff,decide_eq_true_eq,decide_eq_false_iff_not,bne_iff_ne] at *; omega)):p:=h
theorem pf {p:Prop} (h:p:=by first | exact List.prefix_append _ _ | exact List.prefix_refl _ | (rw [List.append_assoc];exact List.prefix_append _ _)):p:=h
theorem ev {p:Prop} (h:p:=by simp +decide only [go_sem,Nat.reduceAdd]):p:=h
theorem ef {p F:Prop} (f:F) (h:F→p:=by intro hs;first | rfl | (simp +decide only [go_sem,Nat.reduceAdd,hs];done)):p:=h f
theorem en {p F:Prop} (f:F) (h:F→p:=by intro hs;first | (simp +decide only [go_sem,Nat.reduceAdd,hs];done) | (simp +decide only [go_sem,Nat.reduceAdd,hs];rfl)):p:=h f
theorem ow {p:Prop} (h:p:=by (simp +decide only [go_sem,Nat.reduceAdd,Jn])<;>(try (repeat' apply Ae))<;>first | omega | assumption):p:=h
theorem WY:(0:Nat)=0:=rfl
section
variable {P:Program} {w0:World} {n:Nat} {M0:Mem} {W0:World} {ro:Option Nat} {e:Env} {st:St} {Q:AQ}
theorem J9 {c:Nat} {L:List Nat} (tc:Tg c) (tL:Tg L) {id:Nat} {l:List Oper} (h:Uu P w0 n false l (fun e' st'=>Q .normal (Ea L e') st') c l e st):Eb P w0 n M0 W0 ro (.region id l.toArray false) Q e st:=Ap c L h
theorem UE {L:List Nat} (t:Tg L) {c:Code} (h:Eb P w0 n M0 W0 ro c Q (Ea L e) st):Eb P w0 n M0 W0 ro c Q e st:=Lh _ h (DV _ _)
theorem S3 {h c1 c2:Nat} {L:List Nat} (tt:Tg (h,c1,c2,L)) (hm:P.follows .mixedOrders=true) {id:Nat} {l:List Oper} (hB:Xf l h=true)
  (hev:Uu P w0 n true l (fun e1 s1=>Uu P w0 n false l (fun e2 s2=>Q .normal (Ea L e2) s2) c2 (l.drop h) e1 s1) c1 (l.take h) e st):Eb P w0 n M0 W0 ro (.region id l.toArray true) Q e st:=V4 hm h c1 c2 L hB hev
theorem Kp {c d:Bool} {fv:AV} {args:List AV} {k:AV→St→Prop} (h:La P w0 c d fv args st k):La P w0 c d fv args st k:=h
theorem BL {β:Type} {F:Prop} {b:Bool} {X Y r:β} (h:(if b=true then X else Y)=r) (f:F) {c:Operand} {x y:Code} (ht:(b=true∧F)→X=r→Eb P w0 n M0 W0 ro x Q e st) (hf:(b=false∧F)→Y=r→Eb P w0 n M0 W0 ro y Q e st)
  (hc:AP e true c:=by simp +decide only [go_sem,Nat.reduceAdd]) (hb:F→AC e c = .val (.bool b):=by intro hs;first | (simp +decide only [go_sem,Nat.reduceAdd,hs];done) | (simp +decide only [go_sem,Nat.reduceAdd,hs];rfl)):Eb P w0 n M0 W0 ro (.cond c x y) Q e st :=
 AN b hc (hb f) (fun q=>ht ⟨q,f⟩ (Be h q)) (fun q=>hf ⟨q,f⟩ (Bh h q))
theorem td {B0 B bs X:List (List AV)} {Rw rows:List RowA} {L:List LoopA} {l:List (Nat × Nat × Own)} {c:Code} (hN:M0.N=B0.length) (hNR:M0.NR=Rw.length) (hNL:M0.NL=L.length) (hc:Calm B0.length Rw.length L.length ⟨B,Rw,L⟩) (ho:Owns Rw rows l)
  (h:Eb P w0 n M0 W0 ro c Q e ⟨B++bs,rows,L⟩) (hB:B.length=B0.length:=by first | rfl | simp only [List.length_set])
  (hbs:∀ cs∈bs,∀ x∈cs,Under (B0.length+bs.length) rows.length L.length x:=by (simp +decide only [go_sem,Nat.reduceAdd])<;>(try (repeat' apply Ae))<;>first | omega | assumption)
  (he:Jn (B0.length+bs.length) rows.length L.length e:=by (simp +decide only [go_sem,Nat.reduceAdd,Jn])<;>(try (repeat' apply Ae))<;>first | omega | assumption):Eb P w0 n M0 W0 ro c Q e ⟨B++(bs++X),rows,L⟩ :=
 A8 hN hNR hNL hB hc ho hbs he h
end
section
variable {P:Program} {w0:World} {n:Nat} {M0:Mem} {W0:World} {ro:Option Nat} {e:Env} {st:St} {Q:AQ}
theorem Zan (g:Nat) (x:AV) (hn:n≤1000000) {c:Code} (h:Eb P w0 n M0 W0 ro c Q ((2000000+g,false,x)::e) st):Eb P w0 n M0 W0 ro c Q e st :=
 I8 _ _ (fun M a w b=>⟨M,.refl _ _ _,b.st,b.size,fun s y hs=>by
  simp only [look] at hs
  by_cases q:2000000+g=s
  ·rw [Ai q] at hs
   cases hs
   have d:1000000≤s:=by rw [←q];omega
   simp only [entryOk,Bool.false_eq_true,if_false]
   rw [Array.getD_eq_getD_getElem?,Array.getElem?_eq_none (by rw [b.size];omega)]
   rfl
  ·rw [Aj q] at hs
   exact b.env s y hs⟩) h
theorem Ns (t:TypeId) (hn:n≤1000000) {c:Code} (h:Eb P w0 n M0 W0 ro c Q ((1000000+t,false,.junk)::e) st):Eb P w0 n M0 W0 ro c Q e st :=
 I8 _ _ (fun M a w b=>⟨M,.refl _ _ _,b.st,b.size,fun s x hs=>by
  simp only [look] at hs
  by_cases q:1000000+t=s
  ·rw [Ai q] at hs
   cases hs
   have d:1000000≤s:=by rw [←q];exact Nat.le_add_right _ _
   simp only [entryOk,Bool.false_eq_true,if_false]
   rw [Array.getD_eq_getD_getElem?,Array.getElem?_eq_none (by rw [b.size];omega)]
   rfl
  ·rw [Aj q] at hs
   exact b.env s x hs⟩) h
end
theorem rg {F p q:Prop} (L:List Nat) (f:F) (k:q) (h:Tg L→F→q→p:=by
  intro tL hs hq
  apply An;intro K hK
  refine J9 (c:=1) tg tL ?_
  rw [Ao];simp +decide only [go_sem,Nat.reduceAdd,hs]
  first | (refine hK _ _ ?_;exact hq) | ((repeat' apply Ae)<;>first | (refine hK _ _ ?_;exact hq) | (clear hq;exact cl))):p:=h tg f k
theorem rc {F p q:Prop} (c:Nat) (L:List Nat) (f:F) (k:q) (h:Tg c→Tg L→F→q→p:=by
  intro tc tL hs hq
  apply An;intro K hK
  refine J9 tc tL ?_
  rw [Ao];simp +decide only [go_sem,Nat.reduceAdd,hs]
  first | (refine Kp ?_;revert K;exact hq) | ((repeat' apply Ae)<;>first | (refine Kp ?_;revert K;exact hq) | (clear hq;exact cl))):p:=h tg tg f k
theorem nc {F p q:Prop} (f:F) (k:q) (h:F→q→p:=by
  intro hs hq
  rw [Ao];simp +decide only [go_sem,Nat.reduceAdd,hs]
  first | (refine Kp ?_;exact hq) | ((repeat' apply Ae)<;>first | (refine Kp ?_;exact hq) | (clear hq;exact cl))):p:=h f k
theorem ne {F p q:Prop} (f:F) {K:Env→St→Prop} {A:Env→St→Prop} (hK:∀ e s,A e s→K e s) (k:q) (h:F→(∀ e s,A e s→K e s)→q→p:=by
  intro hs hK hq
  rw [Ao];simp +decide only [go_sem,Nat.reduceAdd,hs]
  first | (refine hK _ _ ?_;exact hq) | ((repeat' apply Ae)<;>first | (refine hK _ _ ?_;exact hq) | (clear hq;exact cl))):p:=h f hK k
theorem dg {F p q:Prop} (m c1 c2:Nat) (L:List Nat) (f:F) {P:Program} (hm:P.follows .mixedOrders=true) (k:q) (h:Tg (m,c1,c2,L)→F→P.follows .mixedOrders=true→q→p:=by
  intro tt hs hm hq
  apply An;intro K hK
  refine S3 tt hm (by kernel_rfl) ?_
  rw [Ao];simp +decide only [go_sem,Nat.reduceAdd,hs]
  (repeat' with_reducible apply Ae)<;>first | (rw [Ao];simp +decide only [go_sem,Nat.reduceAdd,hs]) | (clear hq;exact cl)
  first | (refine hK _ _ ?_;exact hq) | ((repeat' apply Ae)<;>first | (refine hK _ _ ?_;exact hq) | (clear hq;exact cl))):p:=h tg f hm k
theorem sk {F p q:Prop} (L:List Nat) (f:F) {A K:Env→St→Prop} (hK:∀ e s,A e s→K e s) (k:q) (h:Tg L→F→(∀ e s,A e s→K e s)→q→p:=by
  intro tL hs hK hq
  refine UE tL ?_
  apply BI;simp +decide only [go_sem,Nat.reduceAdd]
  first | (refine hK _ _ ?_;exact hq) | ((repeat' apply Ae)<;>first | (refine hK _ _ ?_;exact hq) | (clear hq;exact cl))):p:=h tg f hK k
theorem sx {F p q:Prop} (L:List Nat) (f:F) {A K:Env→St→Prop} (hK:∀ e s,A e s→K e s) (k:q) (h:Tg L→F→(∀ e s,A e s→K e s)→q→p:=by
  intro tL hs hK hq
  refine UE tL ?_
  apply E4;simp +decide only [go_sem,Nat.reduceAdd]
  first | (refine hK _ _ ?_;exact hq) | ((repeat' apply Ae)<;>first | (refine hK _ _ ?_;exact hq) | (clear hq;exact cl))):p:=h tg f hK k
theorem rl {F p q:Prop} (L:List Nat) (f:F) {A K:Env→St→Prop} (hK:∀ e s,A e s→K e s) (k:q) (h:Tg L→F→(∀ e s,A e s→K e s)→q→p:=by
  intro tL hs hK hq
  refine J9 (c:=1) tg tL ?_
  rw [Ao];simp +decide only [go_sem,Nat.reduceAdd,hs]
  first | (refine hK _ _ ?_;exact hq) | ((repeat' apply Ae)<;>first | (refine hK _ _ ?_;exact hq) | (clear hq;exact cl))):p:=h tg f hK k
theorem rk {F p q:Prop} (c:Nat) (L:List Nat) (f:F) (k:q) (h:Tg c→Tg L→F→q→p:=by
  intro tc tL hs hq
  refine J9 tc tL ?_
  rw [Ao];simp +decide only [go_sem,Nat.reduceAdd,hs]
  first | (refine Kp ?_;exact hq) | ((repeat' apply Ae)<;>first | (refine Kp ?_;exact hq) | (clear hq;exact cl))):p:=h tg tg f k
theorem hd {P:Program} {w0:World} {f:FuncId} {fn:Func} {c:Code} {n:Nat} {args:List AV} {B:List (List AV)} {Rw:List RowA} {L:List LoopA} {Post:AV→St→Prop} (rs:List ResultVar) (hf:P.funcs[f]? = some fn) (hn:fn.ntmps=n)
  (k:∀ (M0:Mem) (W0:World),M0.N=B.length→M0.NR=Rw.length→M0.NL=L.length→Calm B.length Rw.length L.length ⟨B,Rw,L⟩→(∀ x∈args,Under B.length Rw.length L.length x)→Owns Rw Rw []→(0:Nat)=0 →
   Eb P w0 n M0 W0 none c (ZeR P rs (finP ⟨B,Rw,L⟩ Post)) (AB 0 args) ⟨B,Rw,L⟩)
  (hb:fn.body=some c:=by rfl) (hrs:fn.results=rs.toArray:=by rfl) (hm:fn.name ≠ "runtime.NumGoroutine" := by decide) (ha:args.length≤n:=by exact Nat.le_of_ble_eq_true rfl):ACalls P w0 f args ⟨B,Rw,L⟩ Post :=
 ACalls.finP (B6 (rs:=rs) hf hb hrs hn (AL hf (by rw [hb];rfl) hm) ha fun M0 W0 a d g e b=>k M0 W0 a d g e b (Owns.none Rw) rfl)
theorem ix {α β:Type} {l:List α} {i:Int} {F:α→Option β} {r:β} (g:α→AV) (h:(BJ l i).bind F=some r):∃ x,0≤i∧i<l.length∧(l.map g).getD i.toNat .junk=g x∧F x=some r:=by
 obtain ⟨x,d,h⟩:=bind_some h
 obtain ⟨a,b,c⟩:=AY d
 exact ⟨x,a,b,AO c,h⟩
abbrev Ck (e:Env) (st:St) (B:Aq) (Rw:Aw) (L:Av) (e0:Env) (bs:Aq) (ow:List (Nat × Nat × Own)) (c:Prop):Prop :=
 ∃ (X:Aq) (rows:Aw),e=e0∧st=⟨B++(bs++X),rows,L⟩∧Owns Rw rows ow∧c
end Go.Ev
namespace Go.Proofs
open Go.Shelf
def Tryz.laysM171_ren:Go.Shelf.Ren:=⟨fun | 171=>134 | 243=>206 | 246=>272 | 283=>315 | 284=>316 | 285=>317 | 286=>318 | 129=>299 | 317=>344 | 318=>345 | 319=>346 | 320=>347 | 337=>364 | 338=>365 | n=>n,fun | 3=>3 | 9=>9 | 2=>2 | 4=>4 | 171=>315 | 0=>0 | 53=>301 | 37=>167 | 5=>5 | 173=>317 | 212=>339 | 51=>299 | 20=>20 | 213=>340 | 46=>231 | 232=>360 | 233=>361 | n=>n,fun | 17=>4 | 18=>7 | 19=>8 | n=>n⟩
theorem Tryz.laysM171:Go.Proofs.LaysM.n171 Tryz.prog Tryz.laysM171_ren:={
 mixed:=by kernel_rfl
 f129:=Tryz.func299.trans (congrArg some (by kernel_rfl))
 f171:=Tryz.func134.trans (congrArg some (by kernel_rfl))
 f243:=Tryz.func206.trans (congrArg some (by kernel_rfl))
 f246:=Tryz.func272.trans (congrArg some (by kernel_rfl))
 f283:=Tryz.func315.trans (congrArg some (by kernel_rfl))
 f284:=Tryz.func316.trans (congrArg some (by kernel_rfl))
 f285:=Tryz.func317.trans (congrArg some (by kernel_rfl))
 f286:=Tryz.func318.trans (congrArg some (by kernel_rfl))
 f317:=Tryz.func344.trans (congrArg some (by kernel_rfl))
 f318:=Tryz.func345.trans (congrArg some (by kernel_rfl))
 f319:=Tryz.func346.trans (congrArg some (by kernel_rfl))
 f320:=Tryz.func347.trans (congrArg some (by kernel_rfl))
 f337:=Tryz.func364.trans (congrArg some (by kernel_rfl))
 f338:=Tryz.func365.trans (congrArg some (by kernel_rfl))
 t0:=Tryz.underlying0
 a0:=Tryz.isAgg0
 z0:=Tryz.sizeOf0
 v0:=Tryz.zeroValue0
 t2:=Tryz.underlying2
 a2:=Tryz.isAgg2
 z2:=Tryz.sizeOf2
 v2:=Tryz.zeroValue2
 t3:=Tryz.underlying3
 a3:=Tryz.isAgg3
 z3:=Tryz.sizeOf3
 v3:=Tryz.zeroValue3
 t4:=Tryz.underlying4
 a4:=Tryz.isAgg4
 z4:=Tryz.sizeOf4
 v4:=Tryz.zeroValue4
 t5:=Tryz.underlying5
 a5:=Tryz.isAgg5
 z5:=Tryz.sizeOf5
 v5:=Tryz.zeroValue5
 t9:=Tryz.underlying9
 a9:=Tryz.isAgg9
 z9:=Tryz.sizeOf9
 v9:=Tryz.zeroValue9
 t20:=Tryz.underlying20
 a20:=Tryz.isAgg20
 z20:=Tryz.sizeOf20
 v20:=Tryz.zeroValue20
 t37:=Tryz.underlying167
 a37:=Tryz.isAgg167
 z37:=Tryz.sizeOf167
 v37:=Tryz.zeroValue167
 t46:=Tryz.underlying231
 a46:=Tryz.isAgg231
 z46:=Tryz.sizeOf231
 v46:=Tryz.zeroValue231
 t51:=Tryz.underlying299
 a51:=Tryz.isAgg299
 z51:=Tryz.sizeOf299
 v51:=Tryz.zeroValue299
 t53:=Tryz.underlying301
 a53:=Tryz.isAgg301
 z53:=Tryz.sizeOf301
 v53:=Tryz.zeroValue301
 t171:=Tryz.underlying315
 a171:=Tryz.isAgg315
 z171:=Tryz.sizeOf315
 v171:=Tryz.zeroValue315
 t173:=Tryz.underlying317
 a173:=Tryz.isAgg317
 z173:=Tryz.sizeOf317
 v173:=Tryz.zeroValue317
 t212:=Tryz.underlying339
 a212:=Tryz.isAgg339
 z212:=Tryz.sizeOf339
 v212:=Tryz.zeroValue339
 t213:=Tryz.underlying340
 a213:=Tryz.isAgg340
 z213:=Tryz.sizeOf340
 t232:=Tryz.underlying360
 a232:=Tryz.isAgg360
 z232:=Tryz.sizeOf360
 v232:=Tryz.zeroValue360
 t233:=Tryz.underlying361
 a233:=Tryz.isAgg361
 z233:=Tryz.sizeOf361
 v233:=Tryz.zeroValue361
 g17:=by kernel_rfl
 g18:=by kernel_rfl
 g19:=by kernel_rfl
 i0:=by kernel_rfl
 i2:=by kernel_rfl
 i3:=by kernel_rfl
 i4:=by kernel_rfl
 i5:=by kernel_rfl
 i9:=by kernel_rfl
 i20:=by kernel_rfl
 i37:=by kernel_rfl
 i46:=by kernel_rfl
 i51:=by kernel_rfl
 i53:=by kernel_rfl
 i171:=by kernel_rfl
 i173:=by kernel_rfl
 i212:=by kernel_rfl
 i232:=by kernel_rfl
 i233:=by kernel_rfl
 m17:=by kernel_rfl
 m18:=by kernel_rfl
 m19:=by kernel_rfl }
def Tryz.laysValid_ren:Go.Shelf.Ren:=⟨fun | 196=>222 | 259=>279 | n=>n,fun | 9=>9 | 4=>4 | 3=>3 | 5=>5 | 12=>12 | 119=>279 | 0=>0 | 46=>231 | 139=>282 | 138=>281 | 53=>301 | n=>n,fun | 3=>2 | 4=>3 | n=>n⟩
theorem Tryz.laysValid:Go.Proofs.Lays.n196 Tryz.prog Tryz.laysValid_ren:={
 mixed:=by kernel_rfl
 f196:=Tryz.func222.trans (congrArg some (by kernel_rfl))
 f259:=Tryz.func279.trans (congrArg some (by kernel_rfl))
 t0:=Tryz.underlying0
 a0:=Tryz.isAgg0
 z0:=Tryz.sizeOf0
 v0:=Tryz.zeroValue0
 t3:=Tryz.underlying3
 a3:=Tryz.isAgg3
 z3:=Tryz.sizeOf3
 v3:=Tryz.zeroValue3
 t4:=Tryz.underlying4
 a4:=Tryz.isAgg4
 z4:=Tryz.sizeOf4
 v4:=Tryz.zeroValue4
 t5:=Tryz.underlying5
 a5:=Tryz.isAgg5
 z5:=Tryz.sizeOf5
 v5:=Tryz.zeroValue5
 t9:=Tryz.underlying9
 a9:=Tryz.isAgg9
 z9:=Tryz.sizeOf9
 v9:=Tryz.zeroValue9
 t12:=Tryz.underlying12
 a12:=Tryz.isAgg12
 z12:=Tryz.sizeOf12
 v12:=Tryz.zeroValue12
 t46:=Tryz.underlying231
 a46:=Tryz.isAgg231
 z46:=Tryz.sizeOf231
 v46:=Tryz.zeroValue231
 t53:=Tryz.underlying301
 a53:=Tryz.isAgg301
 z53:=Tryz.sizeOf301
 v53:=Tryz.zeroValue301
 t119:=Tryz.underlying279
 a119:=Tryz.isAgg279
 z119:=Tryz.sizeOf279
 t138:=Tryz.underlying281
 a138:=Tryz.isAgg281
 z138:=Tryz.sizeOf281
 v138:=Tryz.zeroValue281
 t139:=Tryz.underlying282
 a139:=Tryz.isAgg282
 z139:=Tryz.sizeOf282
 v139:=Tryz.zeroValue282
 g3:=by kernel_rfl
 g4:=by kernel_rfl }
end Go.Proofs
namespace Go.Proofs.YtmcnjijeocmkgaaGreatDoor
open Go Go.RowKit Go.Ev
@[go_sem] theorem ZkZ:FU Tryz.prog 103=none∧FU Tryz.prog 113=none∧FU Tryz.prog 124=none∧FU Tryz.prog 129=none∧FU Tryz.prog 132=none∧FU Tryz.prog 146=none∧FU Tryz.prog 153=none∧FU Tryz.prog 165=none∧FU Tryz.prog 167=none∧FU Tryz.prog 189=some (11,1,false)∧FU Tryz.prog 22=none∧FU Tryz.prog 23=none:=by (repeat' apply Ae)<;>kernel_rfl
@[go_sem] theorem Zmn:FU Tryz.prog 24=none∧FU Tryz.prog 258=none∧FU Tryz.prog 259=some (11,8,true)∧FU Tryz.prog 26=none∧FU Tryz.prog 31=none∧FU Tryz.prog 32=none∧FU Tryz.prog 34=none∧FU Tryz.prog 47=none∧FU Tryz.prog 49=none∧FU Tryz.prog 63=none∧FU Tryz.prog 65=none∧FU Tryz.prog 67=none:=by (repeat' apply Ae)<;>kernel_rfl
@[go_sem] theorem Zl5:FU Tryz.prog 71=none∧FU Tryz.prog 73=none∧FU Tryz.prog 81=none∧FU Tryz.prog 83=none∧FU Tryz.prog 87=none∧FU Tryz.prog 9=none∧FU Tryz.prog 95=none∧Nn Tryz.prog 4=true∧KN Tryz.prog 167=true∧KN Tryz.prog 21=false∧KN Tryz.prog 231=false∧KN Tryz.prog 3=false:=by (repeat' apply Ae)<;>kernel_rfl
@[go_sem] theorem ZbY:Mc Tryz.prog 113=some (146,3,true,32):=by kernel_rfl
@[go_sem] theorem M7:Mc Tryz.prog 22=some (9,1,false,16):=by kernel_rfl
@[go_sem] theorem Y2:Mc Tryz.prog 23=some (26,7,true,104):=by kernel_rfl
@[go_sem] theorem VM:Mc Tryz.prog 24=some (95,11,true,160):=by kernel_rfl
@[go_sem] theorem Nh:Mc Tryz.prog 31=some (34,6,true,88):=by kernel_rfl
@[go_sem] theorem Zfj:Mc Tryz.prog 32=some (81,7,true,104):=by kernel_rfl
@[go_sem] theorem ZaO:Mc Tryz.prog 47=some (67,6,true,96):=by kernel_rfl
@[go_sem] theorem Zby:Mc Tryz.prog 63=some (65,5,true,80):=by kernel_rfl
@[go_sem] theorem SA:Mc Tryz.prog 71=some (113,1,false,24):=by kernel_rfl
@[go_sem] theorem Zjt:Mc Tryz.prog 73=some (49,1,true,24):=by kernel_rfl
@[go_sem] theorem Zlp:KN Tryz.prog 9=false∧Mc Tryz.prog 129=some (41,1,false,8)∧Mc Tryz.prog 165=some (3,1,false,8)∧Mc Tryz.prog 167=some (5,1,false,1)∧Mc Tryz.prog 189=none∧Mc Tryz.prog 259=none∧Mc Tryz.prog 83=some (87,2,true,24)∧Mc Tryz.prog 9=none:=by (repeat' apply Ae)<;>kernel_rfl
@[go_sem] theorem ZfW (xs ys:List AV):Oq Tryz.prog .eql 146 xs ys=(obK [(some .i64,false),(some .i64,false),(none,true)] xs ys,Oo xs ys):=Xb (by kernel_rfl) xs ys
@[go_sem] theorem ZgI (xs ys:List AV):Oq Tryz.prog .neq 146 xs ys=(obK [(some .i64,false),(some .i64,false),(none,true)] xs ys,!Oo xs ys):=ZcZ (by kernel_rfl) xs ys
@[go_sem] theorem Zg8 (xs ys:List AV):Oq Tryz.prog .eql 87 xs ys=(obK [(none,true),(some .i64,false)] xs ys,Oo xs ys):=Xb (by kernel_rfl) xs ys
@[go_sem] theorem ZjC:C0 Tryz.prog 124 1=some (1,1,false)∧C0 Tryz.prog 132 2=some (8,1,false)∧C0 Tryz.prog 146 0=some (0,1,false)∧C0 Tryz.prog 146 1=some (1,1,false)∧C0 Tryz.prog 146 2=some (2,1,false)∧C0 Tryz.prog 258 1=some (1,1,false)∧C0 Tryz.prog 258 2=some (2,1,false)∧C0 Tryz.prog 258 3=some (3,1,false)∧C0 Tryz.prog 258 4=some (4,1,false)∧C0 Tryz.prog 258 5=some (5,1,false)∧C0 Tryz.prog 258 6=some (6,1,false)∧C0 Tryz.prog 258 7=some (7,1,false):=by (repeat' apply Ae)<;>kernel_rfl
@[go_sem] theorem Zkk:C0 Tryz.prog 26 0=some (0,1,false)∧C0 Tryz.prog 26 1=some (1,1,false)∧C0 Tryz.prog 26 2=some (2,1,false)∧C0 Tryz.prog 26 3=some (3,1,false)∧C0 Tryz.prog 26 4=some (4,1,false)∧C0 Tryz.prog 26 5=some (5,1,false)∧C0 Tryz.prog 26 6=some (6,1,false)∧C0 Tryz.prog 28 0=some (0,7,true)∧C0 Tryz.prog 28 1=some (7,7,true)∧C0 Tryz.prog 34 0=some (0,1,false)∧C0 Tryz.prog 34 1=some (1,1,false)∧C0 Tryz.prog 34 2=some (2,1,false):=by (repeat' apply Ae)<;>kernel_rfl
@[go_sem] theorem Zks:C0 Tryz.prog 34 3=some (3,1,false)∧C0 Tryz.prog 34 4=some (4,1,false)∧C0 Tryz.prog 34 5=some (5,1,false)∧C0 Tryz.prog 49 0=some (0,1,false)∧C0 Tryz.prog 65 0=some (0,1,false)∧C0 Tryz.prog 65 1=some (1,1,false)∧C0 Tryz.prog 65 2=some (2,1,false)∧C0 Tryz.prog 65 3=some (3,1,false)∧C0 Tryz.prog 65 4=some (4,1,false)∧C0 Tryz.prog 67 0=some (0,1,false)∧C0 Tryz.prog 67 1=some (1,5,true)∧C0 Tryz.prog 75 0=some (0,1,false):=by (repeat' apply Ae)<;>kernel_rfl
@[go_sem] theorem Zkr:C0 Tryz.prog 75 1=some (1,1,false)∧C0 Tryz.prog 81 0=some (0,1,false)∧C0 Tryz.prog 81 1=some (1,6,true)∧C0 Tryz.prog 95 0=some (0,1,false)∧C0 Tryz.prog 95 1=some (1,1,false)∧C0 Tryz.prog 95 2=some (2,1,false)∧C0 Tryz.prog 95 3=some (3,7,true)∧C0 Tryz.prog 95 4=some (10,1,false)∧OG Tryz.prog 167=none∧OG Tryz.prog 21=some .i32∧OG Tryz.prog 231=some .u64∧OG Tryz.prog 3=some .i64:=by (repeat' apply Ae)<;>kernel_rfl
@[go_sem] theorem ZmJ:OG Tryz.prog 9=none∧CZ Tryz.prog 103=some [(0,1),(1,1)]∧CZ Tryz.prog 124=some [(0,1),(1,1),(2,7)]∧CZ Tryz.prog 132=some [(0,1),(1,7),(8,1)]∧CZ Tryz.prog 146=some [(0,1),(1,1),(2,1)]∧CZ Tryz.prog 153=some []∧CZ Tryz.prog 189=none∧CZ Tryz.prog 258=some [(0,1),(1,1),(2,1),(3,1),(4,1),(5,1),(6,1),(7,1)]∧CZ Tryz.prog 259=none∧CZ Tryz.prog 26=some [(0,1),(1,1),(2,1),(3,1),(4,1),(5,1),(6,1)]∧CZ Tryz.prog 34=some [(0,1),(1,1),(2,1),(3,1),(4,1),(5,1)]∧CZ Tryz.prog 49=some [(0,1)]:=by (repeat' apply Ae)<;>kernel_rfl
@[go_sem] theorem ZjX:CZ Tryz.prog 65=some [(0,1),(1,1),(2,1),(3,1),(4,1)]∧CZ Tryz.prog 67=some [(0,1),(1,5)]∧CZ Tryz.prog 81=some [(0,1),(1,6)]∧CZ Tryz.prog 87=some [(0,1),(1,1)]∧CZ Tryz.prog 95=some [(0,1),(1,1),(2,1),(3,7),(10,1)]∧EK Tryz.prog 113=false∧EK Tryz.prog 129=false∧EK Tryz.prog 165=false∧EK Tryz.prog 167=false∧EK Tryz.prog 189=false∧EK Tryz.prog 21=false∧EK Tryz.prog 22=false:=by (repeat' apply Ae)<;>kernel_rfl
@[go_sem] theorem ZlY:EK Tryz.prog 23=false∧EK Tryz.prog 231=false∧EK Tryz.prog 24=false∧EK Tryz.prog 259=false∧EK Tryz.prog 3=false∧EK Tryz.prog 31=false∧EK Tryz.prog 32=false∧EK Tryz.prog 47=false∧EK Tryz.prog 63=false∧EK Tryz.prog 71=false∧EK Tryz.prog 73=false∧EK Tryz.prog 83=false:=by (repeat' apply Ae)<;>kernel_rfl
@[go_sem] theorem ZmK:EK Tryz.prog 9=true∧HY Tryz.prog 103=some (2,true)∧HY Tryz.prog 109=some (1,false)∧HY Tryz.prog 113=some (1,false)∧HY Tryz.prog 122=some (1,false)∧HY Tryz.prog 142=some (1,false)∧HY Tryz.prog 146=some (3,true)∧HY Tryz.prog 152=some (1,false)∧HY Tryz.prog 153=some (0,true)∧HY Tryz.prog 158=some (1,false)∧HY Tryz.prog 189=some (11,true)∧HY Tryz.prog 215=some (1,false):=by (repeat' apply Ae)<;>kernel_rfl
@[go_sem] theorem ZmB:HY Tryz.prog 22=some (1,false)∧HY Tryz.prog 23=some (1,false)∧HY Tryz.prog 24=some (1,false)∧HY Tryz.prog 253=some (1,false)∧HY Tryz.prog 258=some (8,true)∧HY Tryz.prog 259=some (88,true)∧HY Tryz.prog 26=some (7,true)∧HY Tryz.prog 28=some (14,true)∧HY Tryz.prog 3=some (1,false)∧HY Tryz.prog 31=some (1,false)∧HY Tryz.prog 32=some (1,false)∧HY Tryz.prog 34=some (6,true):=by (repeat' apply Ae)<;>kernel_rfl
@[go_sem] theorem tyT_4:HY Tryz.prog 4=some (1,false)∧HY Tryz.prog 41=some (1,false)∧HY Tryz.prog 47=some (1,false)∧HY Tryz.prog 49=some (1,true)∧HY Tryz.prog 5=some (1,false)∧HY Tryz.prog 63=some (1,false)∧HY Tryz.prog 65=some (5,true)∧HY Tryz.prog 67=some (6,true)∧HY Tryz.prog 71=some (1,false)∧HY Tryz.prog 73=some (1,false)∧HY Tryz.prog 75=some (2,true)∧HY Tryz.prog 81=some (7,true):=by (repeat' apply Ae)<;>kernel_rfl
@[go_sem] theorem LA:Br Tryz.prog 113=some [.list [] .full]:=by kernel_rfl
@[go_sem] theorem XS:Br Tryz.prog 146=some [Am 0,Am 0,.val (.string ⟨#[]⟩)]:=by kernel_rfl
@[go_sem] theorem ZmC:HY Tryz.prog 83=some (1,false)∧HY Tryz.prog 87=some (2,true)∧HY Tryz.prog 9=some (1,false)∧HY Tryz.prog 95=some (11,true)∧Br Tryz.prog 103=some [.val .nilFunc,.val (.bool false)]∧Br Tryz.prog 122=some [.val (.pointer none)]∧Br Tryz.prog 124=some [.list [] .full,.list [] .full,Am 0,Am 0,Am 0,Am 0,.list [] .full,.list [] .full,.list [] .full]∧Br Tryz.prog 132=some [.list [] .full,Am 0,Am 0,Am 0,Am 0,.list [] .full,.list [] .full,.list [] .full,.val (.bool false)]∧Br Tryz.prog 142=some [.val .nilFunc]∧Br Tryz.prog 152=some [.val (.map none)]∧Br Tryz.prog 153=some []∧Br Tryz.prog 189=some [.val .nilFunc,.val .nilFunc,.val .nilFunc,.val .nilFunc,.val .nilFunc,.val .nilFunc,.val .nilFunc,.val .nilFunc,.val .nilFunc,.val .nilFunc,.val .nilFunc]:=by (repeat' apply Ae)<;>kernel_rfl
@[go_sem] theorem QY:Br Tryz.prog 26=some [Am 0,Am 0,Am 0,Am 0,.list [] .full,.list [] .full,.list [] .full]:=by kernel_rfl
@[go_sem] theorem HV:Br Tryz.prog 34=some [Am 0,Am 0,Am 0,.val (.string ⟨#[]⟩),.list [] .full,.list [] .full]:=by kernel_rfl
@[go_sem] theorem Zfc:Br Tryz.prog 49=some [.list [] .full]:=by kernel_rfl
@[go_sem] theorem Va:Br Tryz.prog 65=some [Am 0,Am 0,.val (.string ⟨#[]⟩),.list [] .full,.list [] .full]:=by kernel_rfl
@[go_sem] theorem V5:Br Tryz.prog 67=some [.val (.string ⟨#[]⟩),Am 0,Am 0,.val (.string ⟨#[]⟩),.list [] .full,.list [] .full]:=by kernel_rfl
@[go_sem] theorem Zt:Br Tryz.prog 81=some [.val (.string ⟨#[]⟩),Am 0,Am 0,Am 0,.val (.string ⟨#[]⟩),.list [] .full,.list [] .full]:=by kernel_rfl
@[go_sem] theorem JV:Br Tryz.prog 9=some [.val (.string ⟨#[]⟩)]:=by kernel_rfl
@[go_sem] theorem OQ:Br Tryz.prog 95=some [Am 0,.val (.string ⟨#[]⟩),Am 0,Am 0,Am 0,Am 0,Am 0,.list [] .full,.list [] .full,.list [] .full,.list [] .full]:=by kernel_rfl
@[go_sem] theorem Zkh:Br Tryz.prog 215=some [.val .nilFunc]∧Br Tryz.prog 22=some [.list [] .full]∧Br Tryz.prog 253=some [.val .nilFunc]∧Br Tryz.prog 258=some [.val (.string ⟨#[]⟩),Am 0,Am 0,.val (.bool false),.val (.bool false),.val (.bool false),.val (.bool false),.val (.bool false)]∧Br Tryz.prog 259=some [.val (.string ⟨#[]⟩),Am 0,Am 0,.val (.bool false),.val (.bool false),.val (.bool false),.val (.bool false),.val (.bool false),.val (.string ⟨#[]⟩),Am 0,Am 0,.val (.bool false),.val (.bool false),.val (.bool false),.val (.bool false),.val (.bool false),.val (.string ⟨#[]⟩),Am 0,Am 0,.val (.bool false),.val (.bool false),.val (.bool false),.val (.bool false),.val (.bool false),.val (.string ⟨#[]⟩),Am 0,Am 0,.val (.bool false),.val (.bool false),.val (.bool false),.val (.bool false),.val (.bool false),.val (.string ⟨#[]⟩),Am 0,Am 0,.val (.bool false),.val (.bool false),.val (.bool false),.val (.bool false),.val (.bool false),.val (.string ⟨#[]⟩),Am 0,Am 0,.val (.bool false),.val (.bool false),.val (.bool false),.val (.bool false),.val (.bool false),.val (.string ⟨#[]⟩),Am 0,Am 0,.val (.bool false),.val (.bool false),.val (.bool false),.val (.bool false),.val (.bool false),.val (.string ⟨#[]⟩),Am 0,Am 0,.val (.bool false),.val (.bool false),.val (.bool false),.val (.bool false),.val (.bool false),.val (.string ⟨#[]⟩),Am 0,Am 0,.val (.bool false),.val (.bool false),.val (.bool false),.val (.bool false),.val (.bool false),.val (.string ⟨#[]⟩),Am 0,Am 0,.val (.bool false),.val (.bool false),.val (.bool false),.val (.bool false),.val (.bool false),.val (.string ⟨#[]⟩),Am 0,Am 0,.val (.bool false),.val (.bool false),.val (.bool false),.val (.bool false),.val (.bool false)]∧Br Tryz.prog 3=some [Am 0]∧Br Tryz.prog 4=some [.val (.bool false)]∧Br Tryz.prog 41=some [Am 0]∧Br Tryz.prog 71=some [.list [] .full]∧Br Tryz.prog 83=some [.list [] .full]∧Br Tryz.prog 87=some [.val (.string ⟨#[]⟩),Am 0]:=by (repeat' apply Ae)<;>kernel_rfl
theorem QQ:Tryz.prog.follows .mixedOrders=true:=by kernel_rfl
inductive Vl where
 | mk (kind int scale:Int) (text:ByteArray) (list:List Vl) (fields:List (ByteArray × Vl))
inductive Ty where
 | mk (kind min max scale:Int) (words:List ByteArray) (elem:List Ty) (fields:List (Int × ByteArray × Int × Ty × List Vl))
abbrev MI:List AV:=[Am 0,Am 0,Am 0,.val (.string ⟨#[]⟩),.list [] .full,.list [] .full]
namespace Vl
def kind:Vl→Int | mk k _ _ _ _ _=>k
def int:Vl→Int | mk _ i _ _ _ _=>i
def scale:Vl→Int | mk _ _ s _ _ _=>s
def text:Vl→ByteArray | mk _ _ _ t _ _=>t
def list:Vl→List Vl | mk _ _ _ _ l _=>l
def fields:Vl→List (ByteArray × Vl) | mk _ _ _ _ _ f=>f
end Vl
mutual
def Vl.size:Vl→Nat
 | .mk _ _ _ _ l f=>1+EL l+Fg f
def EL:List Vl→Nat
 | []=>0
 | v::r=>v.size+EL r
def Fg:List (ByteArray × Vl)→Nat
 | []=>0
 | (_,v)::r=>v.size+Fg r
end
mutual
def Vl.cs:Vl→List AV
 | .mk k i s t l f=>[.val (.int .i64 k),.val (.int .i64 i),.val (.int .i64 s),.val (.string t),.list (EU l) .none,.list (KY f) .none]
def EU:List Vl→List AV
 | []=>[]
 | v::r => .agg v.cs::EU r
def KY:List (ByteArray × Vl)→List AV
 | []=>[]
 | (n,v)::r => .agg (.val (.string n)::v.cs)::KY r
end
mutual
def Ty.size:Ty→Nat
 | .mk _ _ _ _ _ e f=>1+GI e+EI f
def GI:List Ty→Nat
 | []=>0
 | t::r=>t.size+GI r
def EI:List (Int × ByteArray × Int × Ty × List Vl)→Nat
 | []=>0
 | (_,_,_,t,_)::r=>t.size+EI r
end
mutual
def Ty.cs:Ty→List AV
 | .mk k lo hi s w e f=>[.val (.int .i64 k),.val (.int .i64 lo),.val (.int .i64 hi),.val (.int .i64 s),.list (w.map fun x => .val (.string x)) .none,.list (Og e) .none,.list (Jy f) .none]
def Og:List Ty→List AV
 | []=>[]
 | t::r => .agg t.cs::Og r
def Jy:List (Int × ByteArray × Int × Ty × List Vl)→List AV
 | []=>[]
 | (n,s,d,t,l)::r => .agg (.val (.int .i64 n) :: .val (.string s) :: .val (.int .i64 d)::(t.cs++[.list (EU l) .none]))::Jy r
end
theorem FR:∀ l:List Vl,EU l=l.map fun v => .agg v.cs
 | []=>rfl
 | v::r=>by simp [EU,FR r]
theorem Po:∀ l:List (ByteArray × Vl),KY l=l.map fun p => .agg (.val (.string p.1)::p.2.cs)
 | []=>rfl
 | (n,v)::r=>by simp [KY,Po r]
@[go_sem] theorem RH (l:List Vl):(EU l).length=l.length:=by simp [FR]
@[go_sem] theorem Za (l:List (ByteArray × Vl)):(KY l).length=l.length:=by simp [Po]
theorem SY:∀ l:List Ty,Og l=l.map fun v => .agg v.cs
 | []=>rfl
 | v::r=>by simp [Og,SY r]
theorem Qc:∀ l:List (Int × ByteArray × Int × Ty × List Vl),Jy l=l.map fun p => .agg (Am p.1 :: .val (.string p.2.1)::Am p.2.2.1::(p.2.2.2.1.cs++[.list (EU p.2.2.2.2) .none]))
 | []=>rfl
 | (n,s,d,t,l)::r=>by simp [Jy,Qc r]
@[go_sem] theorem Zhj (l:List Ty):(Og l).length=l.length:=by simp [SY]
@[go_sem] theorem Zf3 (l:List (Int × ByteArray × Int × Ty × List Vl)):(Jy l).length=l.length:=by simp [Qc]
theorem Vl.cs_eq (v:Vl):v.cs=[.val (.int .i64 v.kind),.val (.int .i64 v.int),.val (.int .i64 v.scale),.val (.string v.text),.list (EU v.list) .none,.list (KY v.fields) .none]:=by cases v;rfl
@[go_sem] theorem Vl.cs_length (v:Vl):v.cs.length=6:=by cases v;rfl
@[go_sem] theorem Vl.cs_pub (v:Vl):v.cs.map AV.pubCell=v.cs:=by cases v;rfl
mutual
theorem Vl.under (nb nr nl:Nat):∀ v:Vl,∀ x∈v.cs,Under nb nr nl x
 | .mk k i s t l f=>by
  intro x a
  simp only [Vl.cs,List.mem_cons,List.not_mem_nil,or_false] at a
  rcases a with rfl | rfl | rfl | rfl | rfl | rfl
  ·exact .val _
  ·exact .val _
  ·exact .val _
  ·exact .val _
  ·exact .list (J5 nb nr nl l) trivial
  ·exact .list (MU nb nr nl f) trivial
theorem J5 (nb nr nl:Nat):∀ l:List Vl,∀ x∈EU l,Under nb nr nl x
 | []=>fun _ h=>by simp [EU] at h
 | v::r=>by
  intro x hx
  simp only [EU,List.mem_cons] at hx
  rcases hx with rfl | hx
  ·exact .agg (Vl.under nb nr nl v)
  ·exact J5 nb nr nl r x hx
theorem MU (nb nr nl:Nat):∀ l:List (ByteArray × Vl),∀ x∈KY l,Under nb nr nl x
 | []=>fun _ h=>by simp [KY] at h
 | (n,v)::r=>by
  intro x hx
  simp only [KY,List.mem_cons] at hx
  rcases hx with rfl | hx
  ·refine .agg fun y hy=>?_
   rcases List.mem_cons.1 hy with rfl | hy
   ·exact .val _
   ·exact Vl.under nb nr nl v y hy
  ·exact MU nb nr nl r x hx
end
mutual
theorem Ty.under (nb nr nl:Nat):∀ v:Ty,∀ x∈v.cs,Under nb nr nl x
 | .mk k lo hi s w e f=>by
  intro x a
  simp only [Ty.cs,List.mem_cons,List.not_mem_nil,or_false] at a
  rcases a with rfl | rfl | rfl | rfl | rfl | rfl | rfl
  ·exact .val _
  ·exact .val _
  ·exact .val _
  ·exact .val _
  ·refine .list (fun y b=>?_) trivial
   obtain ⟨z,_,rfl⟩:=List.mem_map.1 b
   exact .val _
  ·exact .list (Pg nb nr nl e) trivial
  ·exact .list (Lj nb nr nl f) trivial
theorem Pg (nb nr nl:Nat):∀ l:List Ty,∀ x∈Og l,Under nb nr nl x
 | []=>fun _ h=>by simp [Og] at h
 | v::r=>by
  intro x hx
  simp only [Og,List.mem_cons] at hx
  rcases hx with rfl | hx
  ·exact .agg (Ty.under nb nr nl v)
  ·exact Pg nb nr nl r x hx
theorem Lj (nb nr nl:Nat):∀ l:List (Int × ByteArray × Int × Ty × List Vl),∀ x∈Jy l,Under nb nr nl x
 | []=>fun _ h=>by simp [Jy] at h
 | (n,s,d,t,l)::r=>by
  intro x hx
  simp only [Jy,List.mem_cons] at hx
  rcases hx with rfl | hx
  ·refine .agg fun y hy=>?_
   simp only [List.mem_cons,List.mem_append,List.not_mem_nil,or_false] at hy
   rcases hy with rfl | rfl | rfl | hy | rfl
   ·exact .val _
   ·exact .val _
   ·exact .val _
   ·exact Ty.under nb nr nl t y hy
   ·exact .list (J5 nb nr nl l) trivial
  ·exact Lj nb nr nl r x hx
end
@[go_sem] theorem ZlD (nb nr nl:Nat) (v:Vl):Under nb nr nl (.agg v.cs)↔True:=iff_true_intro (.agg (v.under nb nr nl))
@[go_sem] theorem ZkH (nb nr nl:Nat) (v:Ty):Under nb nr nl (.agg v.cs)↔True:=iff_true_intro (.agg (v.under nb nr nl))
@[go_sem] theorem Zi2 (nb nr nl:Nat) (l:List Vl):(∀ x∈EU l,Under nb nr nl x)↔True:=iff_true_intro (J5 nb nr nl l)
@[go_sem] theorem ZiD (nb nr nl:Nat) (l:List (ByteArray × Vl)):(∀ x∈KY l,Under nb nr nl x)↔True:=iff_true_intro (MU nb nr nl l)
@[go_sem] theorem Ziw (nb nr nl:Nat) (l:List Ty):(∀ x∈Og l,Under nb nr nl x)↔True:=iff_true_intro (Pg nb nr nl l)
@[go_sem] theorem ZhI (nb nr nl:Nat) (l:List (Int × ByteArray × Int × Ty × List Vl)):(∀ x∈Jy l,Under nb nr nl x)↔True:=iff_true_intro (Lj nb nr nl l)
theorem Ty.cs_eq (t:Ty):∃ k lo hi s w e f,t = .mk k lo hi s w e f:=by cases t;exact ⟨_,_,_,_,_,_,_,rfl⟩
@[go_sem] theorem Ty.cs_length (v:Ty):v.cs.length=7:=by cases v;rfl
@[go_sem] theorem Ty.cs_pub (v:Ty):v.cs.map AV.pubCell=v.cs:=by cases v;rfl
namespace Ty
def kind:Ty→Int | mk k _ _ _ _ _ _=>k
def min:Ty→Int | mk _ m _ _ _ _ _=>m
def max:Ty→Int | mk _ _ m _ _ _ _=>m
def scale:Ty→Int | mk _ _ _ s _ _ _=>s
def words:Ty→List ByteArray | mk _ _ _ _ w _ _=>w
def elem:Ty→List Ty | mk _ _ _ _ _ e _=>e
def fields:Ty→List (Int × ByteArray × Int × Ty × List Vl) | mk _ _ _ _ _ _ f=>f
end Ty
section
variable (v:Vl) (t:Ty) (x d:AV) (l:List AV)
@[go_sem] theorem Vl.g0:v.cs.getD 0 d = .val (.int .i64 v.kind):=by cases v;rfl
@[go_sem] theorem Vl.g1:v.cs.getD 1 d = .val (.int .i64 v.int):=by cases v;rfl
@[go_sem] theorem Vl.g2:v.cs.getD 2 d = .val (.int .i64 v.scale):=by cases v;rfl
@[go_sem] theorem Vl.g3:v.cs.getD 3 d = .val (.string v.text):=by cases v;rfl
@[go_sem] theorem Vl.g4:v.cs.getD 4 d = .list (EU v.list) .none:=by cases v;rfl
@[go_sem] theorem Vl.g5:v.cs.getD 5 d = .list (KY v.fields) .none:=by cases v;rfl
@[go_sem] theorem Vl.take6:v.cs.take 6=v.cs:=by cases v;rfl
@[go_sem] theorem Vl.take6a:(v.cs++l).take 6=v.cs:=by cases v;rfl
@[go_sem] theorem Ty.g0:t.cs.getD 0 d = .val (.int .i64 t.kind):=by cases t;rfl
@[go_sem] theorem Ty.g1:t.cs.getD 1 d = .val (.int .i64 t.min):=by cases t;rfl
@[go_sem] theorem Ty.g2:t.cs.getD 2 d = .val (.int .i64 t.max):=by cases t;rfl
@[go_sem] theorem Ty.g3:t.cs.getD 3 d = .val (.int .i64 t.scale):=by cases t;rfl
@[go_sem] theorem Ty.g4:t.cs.getD 4 d = .list (t.words.map fun x => .val (.string x)) .none:=by cases t;rfl
@[go_sem] theorem Ty.g5:t.cs.getD 5 d = .list (Og t.elem) .none:=by cases t;rfl
@[go_sem] theorem Ty.g6:t.cs.getD 6 d = .list (Jy t.fields) .none:=by cases t;rfl
@[go_sem] theorem Ty.take7:t.cs.take 7=t.cs:=by cases t;rfl
@[go_sem] theorem Ty.a0:(t.cs++l).getD 0 d = .val (.int .i64 t.kind):=by cases t;rfl
@[go_sem] theorem Ty.a1:(t.cs++l).getD 1 d = .val (.int .i64 t.min):=by cases t;rfl
@[go_sem] theorem Ty.a2:(t.cs++l).getD 2 d = .val (.int .i64 t.max):=by cases t;rfl
@[go_sem] theorem Ty.a3:(t.cs++l).getD 3 d = .val (.int .i64 t.scale):=by cases t;rfl
@[go_sem] theorem Ty.a4:(t.cs++l).getD 4 d = .list (t.words.map fun x => .val (.string x)) .none:=by cases t;rfl
@[go_sem] theorem Ty.a5:(t.cs++l).getD 5 d = .list (Og t.elem) .none:=by cases t;rfl
@[go_sem] theorem Ty.a6:(t.cs++l).getD 6 d = .list (Jy t.fields) .none:=by cases t;rfl
@[go_sem] theorem Ty.a7:(t.cs++[x]).getD 7 d=x:=by cases t;rfl
@[go_sem] theorem Ty.take7a:(t.cs++l).take 7=t.cs:=by cases t;rfl
@[go_sem] theorem Ty.take8a:(t.cs++[x]).take 8=t.cs++[x]:=by cases t;rfl
@[go_sem] theorem Ty.drop7a:(t.cs++l).drop 7=l:=by cases t;rfl
attribute [go_sem] List.length_append List.map_append
end
end Go.Proofs.YtmcnjijeocmkgaaGreatDoor
namespace Go.Proofs.YtmcnjijeocmkgaaGreatDoor
open Go Go.RowKit Go.Ev
theorem Zb6 (t:ByteArray):Fv t ⟨#[]⟩=decide (t.size=0):=by
 by_cases h:t.size=0
 ·have:t=⟨#[]⟩:=by
   obtain ⟨⟨l⟩⟩:=t
   simp [ByteArray.size] at h
   subst h;rfl
  subst this
  rfl
 ·simp only [h,decide_false]
  obtain ⟨⟨l⟩⟩:=t
  simp [ByteArray.size] at h
  simp [Fv,h]
theorem Ri (w0:World) (B:Aq) (Rw:Aw) (L:Av) (n low high:Int) :
  ACalls Tryz.prog w0 251 [Am n,Am low,Am high] ⟨B,Rw,L⟩ fun r st=>r = .val (.bool (decide (low≤n)&&decide (n≤high)))∧st=⟨B,Rw,L⟩:=by
 refine ACalls.finP (B6 (rs:=[.tmp 6]) Tryz.func251 rfl rfl Tryz.ntmps251 (AL Tryz.func251 rfl (by decide)) (Nat.le_of_ble_eq_true rfl) ?_)
 intro M0 W0 f e d a g
 simp only [AB]
 apply An;intro K1 c
 apply Ap 1 [0,1,2]
 rw [Ao];simp +decide only [go_sem]
 (repeat' apply Ae)<;>first | refine c _ _ ?_ | exact cl
 clear c
 apply An;intro K2 b
 apply Ap 1 [6]
 rw [Ao];simp +decide only [go_sem]
 (repeat' apply Ae)<;>first | refine b _ _ ?_ | exact cl
 clear b
 apply AM;simp +decide only [go_sem]
 refine RF a pf pf pf (by simp +decide only [go_sem]) ⟨?_,rfl⟩
 rfl
def MQ (c:Nat):Bool:=decide (97≤c)&&decide (c≤122)
def Ve (c:Nat):Bool:=MQ c||decide (c=95)||(decide (48≤c)&&decide (c≤57))
def Zch (l:List UInt8):Bool:=decide (1≤l.length∧l.length≤32)&&MQ (l.headD 0).toNat&&l.all fun c=>Ve c.toNat
def FZ (s:ByteArray):Bool:=Zch s.data.toList
theorem VN (s:ByteArray) (k:Nat) (h:k<s.size):s.get! k=s.data.toList[k]'(by simpa using h):=by
 rw [Utf8W.get!_of_lt s k h];rfl
theorem Zfs (s:ByteArray) (f:UInt8→Bool) (k:Nat) (h:k<s.size):(s.data.toList.drop k).all f=(f (s.get! k)&&(s.data.toList.drop (k+1)).all f):=by
 rw [List.drop_eq_getElem_cons (by simpa using h),VN s k h];rfl
theorem Zfi (s:ByteArray) (h:0<s.size):s.data.toList.headD 0=s.get! 0:=by
 rw [VN s 0 h]
 have b:0<s.data.toList.length:=by simpa using h
 have:∀ (l:List UInt8) (q:0<l.length),l.headD 0=l[0]:=fun l q=>by
  cases l with
  | nil=>simp at q
  | cons a l=>rfl
 exact this _ b
theorem Zda (s:ByteArray) (k:Nat) (h:k<s.size):(Hg s.data.toList).getD k .junk = .val (.int .u8 (s.get! k).toNat):=by
 have a:s.data.toList.length=s.size:=by simp
 rw [VN s k h]
 simp [Hg,a,h,List.getD]
theorem YI (s:ByteArray):(Hg s.data.toList).length=s.size:=by
 have a:s.data.toList.length=s.size:=by simp
 simp [Hg,a]
theorem Zdw (c:Nat):Ve c=decide ((97≤(c:Int)∧(c:Int)≤122)∨(c:Int)=95∨(48≤(c:Int)∧(c:Int)≤57)):=by
 rw [Bool.eq_iff_iff]
 simp [Ve,MQ]
 omega
theorem Tc (c:Nat):MQ c=decide (97≤(c:Int)∧(c:Int)≤122):=by
 rw [Bool.eq_iff_iff]
 simp [MQ]
 omega
theorem Vy (s:ByteArray) (h1:1≤s.size) (h2:s.size≤32):FZ s=(MQ (s.get! 0).toNat&&s.data.toList.all fun c=>Ve c.toNat):=by
 have a:s.data.toList.length=s.size:=by simp
 rw [FZ,Zch,Ad,Zfi s h1];rfl
theorem Zbd (s:ByteArray) (h:¬ (1≤s.size∧s.size≤32)):FZ s=false:=by
 have a:s.data.toList.length=s.size:=by simp
 rw [FZ,Zch,Ac];rfl
theorem PQ (w0:World) (B:Aq) (Rw:Aw) (L:Av) (s:ByteArray) (hs:s.size≤maxLen) :
  ACalls Tryz.prog w0 198 [.val (.string s)] ⟨B,Rw,L⟩ fun r st=>r = .val (.bool (FZ s))∧st=⟨B,Rw,L⟩:=by
 refine ACalls.finP (B6 (rs:=[.tmp 2]) Tryz.func198 rfl rfl Tryz.ntmps198 (AL Tryz.func198 rfl (by decide)) (Nat.le_of_ble_eq_true rfl) ?_)
 intro M0 W0 Q H G b O
 unfold maxLen at hs
 have F:s.data.toList.length=s.size:=by simp
 have f:=Zb6 s
 obtain ⟨d,hd⟩:∃ d,(s.get! 0).toNat=d:=⟨_,rfl⟩
 have a:=YI s
 simp only [AB]
 apply An;intro K1 z
 apply Ap 1 [0]
 rw [Ao];simp +decide only [go_sem,hd,a,f]
 (repeat' apply Ae)<;>first | refine z _ _ ?_ | exact cl
 clear z
 apply An;intro K2 q
 apply An;intro K3 t
 apply Ap 1 [0,21]
 rw [Ao];simp +decide only [go_sem,hd,a,f]
 (repeat' apply Ae)<;>first | refine t _ _ ?_ | exact cl
 clear t
 refine AN _ (by simp +decide only [go_sem]) (by simp +decide only [go_sem];rfl) (fun g=>?_) (fun g=>?_)
 ·simp only [Bool.or_eq_true,Bool.or_eq_false_iff,Bool.and_eq_true,Bool.and_eq_false_iff,decide_eq_true_eq,decide_eq_false_iff_not,Bool.not_eq_true',Bool.not_eq_false',Bool.not_eq_eq_eq_not,Bool.not_true,Bool.not_false] at g
  apply An;intro K4 D
  apply Ap 1 [2]
  rw [Ao];simp +decide only [go_sem,hd,a,f]
  (repeat' apply Ae)<;>first | refine D _ _ ?_ | exact cl
  clear D
  apply AM;simp +decide only [go_sem]
  refine RF b pf pf pf (by simp +decide only [go_sem]) ⟨?_,rfl⟩
  rw [V9]
  congr 2
  symm
  by_cases hz:1≤s.size∧s.size≤32
  ·rw [Vy s hz.1 hz.2,hd,Tc,Ac];rfl
  ·exact Zbd s hz
 simp only [Bool.or_eq_true,Bool.or_eq_false_iff,Bool.and_eq_true,Bool.and_eq_false_iff,decide_eq_true_eq,decide_eq_false_iff_not,Bool.not_eq_true',Bool.not_eq_false',Bool.not_eq_eq_eq_not,Bool.not_true,Bool.not_false] at g
 have J:1≤s.size∧s.size≤32∧97≤d∧d≤122:=by omega
 clear g
 have h:MQ d=true:=by rw [Tc];exact Ah (by omega)
 apply BI;simp only [go_sem]
 (repeat' apply Ae)<;>first | refine q _ _ ?_ | exact cl
 clear q
 apply An;intro K5 C
 apply An;intro K6 y
 apply Ap 1 [23,24,25]
 rw [Ao];simp +decide only [go_sem,hd,a,f]
 (repeat' apply Ae)<;>first | refine y _ _ ?_ | exact cl
 clear y
 apply Ar
 refine Az (fun m e st=>∃ k:Nat,k≤s.size∧m=s.size-k∧MQ d=true∧(s.data.toList.all fun c=>Ve c.toNat)=((s.data.toList.drop k).all fun c=>Ve c.toNat)∧e=[(23,true,.list (Hg s.data.toList) .none),(24,true,Am s.size),(25,true,Am k)]∧st=⟨B,Rw,L⟩) s.size ⟨0,by omega,rfl,by assumption,rfl,rfl,rfl⟩ ?_
 rintro m e st ⟨k,N,rfl,K,p,rfl,rfl⟩ KR E
 obtain ⟨c,hc⟩:∃ c,(s.get! k).toNat=c:=⟨_,rfl⟩
 obtain ⟨x,hn1⟩:∃ x,(Hg s.data.toList).getD k .junk=x:=⟨_,rfl⟩
 apply An;intro K7 w
 apply Ap 1 [23,24,25,26]
 rw [Ao];simp +decide only [go_sem,hn1,a]
 (repeat' apply Ae)<;>first | refine w _ _ ?_ | exact cl
 clear w
 apply An;intro K8 v
 refine AN _ (by simp +decide only [go_sem]) (by simp +decide only [go_sem];rfl) (fun g=>?_) (fun g=>?_)
 rotate_left
 ·simp only [Bool.or_eq_true,Bool.or_eq_false_iff,Bool.and_eq_true,Bool.and_eq_false_iff,decide_eq_true_eq,decide_eq_false_iff_not,Bool.not_eq_true',Bool.not_eq_false',Bool.not_eq_eq_eq_not,Bool.not_true,Bool.not_false] at g
  apply E4;simp +decide only [go_sem,hn1,a]
  (repeat' apply Ae)<;>first | refine C _ _ ?_ | exact cl
  clear C
  apply An;intro K9 u
  apply Ap 1 [2]
  rw [Ao];simp +decide only [go_sem,hn1,a]
  (repeat' apply Ae)<;>first | refine u _ _ ?_ | exact cl
  clear u
  apply AM;simp +decide only [go_sem]
  refine RF b pf pf pf (by simp +decide only [go_sem]) ⟨?_,rfl⟩
  rw [V9]
  have:k=s.size:=by omega
  subst this
  rw [Vy s (by omega) (by omega),hd,h,p,List.drop_eq_nil_of_le (by omega)];rfl
 simp only [Bool.or_eq_true,Bool.or_eq_false_iff,Bool.and_eq_true,Bool.and_eq_false_iff,decide_eq_true_eq,decide_eq_false_iff_not,Bool.not_eq_true',Bool.not_eq_false',Bool.not_eq_eq_eq_not,Bool.not_true,Bool.not_false] at g
 have i:=Zfs s (fun c=>Ve c.toNat) k (by omega)
 simp only [hc] at i
 rw [Zdw c] at i
 have hn2:=Zda s k (by omega)
 rw [hn1,hc] at hn2
 subst hn2
 apply BI;simp only [go_sem]
 (repeat' apply Ae)<;>first | refine v _ _ ?_ | exact cl
 clear v
 apply An;intro K10 l
 apply Ar
 apply An;intro K11 j
 apply Ap 1 [4,23,24,25]
 rw [Ao];simp +decide only [go_sem,hn1,a]
 (repeat' apply Ae)<;>first | refine j _ _ ?_ | exact cl
 clear j
 apply An;intro K12 o
 apply Ap 1 [23,24,25,46]
 rw [Ao];simp +decide only [go_sem,hn1,a]
 (repeat' apply Ae)<;>first | refine o _ _ ?_ | exact cl
 clear o
 refine AN _ (by simp +decide only [go_sem]) (by simp +decide only [go_sem];rfl) (fun g=>?_) (fun g=>?_)
 ·simp only [Bool.or_eq_true,Bool.or_eq_false_iff,Bool.and_eq_true,Bool.and_eq_false_iff,decide_eq_true_eq,decide_eq_false_iff_not,Bool.not_eq_true',Bool.not_eq_false',Bool.not_eq_eq_eq_not,Bool.not_true,Bool.not_false] at g
  apply An;intro K13 n
  apply Ap 1 [2]
  rw [Ao];simp +decide only [go_sem,hn1,a]
  (repeat' apply Ae)<;>first | refine n _ _ ?_ | exact cl
  clear n
  apply AM;simp +decide only [go_sem]
  refine RF b pf pf pf (by simp +decide only [go_sem]) ⟨?_,rfl⟩
  rw [V9]
  rw [Vy s (by omega) (by omega),hd,h,p,i,Ac];rfl
 simp only [Bool.or_eq_true,Bool.or_eq_false_iff,Bool.and_eq_true,Bool.and_eq_false_iff,decide_eq_true_eq,decide_eq_false_iff_not,Bool.not_eq_true',Bool.not_eq_false',Bool.not_eq_eq_eq_not,Bool.not_true,Bool.not_false] at g
 apply BI;simp only [go_sem]
 (repeat' apply Ae)<;>first | refine l _ _ ?_ | exact cl
 clear l
 apply Ap 1 [23,24,25]
 rw [Ao];simp +decide only [go_sem,hn1,a]
 (repeat' apply Ae)<;>first | refine E (s.size-(k+1)) _ _ ?_ ⟨k+1,?_,rfl,?_,?_,?_,rfl⟩ | exact cl
 ·omega
 ·omega
 ·exact h
 ·rw [p,i,Ad];rfl
 ·simp
def Zc {α:Type} (p:α→Bool) (l:List α):Int:=match l.findIdx? p with | some i=>(i:Int) | none => -1
theorem XT {α:Type} {p:α→Bool} {l:List α} {k:Nat} (hk:k<l.length) (h:p l[k]=true) (hb:∀ j (hj:j<k),p (l[j]'(by omega))=false):Zc p l=k:=by
 have:l.findIdx? p=some k:=by
  rw [List.findIdx?_eq_some_iff_getElem]
  exact ⟨hk,h,fun j hj=>by simp [hb j hj]⟩
 rw [Zc,this]
theorem Xi {α:Type} {p:α→Bool} {l:List α} (hb:∀ j (hj:j<l.length),p l[j]=false):Zc p l = -1:=by
 have:l.findIdx? p=none:=by
  rw [List.findIdx?_eq_none_iff]
  intro x a
  obtain ⟨j,hj,rfl⟩:=List.getElem_of_mem a
  exact hb j hj
 rw [Zc,this]
theorem ZcK (w0:World) (st:St) (hT:Lib.Utf8Tabs 2 3 w0) (s:ByteArray) (hs:s.size≤maxLen):ACalls Tryz.prog w0 222 [.val (.string s)] st fun v s'=>v = .val (.bool (Lib.validD s.data.toList))∧s'=st :=
 Lx (AL Tryz.func222 rfl (by decide)) rfl fun M w b c a=>by
  have:=Np (us:=[.string s]) a
  subst this
  exact Any.utf8_ValidString Tryz.laysValid s w hs (Utf8Tabs_below hT c)
def BS (v:Vl):List Vl:=if v.kind=8∨v.kind=10 then v.list else if v.kind=9 then v.fields.map (·.2) else []
@[go_sem] theorem ZiM (l:List Vl):(∀ y∈EU l,y.cells.length=6)↔True:=iff_true_intro (by
 rw [FR];intro y a
 obtain ⟨v,_,rfl⟩:=List.mem_map.1 a
 exact v.cs_length)
@[go_sem] theorem ZlG (l:List Vl):(∀ y∈EU l,y.cells.length=6∧A3 y=true)↔True:=iff_true_intro (by
 rw [FR];intro y a
 obtain ⟨v,_,rfl⟩:=List.mem_map.1 a
 exact ⟨v.cs_length,rfl⟩)
@[go_sem] theorem Zkc (l:List Vl):(EU l).map AV.pub=EU l:=by
 rw [FR,List.map_map]
 refine List.map_congr_left fun v _=>?_
 simp only [Function.comp,AV.pub,Vl.cs_pub]
theorem ZdH (l:List Vl) (k:Nat) (h:k<l.length):(EU l).getD k .junk = .agg (l[k]).cs:=by
 simp [FR,List.getD,h]
theorem Zc7 (l:List (ByteArray × Vl)) (k:Nat) (h:k<l.length):(KY l).getD k .junk = .agg (.val (.string (l[k]).1)::(l[k]).2.cs):=by
 simp [Po,List.getD,h]
theorem ZbU (l:List (ByteArray × Vl)) (k:Nat) (h:k<l.length):EU ((l.take (k+1)).map (·.2))=EU ((l.take k).map (·.2))++[.agg (l[k]).2.cs]:=by
 rw [FR,FR,List.take_succ_eq_append_getElem h,List.map_append,List.map_append];rfl
theorem ZC (l:List (ByteArray × Vl)) (k:Nat) (h:k≤l.length):(EU ((l.take k).map (·.2))).length=k:=by
 rw [RH,List.length_map,List.length_take];omega
theorem ZfR (w0:World) (B:Aq) (Rw:Aw) (L:Av) (v:Vl) (hl:v.list.length≤1000000000000) (hf:v.fields.length≤1000000000000) :
  ACalls Tryz.prog w0 280 [.agg v.cs] ⟨B,Rw,L⟩ fun r st=>r = .list (EU (BS v)) .none∧st=⟨B,Rw,L⟩:=by
 refine ACalls.finP (B6 (rs:=[.tmp 2]) Tryz.func280 rfl rfl Tryz.ntmps280 (AL Tryz.func280 rfl (by decide)) (Nat.le_of_ble_eq_true rfl) ?_)
 intro M0 W0 V O N b U
 have Q:=Za v.fields
 simp only [AB]
 apply An;intro K1 E
 apply Ap 1 [1]
 rw [Ao];simp +decide only [go_sem]
 (repeat' apply Ae)<;>first | refine E _ _ ?_ | exact cl
 clear E
 apply An;intro K2 w
 apply An;intro K3 y
 apply Ap 1 [1,7]
 rw [Ao];simp +decide only [go_sem]
 (repeat' apply Ae)<;>first | refine y _ _ ?_ | exact cl
 clear y
 apply Ar
 apply An;intro K4 f
 apply An;intro K5 F
 apply Ap 1 [1,7,8]
 rw [Ao];simp +decide only [go_sem]
 (repeat' apply Ae)<;>first | refine F _ _ ?_ | exact cl
 clear F
 refine AN _ (by simp +decide only [go_sem]) (by simp +decide only [go_sem];rfl) (fun a=>?_) (fun a=>?_)
 -- JOIN
 ·simp only [Bool.or_eq_true,Bool.or_eq_false_iff,Bool.and_eq_true,Bool.and_eq_false_iff,decide_eq_true_eq,decide_eq_false_iff_not,Bool.not_eq_true',Bool.not_eq_false',Bool.not_eq_eq_eq_not,Bool.not_true,Bool.not_false] at a
  apply BI;simp only [go_sem]
  (repeat' apply Ae)<;>first | refine f _ _ ?_ | exact cl
  clear f
  refine AN _ (by simp +decide only [go_sem]) (by simp +decide only [go_sem];rfl) (fun a=>?_) (fun a=>?_)
  ·simp only [Bool.or_eq_true,Bool.or_eq_false_iff,Bool.and_eq_true,Bool.and_eq_false_iff,decide_eq_true_eq,decide_eq_false_iff_not,Bool.not_eq_true',Bool.not_eq_false',Bool.not_eq_eq_eq_not,Bool.not_true,Bool.not_false] at a
   apply An;intro K6 D
   apply Ap 1 [2]
   rw [Ao];simp +decide only [go_sem]
   (repeat' apply Ae)<;>first | refine D _ _ ?_ | exact cl
   clear D
   apply AM;simp +decide only [go_sem]
   refine RF b pf pf pf ?_ ⟨?_,rfl⟩
   ·simp +decide only [go_sem]
   ·simp only [go_sem]
    rw [BS,Ab]
  simp only [Bool.or_eq_true,Bool.or_eq_false_iff,Bool.and_eq_true,Bool.and_eq_false_iff,decide_eq_true_eq,decide_eq_false_iff_not,Bool.not_eq_true',Bool.not_eq_false',Bool.not_eq_eq_eq_not,Bool.not_true,Bool.not_false] at a
  omega
 simp only [Bool.or_eq_true,Bool.or_eq_false_iff,Bool.and_eq_true,Bool.and_eq_false_iff,decide_eq_true_eq,decide_eq_false_iff_not,Bool.not_eq_true',Bool.not_eq_false',Bool.not_eq_eq_eq_not,Bool.not_true,Bool.not_false] at a
 apply Ap 1 [1,7,8]
 rw [Ao];simp +decide only [go_sem]
 (repeat' apply Ae)<;>first | refine f _ _ ?_ | exact cl
 clear f
 refine AN _ (by simp +decide only [go_sem]) (by simp +decide only [go_sem];rfl) (fun a=>?_) (fun a=>?_)
 ·simp only [Bool.or_eq_true,Bool.or_eq_false_iff,Bool.and_eq_true,Bool.and_eq_false_iff,decide_eq_true_eq,decide_eq_false_iff_not,Bool.not_eq_true',Bool.not_eq_false',Bool.not_eq_eq_eq_not,Bool.not_true,Bool.not_false] at a
  apply An;intro K17 q
  apply Ap 1 [2]
  rw [Ao];simp +decide only [go_sem]
  (repeat' apply Ae)<;>first | refine q _ _ ?_ | exact cl
  clear q
  apply AM;simp +decide only [go_sem]
  refine RF b pf pf pf ?_ ⟨?_,rfl⟩
  ·simp +decide only [go_sem]
  ·simp only [go_sem]
   rw [BS,Ab]
 simp only [Bool.or_eq_true,Bool.or_eq_false_iff,Bool.and_eq_true,Bool.and_eq_false_iff,decide_eq_true_eq,decide_eq_false_iff_not,Bool.not_eq_true',Bool.not_eq_false',Bool.not_eq_eq_eq_not,Bool.not_true,Bool.not_false] at a
 apply An;intro K18 h
 apply Ap 1 [1,13]
 rw [Ao];simp +decide only [go_sem]
 (repeat' apply Ae)<;>first | refine h _ _ ?_ | exact cl
 clear h
 refine AN _ (by simp +decide only [go_sem]) (by simp +decide only [go_sem];rfl) (fun a=>?_) (fun a=>?_)
 ·simp only [Bool.or_eq_true,Bool.or_eq_false_iff,Bool.and_eq_true,Bool.and_eq_false_iff,decide_eq_true_eq,decide_eq_false_iff_not,Bool.not_eq_true',Bool.not_eq_false',Bool.not_eq_eq_eq_not,Bool.not_true,Bool.not_false] at a
  apply An;intro K19 j
  apply Ap 1 [1,3]
  rw [Ao];simp +decide only [go_sem]
  (repeat' apply Ae)<;>first | refine j _ _ ?_ | exact cl
  clear j
  apply An;intro K20 g
  apply An;intro K21 p
  apply Ap 1 [3,16,17,18]
  rw [Ao];simp +decide only [go_sem]
  (repeat' apply Ae)<;>first | refine p _ _ ?_ | exact cl
  clear p
  apply Ar
  refine Az (fun m e st=>∃ (k:Nat) (o:Ev.Own) (r:Aw) (X:Aq),k≤v.fields.length∧m=v.fields.length-k∧Grow Rw 6 (EU ((v.fields.take k).map (·.2))) o r ∧
   e=[(3,true,.list (EU ((v.fields.take k).map (·.2))) o),(16,true,.list (KY v.fields) .none),(17,true,Am v.fields.length),(18,true,Am k)]∧st=⟨B++X,Rw++r,L⟩) v.fields.length ⟨0,.full,[],[v.cs],by omega,rfl,.nil _ _,rfl,by simp⟩ ?_
  rintro m e st ⟨k,o,r,X,K,rfl,H,rfl,rfl⟩ KR G
  obtain ⟨x,hx⟩:∃ x,(KY v.fields).getD k .junk=x:=⟨_,rfl⟩
  have d:=WI (P:=Tryz.prog) Nh (by rw [HV];rfl) (by decide) H
  have c:=ZC v.fields k K
  apply An;intro K22 i
  apply Ap 1 [3,16,17,18,19]
  rw [Ao];simp +decide only [go_sem,hx,d,c]
  (repeat' apply Ae)<;>first | refine i _ _ ?_ | exact cl
  clear i
  apply An;intro K23 s
  refine AN _ (by simp +decide only [go_sem]) (by simp +decide only [go_sem];rfl) (fun a=>?_) (fun a=>?_)
  rotate_left
  ·simp only [Bool.or_eq_true,Bool.or_eq_false_iff,Bool.and_eq_true,Bool.and_eq_false_iff,decide_eq_true_eq,decide_eq_false_iff_not,Bool.not_eq_true',Bool.not_eq_false',Bool.not_eq_eq_eq_not,Bool.not_true,Bool.not_false] at a
   apply E4;simp +decide only [go_sem,hx,d,c]
   (repeat' apply Ae)<;>first | refine g _ _ ?_ | exact cl
   clear g
   apply An;intro K24 t
   apply Ap 1 [2]
   rw [Ao];simp +decide only [go_sem,hx,d,c]
   (repeat' apply Ae)<;>first | refine t _ _ ?_ | exact cl
   clear t
   apply AM;simp +decide only [go_sem]
   refine RF b pf pf pf ?_ ⟨?_,rfl⟩
   ·simp +decide only [go_sem]
   ·simp only [go_sem]
    rw [BS,Aa,Ab,List.take_of_length_le (by omega)]
  simp only [Bool.or_eq_true,Bool.or_eq_false_iff,Bool.and_eq_true,Bool.and_eq_false_iff,decide_eq_true_eq,decide_eq_false_iff_not,Bool.not_eq_true',Bool.not_eq_false',Bool.not_eq_eq_eq_not,Bool.not_true,Bool.not_false] at a
  have C:k<v.fields.length:=by omega
  have hx2:=Zc7 v.fields k C
  rw [hx] at hx2
  subst hx2
  have J:=ZbU v.fields k C
  have z:=ZC v.fields (k+1) (by omega)
  apply BI;simp only [go_sem]
  (repeat' apply Ae)<;>first | refine s _ _ ?_ | exact cl
  clear s
  apply An;intro K25 l
  apply Ar
  apply An;intro K26 n
  apply Ap 1 [3,5,16,17,18]
  rw [Ao];simp +decide only [go_sem,hx,d,c]
  (repeat' apply Ae)<;>first | refine n _ _ ?_ | exact cl
  clear n
  apply Ap 1 [3,16,17,18]
  rw [Ao];simp +decide only [go_sem,hx,d,c]
  (repeat' apply Ae)<;>first | refine l _ _ ?_ | exact cl
  clear l
  apply Ap 1 [3,16,17,18]
  rw [Ao];simp +decide only [go_sem,hx,d,c]
  (repeat' apply Ae)<;>first | refine G (v.fields.length-(k+1)) _ _ ?_ ⟨k+1,.row Rw.length,[.grow (k+1) 6],_,?_,rfl,.more _ _ _ _ z,?_,rfl⟩ | exact cl
  ·omega
  ·omega
  ·rw [J];simp
 simp only [Bool.or_eq_true,Bool.or_eq_false_iff,Bool.and_eq_true,Bool.and_eq_false_iff,decide_eq_true_eq,decide_eq_false_iff_not,Bool.not_eq_true',Bool.not_eq_false',Bool.not_eq_eq_eq_not,Bool.not_true,Bool.not_false] at a
 apply BI;simp only [go_sem]
 (repeat' apply Ae)<;>first | refine w _ _ ?_ | exact cl
 clear w
 apply An;intro K27 u
 apply Ap 1 [2]
 rw [Ao];simp +decide only [go_sem]
 (repeat' apply Ae)<;>first | refine u _ _ ?_ | exact cl
 clear u
 apply AM;simp +decide only [go_sem]
 refine RF b pf pf pf ?_ ⟨?_,rfl⟩
 ·simp +decide only [go_sem]
 ·simp only [go_sem]
  rw [BS,Aa,Aa];rfl
mutual
def GU (lv:Nat):Vl→List (Nat × Vl)
 | .mk k i s t l f=>(lv,.mk k i s t l f)::(if k=8∨k=10 then Zb4 (lv+1) l else if k=9 then Zcu (lv+1) f else [])
def Zb4 (lv:Nat):List Vl→List (Nat × Vl)
 | []=>[]
 | v::r=>GU lv v++Zb4 lv r
def Zcu (lv:Nat):List (ByteArray × Vl)→List (Nat × Vl)
 | []=>[]
 | (_,v)::r=>GU lv v++Zcu lv r
end
theorem Zj (lv:Nat):∀ l,Zb4 lv l=l.flatMap (GU lv)
 | []=>rfl
 | v::r=>by simp [Zb4,Zj lv r]
theorem Zal (lv:Nat):∀ l,Zcu lv l=(l.map (·.2)).flatMap (GU lv)
 | []=>rfl
 | (_,v)::r=>by simp [Zcu,Zal lv r]
theorem Rn (lv:Nat) (v:Vl):GU lv v=(lv,v)::(BS v).flatMap (GU (lv+1)):=by
 obtain ⟨k,i,s,t,l,f⟩:=v
 simp only [GU,BS,Vl.kind,Vl.list,Vl.fields,Zj,Zal]
 by_cases h1:k=8∨k=10
 ·simp only [h1,if_true]
 ·by_cases h2:k=9
  ·subst h2;simp
  ·simp only [h1,h2,if_false,List.flatMap_nil]
theorem XZ {α β:Type} (f:α→List β) (l:List α) (q:Nat) (h:q<l.length):((l.take (q+1)).flatMap f).length=((l.take q).flatMap f).length+(f l[q]).length:=by
 rw [List.take_succ_eq_append_getElem h,List.flatMap_append,List.length_append];simp
theorem Z2 {α β:Type} (f:α→List β) (l:List α) (q:Nat) (h:q<l.length) (j:Nat) (x:β) (hx:(f l[q])[j]? = some x):(l.flatMap f)[((l.take q).flatMap f).length+j]? = some x:=by
 have e:l=l.take q++l[q]::l.drop (q+1):=by rw [←List.drop_eq_getElem_cons h,List.take_append_drop]
 have a:l.flatMap f=(l.take q).flatMap f++(f l[q]++(l.drop (q+1)).flatMap f):=by
  conv=>lhs;rw [e]
  rw [List.flatMap_append,List.flatMap_cons]
 rw [a,List.getElem?_append_right (by omega),Nat.add_sub_cancel_left,List.getElem?_append_left (Ak.1 hx).1,hx]
theorem N8:∀ (l:List Vl) (v:Vl),v∈l→v.size≤EL l
 | [],_,h=>by simp at h
 | a::r,v,h=>by
  rcases List.mem_cons.1 h with rfl | h
  ·simp [EL]
  ·have:=N8 r v h
   simp [EL];omega
theorem NS:∀ (l:List (ByteArray × Vl)) (p:ByteArray × Vl),p∈l→p.2.size≤Fg l
 | [],_,h=>by simp at h
 | (n,a)::r,p,h=>by
  rcases List.mem_cons.1 h with rfl | h
  ·simp [Fg]
  ·have:=NS r p h
   simp [Fg];omega
theorem Vl.size_pos (v:Vl):0<v.size:=by cases v;simp [Vl.size];omega
theorem U8:∀ l:List Vl,l.length≤EL l
 | []=>Nat.le_refl _
 | v::r=>by have:=U8 r;have:=v.size_pos;simp [EL];omega
theorem Qs:∀ l:List (ByteArray × Vl),l.length≤Fg l
 | []=>Nat.le_refl _
 | (n,v)::r=>by have:=Qs r;have:=v.size_pos;simp [Fg];omega
theorem Vl.size_eq (v:Vl):v.size=1+EL v.list+Fg v.fields:=by cases v;simp [Vl.size,Vl.list,Vl.fields]
theorem Zc8 (v x:Vl) (h:x∈BS v):x.size<v.size:=by
 have e:=v.size_eq
 unfold BS at h
 split at h
 ·have:=N8 _ _ h;omega
 ·split at h
  ·obtain ⟨p,a,rfl⟩:=List.mem_map.1 h
   have:=NS _ _ a;omega
  ·simp at h
theorem Pz (v:Vl):v.list.length<v.size∧v.fields.length<v.size∧(BS v).length<v.size:=by
 have e:=v.size_eq
 have a:=U8 v.list
 have b:=Qs v.fields
 refine ⟨by omega,by omega,?_⟩
 unfold BS
 split
 ·omega
 ·split
  ·simp;omega
  ·simp;omega
mutual
def Vl.wide:Vl→Bool
 | .mk _ _ _ _ l f=>decide (l.length≤1000000000000)&&decide (f.length≤1000000000000)&&VS l&&VA f
def VS:List Vl→Bool
 | []=>true
 | v::r=>v.wide&&VS r
def VA:List (ByteArray × Vl)→Bool
 | []=>true
 | (_,v)::r=>v.wide&&VA r
end
theorem Ux:∀ l,VS l=true↔∀ v∈l,v.wide=true
 | []=>by simp [VS]
 | v::r=>by simp [VS,Ux r]
theorem UV:∀ l,VA l=true↔∀ p∈l,p.2.wide=true
 | []=>by simp [VA]
 | (n,v)::r=>by simp [VA,UV r]
theorem Vl.wide_iff (v:Vl):v.wide=true↔v.list.length≤1000000000000∧v.fields.length≤1000000000000∧(∀ x∈v.list,x.wide=true)∧∀ p∈v.fields,p.2.wide=true:=by
 cases v;simp only [Vl.wide,Bool.and_eq_true,decide_eq_true_eq,Ux,UV,Vl.list,Vl.fields,and_assoc]
theorem W5 {v x:Vl} (h:v.wide=true) (hx:x∈BS v):x.wide=true:=by
 obtain ⟨_,_,a,c⟩:=v.wide_iff.1 h
 unfold BS at hx
 split at hx
 ·exact a x hx
 ·split at hx
  ·obtain ⟨p,b,rfl⟩:=List.mem_map.1 hx
   exact c p b
  ·simp at hx
theorem Ht:∀ (k:Nat) (v:Vl),v.size≤k→v.size≤1000000000000→v.wide=true
 | 0,v,h,_=>by have:=v.size_pos;omega
 | k+1,v,h,h2=>by
  have e:=v.size_eq
  obtain ⟨a,b,_⟩:=Pz v
  refine v.wide_iff.2 ⟨by omega,by omega,fun x c=>?_,fun p d=>?_⟩
  ·have:=N8 _ _ c;exact Ht k x (by omega) (by omega)
  ·have:=NS _ _ d;exact Ht k p.2 (by omega) (by omega)
mutual
def Vl.depth:Vl→Nat
 | .mk _ _ _ _ l f=>1+max (MR l) (MW f)
def MR:List Vl→Nat
 | []=>0
 | t::r=>max t.depth (MR r)
def MW:List (ByteArray × Vl)→Nat
 | []=>0
 | (_,t)::r=>max t.depth (MW r)
end
theorem VI:∀ (l:List Vl) (d:Nat),MR l≤d↔∀ v∈l,v.depth≤d
 | [],d=>by simp [MR]
 | v::r,d=>by simp [MR,Nat.max_le,VI r d]
theorem VD:∀ (l:List (ByteArray × Vl)) (d:Nat),MW l≤d↔∀ v∈l,v.2.depth≤d
 | [],d=>by simp [MW]
 | (_,t)::r,d=>by simp [MW,Nat.max_le,VD r d]
theorem Vl.depth_eq (v:Vl):v.depth=1+Max.max (MR v.list) (MW v.fields):=by cases v;simp [Vl.depth,Vl.list,Vl.fields]
theorem ZbD {v x:Vl} (h:x∈BS v):x.depth<v.depth:=by
 have e:=v.depth_eq
 unfold BS at h
 split at h
 ·have:=(VI v.list _).1 (Nat.le_refl _) x h;omega
 ·split at h
  ·obtain ⟨p,a,rfl⟩:=List.mem_map.1 h
   have:=(VD v.fields _).1 (Nat.le_refl _) p a;omega
  ·simp at h
mutual
theorem Vl.depth_size:∀ v:Vl,v.depth≤v.size
 | .mk _ _ _ _ l f=>by have:=Ry l;have:=RE f;simp only [Vl.depth,Vl.size];omega
theorem Ry:∀ l:List Vl,MR l≤EL l
 | []=>Nat.le_refl _
 | v::r=>by have:=v.depth_size;have:=Ry r;simp only [MR,EL];omega
theorem RE:∀ l:List (ByteArray × Vl),MW l≤Fg l
 | []=>Nat.le_refl _
 | (_,v)::r=>by have:=v.depth_size;have:=RE r;simp only [MW,Fg];omega
end
def Zct (p:Nat × Vl):List AV:=[Am p.1,.agg p.2.cs]
def ZbJ (w0:World) (items:Aq) (k:Nat) (J:Nat→St→Prop) (Jx:St→Prop):Prop :=
 ∀ i SB SR SL x XB XL,J i ⟨SB,SR,SL⟩→items[i]? = some x→U4 Tryz.prog w0 k x ⟨SB++XB,SR,SL++XL⟩ fun r s'=>∃ TB TR TL b,r = .val (.bool b)∧s'=⟨TB++XB,TR,TL++XL⟩∧TB.length=SB.length∧SR.length≤TR.length∧TL.length=SL.length∧(b=true→J (i+1) ⟨TB,TR,TL⟩)∧(b=false→Jx ⟨TB,TR,TL⟩)
def Za7 (w0:World) (items:Aq) (k:Nat) (J:Nat→St→Prop) (Jx:St→Prop) (v:Vl):Prop :=
 ∀ (lv i:Nat) (lvi:Int) SB SR SL XB XL,lv+v.depth≤4611686018427387904→v.wide=true→J i ⟨SB,SR,SL⟩→lvi=lv→(∀ j x,(GU lv v)[j]? = some x→items[i+j]? = some (Zct x)) →
  ACalls Tryz.prog w0 230 [.agg v.cs,Am lvi,.yld k] ⟨SB++XB,SR,SL++XL⟩ fun r s'=>∃ TB TR TL XB' b,r = .val (.bool b)∧s'=⟨TB++(XB++XB'),TR,TL++XL⟩∧TB.length=SB.length∧SR.length≤TR.length∧TL.length=SL.length∧(b=true→J (i+(GU lv v).length) ⟨TB,TR,TL⟩)∧(b=false→Jx ⟨TB,TR,TL⟩)
theorem ZbR (w0:World) (items:Aq) (k:Nat) (J:Nat→St→Prop) (Jx:St→Prop) (hY:ZbJ w0 items k J Jx) (v:Vl) (ih:∀ x,x.size<v.size→Za7 w0 items k J Jx x):Za7 w0 items k J Jx v:=by
 intro d i ai SB SR SL XB XL aj g h0 hle C
 subst hle
 obtain ⟨s,y,_⟩:=v.wide_iff.1 g
 have ab:(BS v).length≤1000000000000:=by
  unfold BS
  split
  ·exact s
  ·split
   ·simpa using y
   ·simp
 refine B6 (rs:=[.tmp 6]) Tryz.func230 rfl rfl Tryz.ntmps230 (AL Tryz.func230 rfl (by decide)) (Nat.le_of_ble_eq_true rfl) ?_
 intro M0 W0 hN ah ag aa hu
 obtain ⟨af,ae,O⟩:=Pz v
 have f:=Rn d v
 have c:=RH (BS v)
 obtain ⟨ps,hpe⟩:∃ ps,BS v=ps:=⟨_,rfl⟩
 have F:items[i]? = some (Zct (d,v)):=by
  have:=C 0 (d,v) (by rw [f];rfl)
  simpa using this
 simp only [AB]
 apply An;intro K1 H
 apply Ap 1 [1,2,3]
 rw [Ao];simp +decide only [go_sem]
 (repeat' apply Ae)<;>first | refine H _ _ ?_ | exact cl
 clear H
 apply An;intro K2 t
 apply An;intro K3 w
 apply Ap 2 [1,2,3,13]
 rw [Ao];simp +decide only [go_sem]
 (repeat' apply Ae)<;>first | refine TC _ (fun _=>hY i SB SR SL _ (XB++[v.cs]) XL h0 F) (fun r s' hp _=>?_) | exact cl
 obtain ⟨TB,TR,TL,b,rfl,rfl,V,l2,l3,Y,hp2⟩:=hp rfl
 rw [←V]
 rw [Ao];simp +decide only [go_sem]
 (repeat' apply Ae)<;>first | refine w _ _ ?_ | exact cl
 clear w
 refine AN _ (by simp +decide only [go_sem]) (by simp +decide only [go_sem];rfl) (fun hb=>?_) (fun hb=>?_)
 ·simp only [Bool.not_eq_true'] at hb
  apply An;intro K4 N
  apply Ap 1 [6]
  rw [Ao];simp +decide only [go_sem]
  (repeat' apply Ae)<;>first | refine N _ _ ?_ | exact cl
  clear N
  apply AM;simp +decide only [go_sem]
  exact ⟨TB,TR,TL,[v.cs],false,rfl,rfl,V,l2,l3,fun h=>(by cases h),fun _=>hp2 hb⟩
 simp only [Bool.not_eq_false'] at hb
 apply BI;simp only [go_sem]
 (repeat' apply Ae)<;>first | refine t _ _ ?_ | exact cl
 clear t
 apply An;intro K5 K
 apply An;intro K6 G
 apply Ap 2 [1,2,15,16,17]
 rw [Ao];simp +decide only [go_sem]
 (repeat' apply Ae)<;>first | refine EW _ (ZfR w0 _ TR _ v s y) ?_ | exact cl
 rw [hpe] at c O ab f ⊢
 rw [Ao];simp +decide only [go_sem]
 (repeat' apply Ae)<;>first | refine G _ _ ?_ | exact cl
 clear G
 apply Ar
 refine Az (fun m e st=>∃ (q:Nat) (UB:Aq) (UR:Aw) (UL:Av) (XB':Aq),q≤ps.length∧m=ps.length-q∧J (i+1+((ps.take q).flatMap (GU (d+1))).length) ⟨UB,UR,UL⟩∧UB.length=SB.length∧SR.length≤UR.length∧UL.length=SL.length∧e=[(1,true,Am d),(2,true,.yld k),(15,true,.list (EU ps) .none),(16,true,Am ps.length),(17,true,Am q)]∧st=⟨UB++(XB++XB'),UR,UL++XL⟩) ps.length ⟨0,TB,TR,TL,[v.cs],by omega,rfl,by simpa using Y hb,V,l2,l3,rfl,by simp⟩ ?_
 rintro m e st ⟨q,UB,UR,UL,XB',hq,rfl,hj,m1,m2,m3,rfl,rfl⟩ KR U
 obtain ⟨x,hx⟩:∃ x,(EU ps).getD q .junk=x:=⟨_,rfl⟩
 apply An;intro K7 E
 apply Ap 1 [1,2,15,16,17,18]
 rw [Ao];simp +decide only [go_sem,hx,c]
 (repeat' apply Ae)<;>first | refine E _ _ ?_ | exact cl
 clear E
 apply An;intro K8 D
 refine AN _ (by simp +decide only [go_sem]) (by simp +decide only [go_sem];rfl) (fun hb=>?_) (fun hb=>?_)
 rotate_left
 ·simp only [Bool.or_eq_true,Bool.or_eq_false_iff,Bool.and_eq_true,Bool.and_eq_false_iff,decide_eq_true_eq,decide_eq_false_iff_not,Bool.not_eq_true',Bool.not_eq_false',Bool.not_eq_eq_eq_not,Bool.not_true,Bool.not_false] at hb
  apply E4;simp +decide only [go_sem,hx,c]
  (repeat' apply Ae)<;>first | refine K _ _ ?_ | exact cl
  clear K
  apply An;intro K9 z
  apply Ap 1 [6]
  rw [Ao];simp +decide only [go_sem,hx,c]
  (repeat' apply Ae)<;>first | refine z _ _ ?_ | exact cl
  clear z
  apply AM;simp +decide only [go_sem]
  refine ⟨UB,UR,UL,XB',true,rfl,rfl,m1,m2,m3,fun _=>?_,fun h=>(by cases h)⟩
  rw [List.take_of_length_le (by omega)] at hj
  rw [f,List.length_cons,show i+((ps.flatMap (GU (d+1))).length+1)=i+1+(ps.flatMap (GU (d+1))).length by omega]
  exact hj
 simp only [Bool.or_eq_true,Bool.or_eq_false_iff,Bool.and_eq_true,Bool.and_eq_false_iff,decide_eq_true_eq,decide_eq_false_iff_not,Bool.not_eq_true',Bool.not_eq_false',Bool.not_eq_eq_eq_not,Bool.not_true,Bool.not_false] at hb
 have a:q<ps.length:=by omega
 have hx2:=ZdH ps q a
 rw [hx] at hx2
 subst hx2
 have Z:=XZ (GU (d+1)) ps q a
 have u:∀ j x,(GU (d+1) (ps[q]'a))[j]? = some x→items[i+1+((ps.take q).flatMap (GU (d+1))).length+j]? = some (Zct x):=fun j x Q=>by
  have h1:=Z2 (GU (d+1)) ps q a j x Q
  have h2:=C (((ps.take q).flatMap (GU (d+1))).length+j+1) x (by rw [f,List.getElem?_cons_succ,h1])
  rw [show i+1+((ps.take q).flatMap (GU (d+1))).length+j=i+(((ps.take q).flatMap (GU (d+1))).length+j+1) by omega]
  exact h2
 apply BI;simp only [go_sem]
 (repeat' apply Ae)<;>first | refine D _ _ ?_ | exact cl
 clear D
 apply An;intro K10 n
 apply Ar
 apply An;intro K11 l
 apply Ap 1 [1,2,8,15,16,17]
 rw [Ao];simp +decide only [go_sem,hx,c]
 (repeat' apply Ae)<;>first | refine l _ _ ?_ | exact cl
 clear l
 apply An;intro K12 p
 apply Ap 2 [1,2,15,16,17,26]
 rw [Ao];simp +decide only [go_sem,hx,c]
 (repeat' apply Ae)<;>first | refine Vk _ (ih (ps[q]'a) (Zc8 v _ (by rw [hpe];exact List.getElem_mem a)) (d+1) _ _ UB UR UL (XB++(XB'++[(ps[q]'a).cs])) XL (by have:=ZbD (v:=v) (x:=ps[q]'a) (by rw [hpe];exact List.getElem_mem a);omega) (W5 g (by rw [hpe];exact List.getElem_mem a)) hj (by omega) u) ?_ | exact cl
 rintro r s' ⟨VB,VR,VL,XB2,b2,rfl,rfl,n1,n2,n3,ad,np2⟩
 rw [Ao];simp +decide only [go_sem,hx,c]
 (repeat' apply Ae)<;>first | refine p _ _ ?_ | exact cl
 clear p
 refine AN _ (by simp +decide only [go_sem]) (by simp +decide only [go_sem];rfl) (fun hb=>?_) (fun hb=>?_)
 ·simp only [Bool.not_eq_true'] at hb
  apply An;intro K13 o
  apply Ap 1 [6]
  rw [Ao];simp +decide only [go_sem,hx,c]
  (repeat' apply Ae)<;>first | refine o _ _ ?_ | exact cl
  clear o
  apply AM;simp +decide only [go_sem]
  exact ⟨VB,VR,VL,XB'++([(ps[q]'a).cs]++XB2),false,rfl,by simp,by omega,by omega,by omega,fun h=>(by cases h),fun _=>np2 hb⟩
 simp only [Bool.not_eq_false'] at hb
 apply BI;simp only [go_sem]
 (repeat' apply Ae)<;>first | refine n _ _ ?_ | exact cl
 clear n
 apply Ap 1 [1,2,15,16,17]
 rw [Ao];simp +decide only [go_sem,hx,c]
 (repeat' apply Ae)<;>first | refine U (ps.length-(q+1)) _ _ ?_ ⟨q+1,VB,VR,VL,XB'++([(ps[q]'a).cs]++XB2),?_,rfl,?_,?_,?_,?_,?_,?_⟩ | exact cl
 ·omega
 ·omega
 ·rw [Z];have:=ad hb;rwa [Nat.add_assoc (i+1)] at this
 ·omega
 ·omega
 ·omega
 ·simp
 ·simp
theorem Zar (w0:World) (items:Aq) (k:Nat) (J:Nat→St→Prop) (Jx:St→Prop) (hY:ZbJ w0 items k J Jx):∀ (n:Nat) (v:Vl),v.size≤n→Za7 w0 items k J Jx v
 | 0,v,h=>by have:=v.size_pos;omega
 | n+1,v,h=>ZbR w0 items k J Jx hY v fun x a=>Zar w0 items k J Jx hY n x (by omega)
def KU (v:Vl):List (List AV):=(GU 1 v).map Zct
theorem P3 (w0:World) (v:Vl) (hv:v.depth<4611686018427387904∧v.wide=true) (l:Nat):ZlE Tryz.prog w0 229 [.box l 0] (KU v) (fun st=>st.boxes[l]? = some v.cs):=by
 intro k J Jx E N G y
 have C:ZbJ w0 (KU v) k J (fun s=>Jx s):=by
  intro i SB SR SL x XB XL V m
  have:=N i ⟨SB,SR,SL⟩ x ⟨XB,[],XL⟩ rfl V m
  simp only [St.ext,List.append_nil] at this
  intro M w d K D
  obtain ⟨O,e,g,f,t,q⟩:=this M w d K D
  refine ⟨O,e,g,f,t,fun n=>(q n).mono ?_⟩
  intro en w' z
  refine z.mono ?_
  rintro r s ⟨⟨TB,TR,TL⟩,rfl,⟨q1,q2,q3⟩,hp⟩
  rcases hp with ⟨rfl,hp⟩ | ⟨rfl,hp⟩
  ·exact ⟨TB,TR,TL,true,rfl,rfl,q1,q2,q3,fun _=>hp,fun h=>(by cases h)⟩
  ·exact ⟨TB,TR,TL,false,rfl,rfl,q1,q2,q3,fun h=>(by cases h),fun _=>hp⟩
 obtain ⟨a,Q⟩:=E _ _ y
 obtain ⟨SB,SR,SL⟩:=G
 have U:l<SB.length:=(Ak.1 a).1
 have t:DW ⟨SB,SR,SL⟩ (.box l 0)=true:=by simp [DW,U]
 have q:Bi ⟨SB,SR,SL⟩ (.box l 0)=v.cs:=by
  simp only at a
  simp [Bi,List.getD,a]
 have c:=Zar w0 (KU v) k J Jx C v.size v (Nat.le_refl _) 1 0 1 SB SR SL [] [] (by omega) hv.2 y rfl (fun j x m=>by simp [KU,m])
 simp only [List.append_nil,List.nil_append,Nat.zero_add] at c
 refine B6 (rs:=[]) Tryz.func229 rfl rfl Tryz.ntmps229 (AL Tryz.func229 rfl (by decide)) (Nat.le_of_ble_eq_true rfl) ?_
 intro M0 W0 Z H F p Y
 simp only [AB]
 apply Ap 2 []
 rw [Ao];simp +decide only [go_sem,t,q]
 (repeat' apply Ae)<;>first | refine Vk _ c ?_ | exact cl
 rintro r s ⟨TB,TR,TL,XB',b,rfl,rfl,q1,q2,q3,o,u⟩
 rw [Ao];simp +decide only [go_sem]
 refine ⟨⟨TB,TR,TL⟩,⟨XB',[],[]⟩,rfl,by simp [St.ext],?_⟩
 cases b with
 | true=>exact .inl (by have:=o rfl;simpa [KU] using this)
 | false=>exact .inr (u rfl)
theorem P2 (v:Vl):(KU v).length=(GU 1 v).length:=by simp [KU]
theorem V8 (v:Vl) (i:Nat) (x:List AV) (h:(KU v)[i]? = some x):∃ p,(GU 1 v)[i]? = some p∧x=[Am p.1,.agg p.2.cs]∧i<(GU 1 v).length:=by
 simp only [KU,List.getElem?_map,Option.map_eq_some_iff] at h
 obtain ⟨p,a,rfl⟩:=h
 exact ⟨p,a,rfl,(Ak.1 a).1⟩
theorem UH (v:Vl) (x:List AV) (h:x∈KU v):x.length=2:=by
 obtain ⟨p,_,rfl⟩:=List.mem_map.1 h
 rfl
theorem Tm (w0:World) (B:Aq) (Rw:Aw) (L:Av) (v:Vl) :
  ACalls Tryz.prog w0 146 [.agg v.cs] ⟨B,Rw,L⟩ fun r st=>r = .clo 229 [.box B.length 0]∧st=⟨B++[v.cs],Rw,L⟩:=by
 refine B6 (rs:=[.tmp 2]) Tryz.func146 rfl rfl Tryz.ntmps146 (AL Tryz.func146 rfl (by decide)) (Nat.le_of_ble_eq_true rfl) ?_
 intro M0 W0 f e d c g
 simp only [AB]
 apply An;intro K1 b
 apply Ap 1 [1]
 rw [Ao];simp +decide only [go_sem]
 (repeat' apply Ae)<;>first | refine b _ _ ?_ | exact cl
 clear b
 apply An;intro K2 a
 apply Ap 1 [2]
 rw [Ao];simp +decide only [go_sem]
 (repeat' apply Ae)<;>first | refine a _ _ ?_ | exact cl
 clear a
 apply AM;simp +decide only [go_sem]
 skip
def Vh:List AV:=[.val .nilFunc,.clo 215 [],.clo 217 [],.clo 218 [],.clo 220 [],.clo 223 [],.clo 224 [],.clo 225 [],.clo 226 [],.clo 227 [],.clo 228 []]
theorem Ze4 (w0:World) (B:Aq) (Rw:Aw) (L:Av)  :
  ACalls Tryz.prog w0 145 [] ⟨B,Rw,L⟩ fun r st=>r = .agg Vh∧st=⟨B,Rw,L⟩:=by
 refine ACalls.finP (B6 (rs:=[.cell 0 189]) Tryz.func145 rfl rfl Tryz.ntmps145 (AL Tryz.func145 rfl (by decide)) (Nat.le_of_ble_eq_true rfl) ?_)
 intro M0 W0 f e d a g
 simp only [AB]
 apply An;intro K1 c
 apply Ap 1 [0]
 rw [Ao];simp +decide only [go_sem,Tz,Qe,LN,CN,List.getElem?_cons_zero,List.getElem?_cons_succ,List.nil_append,List.cons_append]
 (repeat' apply Ae)<;>first | refine c _ _ ?_ | exact cl
 clear c
 apply An;intro K2 b
 apply Ap 1 [0]
 rw [Ao];simp +decide only [go_sem,Tz,Qe,LN,CN,List.getElem?_cons_zero,List.getElem?_cons_succ,List.nil_append,List.cons_append]
 (repeat' apply Ae)<;>first | refine b _ _ ?_ | exact cl
 clear b
 apply AM;simp +decide only [go_sem]
 refine RF a pf pf pf (by simp +decide only [go_sem]) ⟨?_,rfl⟩
 rfl
inductive Ex where
 | mk (op int:Int) (text:ByteArray) (value:List Vl) (args:List Ex)
namespace Ex
def op:Ex→Int | mk o _ _ _ _=>o
def int:Ex→Int | mk _ i _ _ _=>i
def text:Ex→ByteArray | mk _ _ t _ _=>t
def value:Ex→List Vl | mk _ _ _ v _=>v
def args:Ex→List Ex | mk _ _ _ _ a=>a
end Ex
mutual
def Ex.size:Ex→Nat
 | .mk _ _ _ _ a=>1+ZeB a
def ZeB:List Ex→Nat
 | []=>0
 | e::r=>e.size+ZeB r
end
mutual
def Ex.cs:Ex→List AV
 | .mk o i t v a=>[.val (.int .i64 o),.val (.int .i64 i),.val (.string t),.list (EU v) .none,.list (OO a) .none]
def OO:List Ex→List AV
 | []=>[]
 | e::r => .agg e.cs::OO r
end
theorem PG:∀ l:List Ex,OO l=l.map fun v => .agg v.cs
 | []=>rfl
 | v::r=>by simp [OO,PG r]
@[go_sem] theorem Zie (l:List Ex):(OO l).length=l.length:=by simp [PG]
mutual
theorem Ex.under (nb nr nl:Nat):∀ v:Ex,∀ x∈v.cs,Under nb nr nl x
 | .mk o i t v a=>by
  intro x b
  simp only [Ex.cs,List.mem_cons,List.not_mem_nil,or_false] at b
  rcases b with rfl | rfl | rfl | rfl | rfl
  ·exact .val _
  ·exact .val _
  ·exact .val _
  ·exact .list (J5 nb nr nl v) trivial
  ·exact .list (OY nb nr nl a) trivial
theorem OY (nb nr nl:Nat):∀ l:List Ex,∀ x∈OO l,Under nb nr nl x
 | []=>fun _ h=>by simp [OO] at h
 | v::r=>by
  intro x hx
  simp only [OO,List.mem_cons] at hx
  rcases hx with rfl | hx
  ·exact .agg (Ex.under nb nr nl v)
  ·exact OY nb nr nl r x hx
end
@[go_sem] theorem Zkv (nb nr nl:Nat) (v:Ex):Under nb nr nl (.agg v.cs)↔True:=iff_true_intro (.agg (v.under nb nr nl))
@[go_sem] theorem ZiZ (nb nr nl:Nat) (l:List Ex):(∀ x∈OO l,Under nb nr nl x)↔True:=iff_true_intro (OY nb nr nl l)
@[go_sem] theorem Ex.cs_length (v:Ex):v.cs.length=5:=by cases v;rfl
@[go_sem] theorem Ex.cs_pub (v:Ex):v.cs.map AV.pubCell=v.cs:=by cases v;rfl
section
variable (v:Ex) (d:AV) (l:List AV)
@[go_sem] theorem Ex.g0:v.cs.getD 0 d = .val (.int .i64 v.op):=by cases v;rfl
@[go_sem] theorem Ex.g1:v.cs.getD 1 d = .val (.int .i64 v.int):=by cases v;rfl
@[go_sem] theorem Ex.g2:v.cs.getD 2 d = .val (.string v.text):=by cases v;rfl
@[go_sem] theorem Ex.g3:v.cs.getD 3 d = .list (EU v.value) .none:=by cases v;rfl
@[go_sem] theorem Ex.g4:v.cs.getD 4 d = .list (OO v.args) .none:=by cases v;rfl
@[go_sem] theorem Ex.take5:v.cs.take 5=v.cs:=by cases v;rfl
@[go_sem] theorem Ex.take5a:(v.cs++l).take 5=v.cs:=by cases v;rfl
end
end Go.Proofs.YtmcnjijeocmkgaaGreatDoor
namespace Go.Proofs.YtmcnjijeocmkgaaGreatDoor
open Go Go.RowKit Go.Ev
structure Part where
 kind:Int
 index:Int
 name:ByteArray
structure Itm where
 v:Vl
 level:Int
structure Lim where
 name:ByteArray
 low:Int
 high:Int
 bounds:Bool
 scale:Bool
 text:Bool
 list:Bool
 fields:Bool
structure Sch where
 name:ByteArray
 version:Int
 type:Ty
structure Cps where
 rules:List (ByteArray × Ex)
 targets:List (List Part)
 mid:Ty
def CJ {α:Type} (f:α→AV) (l:List α):AV := .list (l.map f) .none
@[go_sem] theorem Fq {α:Type} (f:α→AV) (l:List α):CJ f l = .list (l.map f) .none:=rfl
@[go_sem] theorem ZlI {α:Type} (f:α→AV) (l:List α) (n:Nat):(l.map f).take n=(l.take n).map f:=List.map_take.symm
@[go_sem] theorem Zls {α:Type} (f:α→AV) (l:List α) (n:Nat):(l.map f).drop n=(l.drop n).map f:=List.map_drop.symm
attribute [go_sem] List.length_map List.take_length
def bodyP:Part:=⟨1,0,⟨#[98,111,100,121]⟩⟩
abbrev O7 (w0:World):Prop:=ZiH Tryz.prog w0 113 0 (.list [.agg [Am bodyP.kind,Am bodyP.index,.val (.string bodyP.name)]] .none)
def avI (x:Int):AV:=Am x
@[go_sem] theorem Fb (x:Int):avI x=Am x:=rfl
@[go_sem] theorem Zkl (l:List (Int)):(∀ y∈l.map avI,y.cells.length=1)↔True:=iff_true_intro fun y a=>by
 obtain ⟨x,_,rfl⟩:=List.mem_map.1 a
 simp +decide only [go_sem]
@[go_sem] theorem ZmL (l:List (Int)):(∀ y∈l.map avI,y.cells.length=1∧A3 y=true)↔True:=iff_true_intro fun y a=>by
 obtain ⟨x,_,rfl⟩:=List.mem_map.1 a
 simp +decide only [go_sem]
@[go_sem] theorem Zko (nb nr nl:Nat) (l:List (Int)):(∀ y∈l.map avI,Under nb nr nl y)↔True:=iff_true_intro fun y a=>by
 obtain ⟨x,_,rfl⟩:=List.mem_map.1 a
 exact .val _
@[go_sem] theorem Zmf (l:List (Int)):(l.map avI).map AV.pub=l.map avI:=by
 rw [List.map_map]
 refine List.map_congr_left fun x _=>?_
 simp +decide only [Function.comp,go_sem]
def avB (x:Bool):AV := .val (.bool x)
@[go_sem] theorem Ft (x:Bool):avB x = .val (.bool x):=rfl
@[go_sem] theorem Zku (l:List (Bool)):(∀ y∈l.map avB,y.cells.length=1)↔True:=iff_true_intro fun y a=>by
 obtain ⟨x,_,rfl⟩:=List.mem_map.1 a
 simp +decide only [go_sem]
@[go_sem] theorem ZmH (l:List (Bool)):(∀ y∈l.map avB,y.cells.length=1∧A3 y=true)↔True:=iff_true_intro fun y a=>by
 obtain ⟨x,_,rfl⟩:=List.mem_map.1 a
 simp +decide only [go_sem]
@[go_sem] theorem Zkt (nb nr nl:Nat) (l:List (Bool)):(∀ y∈l.map avB,Under nb nr nl y)↔True:=iff_true_intro fun y a=>by
 obtain ⟨x,_,rfl⟩:=List.mem_map.1 a
 exact .val _
@[go_sem] theorem Zl7 (l:List (Bool)):(l.map avB).map AV.pub=l.map avB:=by
 rw [List.map_map]
 refine List.map_congr_left fun x _=>?_
 simp +decide only [Function.comp,go_sem]
def BE (x:ByteArray):AV := .val (.string x)
@[go_sem] theorem Fp (x:ByteArray):BE x = .val (.string x):=rfl
@[go_sem] theorem Zkn (l:List (ByteArray)):(∀ y∈l.map BE,y.cells.length=1)↔True:=iff_true_intro fun y a=>by
 obtain ⟨x,_,rfl⟩:=List.mem_map.1 a
 simp +decide only [go_sem]
@[go_sem] theorem ZmF (l:List (ByteArray)):(∀ y∈l.map BE,y.cells.length=1∧A3 y=true)↔True:=iff_true_intro fun y a=>by
 obtain ⟨x,_,rfl⟩:=List.mem_map.1 a
 simp +decide only [go_sem]
@[go_sem] theorem Zcz (nb nr nl:Nat) (l:List (ByteArray)):(∀ y∈l.map BE,Under nb nr nl y)↔True:=iff_true_intro fun y a=>by
 obtain ⟨x,_,rfl⟩:=List.mem_map.1 a
 exact .val _
@[go_sem] theorem Zho (l:List (ByteArray)):(l.map BE).map AV.pub=l.map BE:=by
 rw [List.map_map]
 refine List.map_congr_left fun x _=>?_
 simp +decide only [Function.comp,go_sem]
def Dw (x:Vl):AV := .agg x.cs
@[go_sem] theorem Ec (x:Vl):Dw x = .agg x.cs:=rfl
@[go_sem] theorem Zka (l:List (Vl)):(∀ y∈l.map Dw,y.cells.length=6)↔True:=iff_true_intro fun y a=>by
 obtain ⟨x,_,rfl⟩:=List.mem_map.1 a
 simp +decide only [go_sem]
@[go_sem] theorem ZmM (l:List (Vl)):(∀ y∈l.map Dw,y.cells.length=6∧A3 y=true)↔True:=iff_true_intro fun y a=>by
 obtain ⟨x,_,rfl⟩:=List.mem_map.1 a
 simp +decide only [go_sem]
@[go_sem] theorem ZkR (nb nr nl:Nat) (l:List (Vl)):(∀ y∈l.map Dw,Under nb nr nl y)↔True:=iff_true_intro fun y a=>by
 obtain ⟨x,_,rfl⟩:=List.mem_map.1 a
 exact .agg (x.under _ _ _)
@[go_sem] theorem Zmm (l:List (Vl)):(l.map Dw).map AV.pub=l.map Dw:=by
 rw [List.map_map]
 refine List.map_congr_left fun x _=>?_
 simp +decide only [Function.comp,go_sem]
def Dj (x:Ty):AV := .agg x.cs
@[go_sem] theorem Ed (x:Ty):Dj x = .agg x.cs:=rfl
@[go_sem] theorem Zkw (l:List (Ty)):(∀ y∈l.map Dj,y.cells.length=7)↔True:=iff_true_intro fun y a=>by
 obtain ⟨x,_,rfl⟩:=List.mem_map.1 a
 simp +decide only [go_sem]
@[go_sem] theorem Zmv (l:List (Ty)):(∀ y∈l.map Dj,y.cells.length=7∧A3 y=true)↔True:=iff_true_intro fun y a=>by
 obtain ⟨x,_,rfl⟩:=List.mem_map.1 a
 simp +decide only [go_sem]
@[go_sem] theorem Zkj (nb nr nl:Nat) (l:List (Ty)):(∀ y∈l.map Dj,Under nb nr nl y)↔True:=iff_true_intro fun y a=>by
 obtain ⟨x,_,rfl⟩:=List.mem_map.1 a
 exact .agg (x.under _ _ _)
@[go_sem] theorem ZlW (l:List (Ty)):(l.map Dj).map AV.pub=l.map Dj:=by
 rw [List.map_map]
 refine List.map_congr_left fun x _=>?_
 simp +decide only [Function.comp,go_sem]
def Ua (x:ByteArray × Vl):AV := .agg (.val (.string x.1)::x.2.cs)
@[go_sem] theorem Fj (x:ByteArray × Vl):Ua x = .agg (.val (.string x.1)::x.2.cs):=rfl
@[go_sem] theorem ZkB (l:List (ByteArray × Vl)):(∀ y∈l.map Ua,y.cells.length=7)↔True:=iff_true_intro fun y a=>by
 obtain ⟨x,_,rfl⟩:=List.mem_map.1 a
 simp +decide only [go_sem]
@[go_sem] theorem ZmI (l:List (ByteArray × Vl)):(∀ y∈l.map Ua,y.cells.length=7∧A3 y=true)↔True:=iff_true_intro fun y a=>by
 obtain ⟨x,_,rfl⟩:=List.mem_map.1 a
 simp +decide only [go_sem]
@[go_sem] theorem ZkL (nb nr nl:Nat) (l:List (ByteArray × Vl)):(∀ y∈l.map Ua,Under nb nr nl y)↔True:=iff_true_intro fun y a=>by
 obtain ⟨x,_,rfl⟩:=List.mem_map.1 a
 exact MU nb nr nl [x] _ (by simp [KY,Ua])
@[go_sem] theorem Zme (l:List (ByteArray × Vl)):(l.map Ua).map AV.pub=l.map Ua:=by
 rw [List.map_map]
 refine List.map_congr_left fun x _=>?_
 simp +decide only [Function.comp,go_sem]
def CH (x:Int × ByteArray × Int × Ty × List Vl):AV := .agg (Am x.1 :: .val (.string x.2.1)::Am x.2.2.1::(x.2.2.2.1.cs++[.list (x.2.2.2.2.map Dw) .none]))
@[go_sem] theorem CG (x:Int × ByteArray × Int × Ty × List Vl):CH x = .agg (Am x.1 :: .val (.string x.2.1)::Am x.2.2.1::(x.2.2.2.1.cs++[.list (x.2.2.2.2.map Dw) .none])):=rfl
@[go_sem] theorem Zjv (l:List (Int × ByteArray × Int × Ty × List Vl)):(∀ y∈l.map CH,y.cells.length=11)↔True:=iff_true_intro fun y a=>by
 obtain ⟨x,_,rfl⟩:=List.mem_map.1 a
 simp +decide only [go_sem]
@[go_sem] theorem ZlR (l:List (Int × ByteArray × Int × Ty × List Vl)):(∀ y∈l.map CH,y.cells.length=11∧A3 y=true)↔True:=iff_true_intro fun y a=>by
 obtain ⟨x,_,rfl⟩:=List.mem_map.1 a
 simp +decide only [go_sem]
@[go_sem] theorem ZbK (nb nr nl:Nat) (l:List (Int × ByteArray × Int × Ty × List Vl)):(∀ y∈l.map CH,Under nb nr nl y)↔True:=iff_true_intro fun y a=>by
 obtain ⟨x,_,rfl⟩:=List.mem_map.1 a
 exact Lj nb nr nl [x] _ (by simp [Jy,CH,FR];intros;rfl)
@[go_sem] theorem ZfS (l:List (Int × ByteArray × Int × Ty × List Vl)):(l.map CH).map AV.pub=l.map CH:=by
 rw [List.map_map]
 refine List.map_congr_left fun x _=>?_
 simp +decide only [Function.comp,go_sem]
def Xm (x:Sch):AV := .agg (.val (.string x.name)::Am x.version::x.type.cs)
@[go_sem] theorem BX (x:Sch):Xm x = .agg (.val (.string x.name)::Am x.version::x.type.cs):=rfl
@[go_sem] theorem ZiJ (l:List (Sch)):(∀ y∈l.map Xm,y.cells.length=9)↔True:=iff_true_intro fun y a=>by
 obtain ⟨x,_,rfl⟩:=List.mem_map.1 a
 simp +decide only [go_sem]
@[go_sem] theorem ZlH (l:List (Sch)):(∀ y∈l.map Xm,y.cells.length=9∧A3 y=true)↔True:=iff_true_intro fun y a=>by
 obtain ⟨x,_,rfl⟩:=List.mem_map.1 a
 simp +decide only [go_sem]
@[go_sem] theorem ZiA (nb nr nl:Nat) (l:List (Sch)):(∀ y∈l.map Xm,Under nb nr nl y)↔True:=iff_true_intro fun y a=>by
 obtain ⟨x,_,rfl⟩:=List.mem_map.1 a
 simp only [BX,Py,List.mem_cons,forall_eq_or_imp,Xw,true_and];exact x.type.under _ _ _
@[go_sem] theorem ZkS (l:List (Sch)):(l.map Xm).map AV.pub=l.map Xm:=by
 rw [List.map_map]
 refine List.map_congr_left fun x _=>?_
 simp +decide only [Function.comp,go_sem]
def Xu (x:Itm):AV := .agg (x.v.cs++[Am x.level])
@[go_sem] theorem BW (x:Itm):Xu x = .agg (x.v.cs++[Am x.level]):=rfl
@[go_sem] theorem Zio (l:List (Itm)):(∀ y∈l.map Xu,y.cells.length=7)↔True:=iff_true_intro fun y a=>by
 obtain ⟨x,_,rfl⟩:=List.mem_map.1 a
 simp +decide only [go_sem]
@[go_sem] theorem Zle (l:List (Itm)):(∀ y∈l.map Xu,y.cells.length=7∧A3 y=true)↔True:=iff_true_intro fun y a=>by
 obtain ⟨x,_,rfl⟩:=List.mem_map.1 a
 simp +decide only [go_sem]
@[go_sem] theorem Zix (nb nr nl:Nat) (l:List (Itm)):(∀ y∈l.map Xu,Under nb nr nl y)↔True:=iff_true_intro fun y a=>by
 obtain ⟨x,_,rfl⟩:=List.mem_map.1 a
 simp only [BW,Py,List.mem_append,List.mem_singleton];rintro z (hz | rfl);exact x.v.under _ _ _ z hz;exact .val _
@[go_sem] theorem Zkx (l:List (Itm)):(l.map Xu).map AV.pub=l.map Xu:=by
 rw [List.map_map]
 refine List.map_congr_left fun x _=>?_
 simp +decide only [Function.comp,go_sem]
def X9 (x:Lim):AV := .agg [.val (.string x.name),Am x.low,Am x.high,.val (.bool x.bounds),.val (.bool x.scale),.val (.bool x.text),.val (.bool x.list),.val (.bool x.fields)]
@[go_sem] theorem Du (x:Lim):X9 x = .agg [.val (.string x.name),Am x.low,Am x.high,.val (.bool x.bounds),.val (.bool x.scale),.val (.bool x.text),.val (.bool x.list),.val (.bool x.fields)]:=rfl
@[go_sem] theorem ZjV (l:List (Lim)):(∀ y∈l.map X9,y.cells.length=8)↔True:=iff_true_intro fun y a=>by
 obtain ⟨x,_,rfl⟩:=List.mem_map.1 a
 simp +decide only [go_sem]
@[go_sem] theorem ZlV (l:List (Lim)):(∀ y∈l.map X9,y.cells.length=8∧A3 y=true)↔True:=iff_true_intro fun y a=>by
 obtain ⟨x,_,rfl⟩:=List.mem_map.1 a
 simp +decide only [go_sem]
@[go_sem] theorem Zj7 (nb nr nl:Nat) (l:List (Lim)):(∀ y∈l.map X9,Under nb nr nl y)↔True:=iff_true_intro fun y a=>by
 obtain ⟨x,_,rfl⟩:=List.mem_map.1 a
 simp +decide only [go_sem];try intro z b;simp_all [Vl.under,Ty.under]
@[go_sem] theorem Zla (l:List (Lim)):(l.map X9).map AV.pub=l.map X9:=by
 rw [List.map_map]
 refine List.map_congr_left fun x _=>?_
 simp +decide only [Function.comp,go_sem]
def Zdk (x:ByteArray × Int):AV := .agg [.val (.string x.1),Am x.2]
@[go_sem] theorem Dv (x:ByteArray × Int):Zdk x = .agg [.val (.string x.1),Am x.2]:=rfl
@[go_sem] theorem Zje (l:List (ByteArray × Int)):(∀ y∈l.map Zdk,y.cells.length=2)↔True:=iff_true_intro fun y a=>by
 obtain ⟨x,_,rfl⟩:=List.mem_map.1 a
 simp +decide only [go_sem]
@[go_sem] theorem Zmp (l:List (ByteArray × Int)):(∀ y∈l.map Zdk,y.cells.length=2∧A3 y=true)↔True:=iff_true_intro fun y a=>by
 obtain ⟨x,_,rfl⟩:=List.mem_map.1 a
 simp +decide only [go_sem]
@[go_sem] theorem Zjy (nb nr nl:Nat) (l:List (ByteArray × Int)):(∀ y∈l.map Zdk,Under nb nr nl y)↔True:=iff_true_intro fun y a=>by
 obtain ⟨x,_,rfl⟩:=List.mem_map.1 a
 simp +decide only [go_sem];try intro z b;simp_all [Vl.under,Ty.under]
@[go_sem] theorem Zlv (l:List (ByteArray × Int)):(l.map Zdk).map AV.pub=l.map Zdk:=by
 rw [List.map_map]
 refine List.map_congr_left fun x _=>?_
 simp +decide only [Function.comp,go_sem]
def Zde (x:Ty × Ty):AV := .agg (x.1.cs++x.2.cs)
@[go_sem] theorem Dq (x:Ty × Ty):Zde x = .agg (x.1.cs++x.2.cs):=rfl
@[go_sem] theorem Zjb (l:List (Ty × Ty)):(∀ y∈l.map Zde,y.cells.length=14)↔True:=iff_true_intro fun y a=>by
 obtain ⟨x,_,rfl⟩:=List.mem_map.1 a
 simp +decide only [go_sem]
@[go_sem] theorem Zmb (l:List (Ty × Ty)):(∀ y∈l.map Zde,y.cells.length=14∧A3 y=true)↔True:=iff_true_intro fun y a=>by
 obtain ⟨x,_,rfl⟩:=List.mem_map.1 a
 simp +decide only [go_sem]
@[go_sem] theorem ZjO (nb nr nl:Nat) (l:List (Ty × Ty)):(∀ y∈l.map Zde,Under nb nr nl y)↔True:=iff_true_intro fun y b=>by
 obtain ⟨x,_,rfl⟩:=List.mem_map.1 b
 exact .agg fun z a=>(List.mem_append.1 a).elim (x.1.under _ _ _ z) (x.2.under _ _ _ z)
@[go_sem] theorem Zlo (l:List (Ty × Ty)):(l.map Zde).map AV.pub=l.map Zde:=by
 rw [List.map_map]
 refine List.map_congr_left fun x _=>?_
 simp +decide only [Function.comp,go_sem]
def AD (x:Part):AV := .agg [Am x.kind,Am x.index,.val (.string x.name)]
@[go_sem] theorem Dp (x:Part):AD x = .agg [Am x.kind,Am x.index,.val (.string x.name)]:=rfl
@[go_sem] theorem ZjR (l:List (Part)):(∀ y∈l.map AD,y.cells.length=3)↔True:=iff_true_intro fun y a=>by
 obtain ⟨x,_,rfl⟩:=List.mem_map.1 a
 simp +decide only [go_sem]
@[go_sem] theorem Zl6 (l:List (Part)):(∀ y∈l.map AD,y.cells.length=3∧A3 y=true)↔True:=iff_true_intro fun y a=>by
 obtain ⟨x,_,rfl⟩:=List.mem_map.1 a
 simp +decide only [go_sem]
@[go_sem] theorem Zjr (nb nr nl:Nat) (l:List (Part)):(∀ y∈l.map AD,Under nb nr nl y)↔True:=iff_true_intro fun y a=>by
 obtain ⟨x,_,rfl⟩:=List.mem_map.1 a
 simp +decide only [go_sem];try intro z b;simp_all [Vl.under,Ty.under]
@[go_sem] theorem ZkU (l:List (Part)):(l.map AD).map AV.pub=l.map AD:=by
 rw [List.map_map]
 refine List.map_congr_left fun x _=>?_
 simp +decide only [Function.comp,go_sem]
def Qq (x:Ex):AV := .agg x.cs
@[go_sem] theorem E8 (x:Ex):Qq x = .agg x.cs:=rfl
@[go_sem] theorem Zkp (l:List (Ex)):(∀ y∈l.map Qq,y.cells.length=5)↔True:=iff_true_intro fun y a=>by
 obtain ⟨x,_,rfl⟩:=List.mem_map.1 a
 simp +decide only [go_sem]
@[go_sem] theorem ZmG (l:List (Ex)):(∀ y∈l.map Qq,y.cells.length=5∧A3 y=true)↔True:=iff_true_intro fun y a=>by
 obtain ⟨x,_,rfl⟩:=List.mem_map.1 a
 simp +decide only [go_sem]
@[go_sem] theorem ZkE (nb nr nl:Nat) (l:List (Ex)):(∀ y∈l.map Qq,Under nb nr nl y)↔True:=iff_true_intro fun y a=>by
 obtain ⟨x,_,rfl⟩:=List.mem_map.1 a
 exact .agg (x.under _ _ _)
@[go_sem] theorem Zl8 (l:List (Ex)):(l.map Qq).map AV.pub=l.map Qq:=by
 rw [List.map_map]
 refine List.map_congr_left fun x _=>?_
 simp +decide only [Function.comp,go_sem]
def A7 (x:ByteArray × Ex):AV := .agg (.val (.string x.1)::x.2.cs)
@[go_sem] theorem Dt (x:ByteArray × Ex):A7 x = .agg (.val (.string x.1)::x.2.cs):=rfl
@[go_sem] theorem ZjP (l:List (ByteArray × Ex)):(∀ y∈l.map A7,y.cells.length=6)↔True:=iff_true_intro fun y a=>by
 obtain ⟨x,_,rfl⟩:=List.mem_map.1 a
 simp +decide only [go_sem]
@[go_sem] theorem ZlS (l:List (ByteArray × Ex)):(∀ y∈l.map A7,y.cells.length=6∧A3 y=true)↔True:=iff_true_intro fun y a=>by
 obtain ⟨x,_,rfl⟩:=List.mem_map.1 a
 simp +decide only [go_sem]
@[go_sem] theorem ZjM (nb nr nl:Nat) (l:List (ByteArray × Ex)):(∀ y∈l.map A7,Under nb nr nl y)↔True:=iff_true_intro fun y b=>by
 obtain ⟨x,_,rfl⟩:=List.mem_map.1 b
 exact .agg fun z a=>(List.mem_cons.1 a).elim (fun e=>e ▸ .val _) (x.2.under _ _ _ z)
@[go_sem] theorem ZkY (l:List (ByteArray × Ex)):(l.map A7).map AV.pub=l.map A7:=by
 rw [List.map_map]
 refine List.map_congr_left fun x _=>?_
 simp +decide only [Function.comp,go_sem]
def HT (x:List (ByteArray × Ex)):AV := .agg [.list (x.map A7) .none]
@[go_sem] theorem Fa (x:List (ByteArray × Ex)):HT x = .agg [.list (x.map A7) .none]:=rfl
@[go_sem] theorem ZkN (l:List (List (ByteArray × Ex))):(∀ y∈l.map HT,y.cells.length=1)↔True:=iff_true_intro fun y a=>by
 obtain ⟨x,_,rfl⟩:=List.mem_map.1 a
 simp +decide only [go_sem]
@[go_sem] theorem ZmD (l:List (List (ByteArray × Ex))):(∀ y∈l.map HT,y.cells.length=1∧A3 y=true)↔True:=iff_true_intro fun y a=>by
 obtain ⟨x,_,rfl⟩:=List.mem_map.1 a
 simp +decide only [go_sem]
@[go_sem] theorem ZkP (nb nr nl:Nat) (l:List (List (ByteArray × Ex))):(∀ y∈l.map HT,Under nb nr nl y)↔True:=iff_true_intro fun y a=>by
 obtain ⟨x,_,rfl⟩:=List.mem_map.1 a
 simp +decide only [go_sem]
@[go_sem] theorem Zl4 (l:List (List (ByteArray × Ex))):(l.map HT).map AV.pub=l.map HT:=by
 rw [List.map_map]
 refine List.map_congr_left fun x _=>?_
 simp +decide only [Function.comp,go_sem]
theorem Zab (x:ByteArray):(BE x).pub=BE x:=by
 have:=Zho [x]
 simpa using this
theorem OR (l:List (ByteArray)) (nb nr nl:Nat):∀ y∈l.flatMap fun x=>(BE x).cells,Under nb nr nl y:=fun y b=>by
 obtain ⟨x,c,a⟩:=List.mem_flatMap.1 b
 have h:Under nb nr nl (BE x):=(Zcz nb nr nl [x]).2 trivial _ (List.mem_singleton.2 rfl)
 cases h with
 | val _=>rw [List.mem_singleton.1 a];exact .val _
theorem Xk (x:Int × ByteArray × Int × Ty × List Vl):(CH x).pub=CH x:=by
 have:=ZfS [x]
 simpa using this
theorem Yt (l:List (Int × ByteArray × Int × Ty × List Vl)) (nb nr nl:Nat):∀ y∈l.flatMap fun x=>(CH x).cells,Under nb nr nl y:=fun y b=>by
 obtain ⟨x,c,a⟩:=List.mem_flatMap.1 b
 have h:Under nb nr nl (CH x):=(ZbK nb nr nl [x]).2 trivial _ (List.mem_singleton.2 rfl)
 cases h with
 | agg h=>exact h y a
@[go_sem] theorem ZiB (l:List (List Part)):(∀ y∈l.map (CJ AD),y.cells.length=1)↔True:=iff_true_intro fun y a=>by
 obtain ⟨x,_,rfl⟩:=List.mem_map.1 a
 simp +decide only [go_sem]
@[go_sem] theorem Zlc (l:List (List Part)):(∀ y∈l.map (CJ AD),y.cells.length=1∧A3 y=true)↔True:=iff_true_intro fun y a=>by
 obtain ⟨x,_,rfl⟩:=List.mem_map.1 a
 simp +decide only [go_sem]
@[go_sem] theorem ZB (nb nr nl:Nat) (l:List (List Part)):(∀ y∈l.map (CJ AD),Under nb nr nl y)↔True:=iff_true_intro fun y a=>by
 obtain ⟨x,_,rfl⟩:=List.mem_map.1 a
 simp +decide only [go_sem]
@[go_sem] theorem ZdK (l:List (List Part)):(l.map (CJ AD)).map AV.pub=l.map (CJ AD):=by
 rw [List.map_map]
 refine List.map_congr_left fun x _=>?_
 simp +decide only [Function.comp,go_sem]
@[go_sem] theorem Zjz (l:List (List ByteArray)):(∀ y∈l.map (CJ BE),y.cells.length=1)↔True:=iff_true_intro fun y a=>by
 obtain ⟨x,_,rfl⟩:=List.mem_map.1 a
 simp +decide only [go_sem]
@[go_sem] theorem Zmh (l:List (List ByteArray)):(∀ y∈l.map (CJ BE),y.cells.length=1∧A3 y=true)↔True:=iff_true_intro fun y a=>by
 obtain ⟨x,_,rfl⟩:=List.mem_map.1 a
 simp +decide only [go_sem]
@[go_sem] theorem ZjL (nb nr nl:Nat) (l:List (List ByteArray)):(∀ y∈l.map (CJ BE),Under nb nr nl y)↔True:=iff_true_intro fun y a=>by
 obtain ⟨x,_,rfl⟩:=List.mem_map.1 a
 simp +decide only [go_sem]
@[go_sem] theorem Zlb (l:List (List ByteArray)):(l.map (CJ BE)).map AV.pub=l.map (CJ BE):=by
 rw [List.map_map]
 refine List.map_congr_left fun x _=>?_
 simp +decide only [Function.comp,go_sem]
@[go_sem] theorem Zj6 (l:List (List Int)):(∀ y∈l.map (CJ avI),y.cells.length=1)↔True:=iff_true_intro fun y a=>by
 obtain ⟨x,_,rfl⟩:=List.mem_map.1 a
 simp +decide only [go_sem]
@[go_sem] theorem Zl0 (l:List (List Int)):(∀ y∈l.map (CJ avI),y.cells.length=1∧A3 y=true)↔True:=iff_true_intro fun y a=>by
 obtain ⟨x,_,rfl⟩:=List.mem_map.1 a
 simp +decide only [go_sem]
@[go_sem] theorem Zj0 (nb nr nl:Nat) (l:List (List Int)):(∀ y∈l.map (CJ avI),Under nb nr nl y)↔True:=iff_true_intro fun y a=>by
 obtain ⟨x,_,rfl⟩:=List.mem_map.1 a
 simp +decide only [go_sem]
@[go_sem] theorem ZlF (l:List (List Int)):(l.map (CJ avI)).map AV.pub=l.map (CJ avI):=by
 rw [List.map_map]
 refine List.map_congr_left fun x _=>?_
 simp +decide only [Function.comp,go_sem]
@[go_sem] theorem ZeV (l:List Ex):OO l=l.map Qq:=PG l
@[go_sem] theorem Ex.under_mem (nb nr nl:Nat) (v:Ex):(∀ x∈v.cs,Under nb nr nl x)↔True:=iff_true_intro (v.under nb nr nl)
theorem Ex.cs_eqs (v:Ex):v.cs=[Am v.op,Am v.int,.val (.string v.text),.list (v.value.map Dw) .none,.list (v.args.map Qq) .none]:=by
 cases v;rw [Ex.cs,FR,PG];rfl
@[go_sem] theorem Ex.cs_mks (o i:Int) (t:ByteArray) (v:List Vl) (a:List Ex):(Ex.mk o i t v a).cs=[Am o,Am i,.val (.string t),.list (v.map Dw) .none,.list (a.map Qq) .none]:=Ex.cs_eqs _
@[go_sem] theorem Q1 (l:List Vl):EU l=l.map Dw:=FR l
@[go_sem] theorem Z9 (l:List Ty):Og l=l.map Dj:=SY l
@[go_sem] theorem Zk (l:List (ByteArray × Vl)):KY l=l.map Ua:=Po l
@[go_sem] theorem Xa (l:List (Int × ByteArray × Int × Ty × List Vl)):Jy l=l.map CH:=by
 rw [Qc]
 refine List.map_congr_left fun x _=>?_
 rw [Q1];rfl
@[go_sem] theorem Zed (l:List ByteArray):(l.map fun x=>AV.val (.string x))=l.map BE:=rfl
@[go_sem] theorem Vl.under_mem (nb nr nl:Nat) (v:Vl):(∀ x∈v.cs,Under nb nr nl x)↔True:=iff_true_intro (v.under nb nr nl)
@[go_sem] theorem Ty.under_mem (nb nr nl:Nat) (v:Ty):(∀ x∈v.cs,Under nb nr nl x)↔True:=iff_true_intro (v.under nb nr nl)
@[go_sem] theorem ZiG {α:Type} (p:α→Prop) (l m:List α):(∀ x∈l++m,p x)↔(∀ x∈l,p x)∧∀ x∈m,p x:=List.forall_mem_append
theorem rt {α:Type} {x r:α} {F G C p:Prop} (h:some x=some r) (f:F) (hcalm:C) (hO:G) (k:some x=some r→F→C→G→p:=by
  intro h hs hcalm hO
  apply AM;simp +decide only [go_sem,Nat.reduceAdd,hs]
  have hgt:=Option.some.inj h;subst hgt
  first | refine Dy hcalm rfl hO.pre (by simp +decide only [go_sem,Nat.reduceAdd]) ⟨?_,?_⟩ | refine FD hcalm rfl hO.pre (by simp +decide only [go_sem,Nat.reduceAdd]) ⟨?_,?_⟩
  all_goals first | rfl | (simp +decide only [go_sem,Nat.reduceAdd,hs];done) | (simp +decide only [go_sem,Nat.reduceAdd,Vl.cs,Ty.cs,hs];done)):p:=k h f hcalm hO
theorem hv {p F:Prop} (f:F) (h:F→p:=by intro hs;first | rfl | (simp +decide only [go_sem,Nat.reduceAdd,hs];done) | (simp +decide only [go_sem,Nat.reduceAdd,Vl.cs,Ty.cs,hs];done)):p:=h f
theorem Ty.cs_eqs (t:Ty):t.cs=[Am t.kind,Am t.min,Am t.max,Am t.scale,.list (t.words.map BE) .none,.list (t.elem.map Dj) .none,.list (t.fields.map CH) .none]:=by
 cases t;rw [Ty.cs,Z9,Xa];rfl
theorem Vl.cs_eqs (v:Vl):v.cs=[Am v.kind,Am v.int,Am v.scale,.val (.string v.text),.list (v.list.map Dw) .none,.list (v.fields.map Ua) .none]:=by
 rw [v.cs_eq,Q1,Zk]
theorem ZaY (w0:World) (B:Aq) (Rw:Aw) (L:Av) (hT:Lib.Utf8Tabs 2 3 w0) (s:ByteArray) (hs:s.size≤maxLen) :
  ACalls Tryz.prog w0 222 [.val (.string s)] ⟨B,Rw,L⟩ fun v s'=>v = .val (.bool (Lib.validD s.data.toList))∧s'=⟨B,Rw,L⟩:=ZcK w0 _ hT s hs
attribute [go_sem] Tz Qe LN Nat.mul_one Nat.zero_add Nat.add_zero Option.isSome_some List.getElem?_cons_zero List.getElem?_cons_succ
abbrev ALp:Prop:=(∀ (α:Type) (l m:List α),List.append l m=l++m)∧(∀ (α:Type) (a:α) (l m:List α),(a::l)++m=a::(l++m))∧∀ (α:Type) (l:List α),[]++l=l
theorem al {F:Prop} (h:F):ALp∧F:=⟨⟨fun _ _ _=>rfl,fun _ _ _ _=>rfl,fun _ _=>rfl⟩,h⟩
theorem Vl.cs_mks (k i s:Int) (t:ByteArray) (l:List Vl) (f:List (ByteArray × Vl)):(Vl.mk k i s t l f).cs=[Am k,Am i,Am s,.val (.string t),.list (l.map Dw) .none,.list (f.map Ua) .none]:=Vl.cs_eqs _
theorem Ty.cs_mks (a b c d:Int) (w:List ByteArray) (e:List Ty) (f:List (Int × ByteArray × Int × Ty × List Vl)):(Ty.mk a b c d w e f).cs=[Am a,Am b,Am c,Am d,.list (w.map BE) .none,.list (e.map Dj) .none,.list (f.map CH) .none]:=Ty.cs_eqs _
theorem cm {F:Prop} (h:F):((∀ k i s t l f,(Vl.mk k i s t l f).cs=[Am k,Am i,Am s,.val (.string t),.list (l.map Dw) .none,.list (f.map Ua) .none])∧∀ a b c d w e f,(Ty.mk a b c d w e f).cs=[Am a,Am b,Am c,Am d,.list (w.map BE) .none,.list (e.map Dj) .none,.list (f.map CH) .none])∧F:=⟨⟨Vl.cs_mks,Ty.cs_mks⟩,h⟩
theorem Dk {p:Prop} (h:p:=by first | rfl | simp only [List.length_append,List.length_cons,List.length_nil,List.length_map,Nat.zero_add,Nat.add_zero]):p:=h
theorem ls_ {p:Prop} (h:p:=by simp only [List.length_set]):p:=h
theorem kr {p:Prop} (h:p:=by kernel_rfl):p:=h
theorem px {p:Prop} (h:p:=by first | exact List.prefix_append _ _ | exact List.prefix_refl _):p:=h
theorem ap_ {p:Prop} (h:p:=by simp only [List.append_assoc,List.cons_append,List.nil_append]):p:=h
theorem nq {p:Prop} (h:p:=by first | assumption | omega | (simp only [List.length_set] at *; omega)):p:=h
theorem Ze {p:Prop} (h:p:=by first | rfl | simp only [List.flatMap_nil]):p:=h
theorem vu {p V:Prop} (v:V) (h:V→p:=by intro v;simp only [List.mem_cons,List.not_mem_nil,or_false,forall_eq_or_imp,forall_eq];exact v _ _ _ _):p:=h v
theorem P0 {p V:Prop} {Rw rows:List RowA} {l:List (Nat × Nat × Ev.Own)} {ho:Ev.Own} {v:List VE} (u:V) (hO:Owns Rw rows l ho v) (h:V→Rw.length≤rows.length→p:=by
  intro u hl
  (simp +decide only [go_sem,Nat.reduceAdd,Jn])<;>(try (repeat' apply Ae))<;>first | omega | assumption | exact u _ _ _ (by omega) (by omega) (by omega)):p:=h u hO.len
theorem ln {p:Prop} {Rw rows Rw' rows':List RowA} {l l':List (Nat × Nat × Ev.Own)} {ho ho':Ev.Own} {v v':List VE} (h1:Owns Rw rows l ho v) (h2:Owns Rw' rows' l' ho' v') (h:Rw.length≤rows.length→Rw'.length≤rows'.length→p:=by intro _ _;first | exact Nat.le_refl _ | omega):p:=h h1.len h2.len
theorem dl {F p q:Prop} (m c1 c2:Nat) (L:List Nat) (f:F) {P:Program} (hm:P.follows .mixedOrders=true) {A K:Env→St→Prop} (hK:∀ e s,A e s→K e s) (k:q) (h:Tg (m,c1,c2,L)→F→P.follows .mixedOrders=true→(∀ e s,A e s→K e s)→q→p:=by
  intro tt hs hm hK hq
  refine S3 tt hm (by kernel_rfl) ?_
  rw [Ao];simp +decide only [go_sem,Nat.reduceAdd,hs]
  (repeat' with_reducible apply Ae)<;>first | (rw [Ao];simp +decide only [go_sem,Nat.reduceAdd,hs]) | (clear hq;exact cl)
  first | (refine hK _ _ ?_;exact hq) | ((repeat' apply Ae)<;>first | (refine hK _ _ ?_;exact hq) | (clear hq;exact cl))):p:=h tg f hm hK k
theorem dk {F p q:Prop} (m c1 c2:Nat) (L:List Nat) (f:F) {P:Program} (hm:P.follows .mixedOrders=true) (k:q) (h:Tg (m,c1,c2,L)→F→P.follows .mixedOrders=true→q→p:=by
  intro tt hs hm hq
  refine S3 tt hm (by kernel_rfl) ?_
  rw [Ao];simp +decide only [go_sem,Nat.reduceAdd,hs]
  first | (refine Kp ?_;exact hq) | ((repeat' apply Ae)<;>first | (refine Kp ?_;exact hq) | (clear hq;exact cl))):p:=h tg f hm k
theorem dn {F p q:Prop} (f:F) {A K:Env→St→Prop} (hK:∀ e s,A e s→K e s) (k:q) (h:F→(∀ e s,A e s→K e s)→q→p:=by
  intro hs hK hq
  rw [Ao];simp +decide only [go_sem,Nat.reduceAdd,hs]
  (repeat' with_reducible apply Ae)<;>first | (rw [Ao];simp +decide only [go_sem,Nat.reduceAdd,hs]) | (clear hq;exact cl)
  first | (refine hK _ _ ?_;exact hq) | ((repeat' apply Ae)<;>first | (refine hK _ _ ?_;exact hq) | (clear hq;exact cl))):p:=h f hK k
theorem rT {α:Type} {x r:α} {F G C p:Prop} (h:x=r) (f:F) (hcalm:C) (hO:G) (k:x=r→F→C→G→p:=by
  intro h hs hcalm hO
  apply AM;simp +decide only [go_sem,Nat.reduceAdd,hs]
  subst h
  first | refine Dy hcalm rfl hO.pre (by simp +decide only [go_sem,Nat.reduceAdd]) ⟨?_,rfl⟩ | refine FD hcalm rfl hO.pre (by simp +decide only [go_sem,Nat.reduceAdd]) ⟨?_,rfl⟩
  first | rfl | (simp +decide only [go_sem,Nat.reduceAdd,hs];done) | (simp +decide only [go_sem,Nat.reduceAdd,Vl.cs,Ty.cs,hs];done)):p:=k h f hcalm hO
end Go.Proofs.YtmcnjijeocmkgaaGreatDoor
namespace Go.Ev
open Go Go.RowKit Go.Shelf
section
variable {P:Program} {w0:World} {st:St}
theorem Zaz {M:Mem} {w w':World} {e:TypeId} {sz:Nat} {v':Value} {n:Nat} {us:Nat→Value} {xs:List AV} (hst:RelSt w0 M st w) (hb:Below w.heap.size w w') (ho:w'.ownsRow w.heap.size e sz v' n (flat us n)) (hn:xs.length=n)
  (hus:∀ i,i<n→(us i).cells.size=sz) (hR:∀ i (hi:i<xs.length),R w0 M w (us i) xs[i]):∃ M',Ext w0 M w M' w'∧RelSt w0 M' st w'∧R w0 M' w' v' (.list xs .none):=by
 subst hn
 obtain ⟨k,h⟩:=ho
 rcases h with ⟨rfl,h0⟩ | ⟨g,cap,cur,rfl,hg,hcur,hc1,hc2,hc3,hc4⟩
 ·obtain ⟨c,b⟩:=hst.later hb w.heap.size 0 (Nat.le_refl _) (.inr rfl)
  have:xs=[]:=List.length_eq_zero_iff.1 h0
  subst this
  exact ⟨_,b,c,.nil (fun id=>by simp)⟩
 ·obtain ⟨c,b⟩:=hst.later hb g (xs.length*sz) hg (.inl (Array.getElem?_eq_some_iff.1 hcur).1)
  refine ⟨_,b,c,.list sz us hc1 hc2 (fun i hi=>⟨hus i hi,fun j f=>?_⟩) (fun i hi=>(hR i hi).mono b) trivial⟩
  have a:i*sz+j<xs.length*sz:=by
   have:(i+1)*sz≤xs.length*sz:=Nat.mul_le_mul_right _ hi
   rw [Nat.succ_mul] at this;omega
  refine ⟨.inr (by simp only [Mem.newTop,if_true,Nat.zero_add];exact a),?_⟩
  have d:=Jf hus i hi j f
  rw [←d,←hc4,List.getElem?_take_of_lt a,Array.getElem?_toList]
  simp [World.cell?,hcur]
theorem ZaP {ρ:Ren} (L:Go.Proofs.SlLaysE0.n41 P ρ) (i0:TypeInfo) (z:Value) (size bytes:Nat) (hi:P.info? (ρ.t 23)=some i0) (hz0:i0.zero=some z) (hz1:i0.size=size) (hz2:i0.bytes=bytes) (hzs:z.cells.size=size) (hsz:0<size)
  (z23:∀ w,(Go.sizeOf (ρ.t 23)).run P w = .ok size w) (a:Addr) (c:Nat) (w:World) :
  Calls P (ρ.f 41) #[.slice (some a) 0 c] w fun e w'=>∃ v',e = .returned v'∧w'.ownsRow w.heap.size (ρ.t 23) size v' 0 []∧Below w.heap.size w w':=by
 have mixed:=L.mixed;have t4:=L.t4;have a4:=L.a4;have z4:=L.z4;have v4:=L.v4;have t22:=L.t22;have a22:=L.a22;have z22:=L.z22;have v22:=L.v22
 have q22:∀ (w:World) (a:Option Addr) (n c n' c':Nat),(binOp .eql (ρ.t 22) (.slice a n c) (.slice none n' c')).run P w = .ok (.bool a.isNone) w:=fun w a n c n' c'=>Lib.run_eql_slice_nil w _ _ a n c n' c' L.t22
 have u22:∀ w,Sem.run P (underlying (ρ.t 22)) w = .ok (TypeDesc.slice (ρ.t 23)) w:=run_underlying t22
 obtain ⟨_,_,FG⟩:=L.f41
 go_enter FG,Go.Proofs.SlBodyN.n41_ntmps ρ
 go_wp2_with (at_builtin;refine wpList_append_own _ rfl _ _ (ρ.t 22) rfl w.heap.size (ρ.t 23) i0 z size bytes t22 hi hz0 hz1 hz2 hzs hsz _ _ _ rfl (World.ownsRow_made w #[] 0 (Nat.le_refl _) (Nat.zero_le _) (by simp)) a 0 c [] rfl (by simp) (by intro j u hj;simp at hj) (by intro u hu;cases hu) (by unfold maxLen;omega) (by omega) (by simp) ?_)
 intro v' w1 hown hgrow hnil
 go_wp2
 go_ret
 exact ⟨v',rfl,by simpa using hown,((Below.refl _ w).alloc (Nat.le_refl _) _).grown hgrow (by simp) (by intro k hk;simp [Value.ownBlock] at hk;omega)⟩
theorem Zbz {ρ:Ren} (L:Go.Proofs.SlLaysE0.n41 P ρ) (hen:KI P (ρ.f 41)) (i0:TypeInfo) (z:Value) (size bytes:Nat) (hi:P.info? (ρ.t 23)=some i0) (hz0:i0.zero=some z) (hz1:i0.size=size) (hz2:i0.bytes=bytes) (hzs:z.cells.size=size) (hsz:0<size)
  (z23:∀ w,(Go.sizeOf (ρ.t 23)).run P w = .ok size w) {xs:List AV} {o:Own} (hx:∀ y∈xs,y.cells.length=size) (h1:∀ y∈xs,A3 y=true) (hbig:xs.length*bytes≤140737488355328) :
  ACalls P w0 (ρ.f 41) [.list xs o] st fun r s=>r = .list xs .none∧s=st:=by
 refine ⟨hen,fun M w n m h=>?_⟩
 obtain ⟨v,rfl⟩:∃ v,n = #[v]:=by
  have:=h.1
  simp only [List.length_cons,List.length_nil] at this
  exact Array.size_eq_one_iff.1 this
 have hv:R w0 M w v (.list xs o):=h.2 0 (by simp) (by simp)
 cases hv with
 | nil ho =>
  refine (Go.Proofs.AnyE.slices_Clone_nil L 0 0 w).mono ?_
  rintro en N ⟨rfl,rfl⟩
  exact ⟨_,M,_,st,rfl,⟨rfl,rfl⟩,.refl _ _ _,m,.nil (fun id=>by simp)⟩
 | @emp ad _ ho =>
  refine (ZaP L i0 z size bytes hi hz0 hz1 hz2 hzs hsz z23 ad 0 w).mono ?_
  rintro en N ⟨J,rfl,a,c⟩
  obtain ⟨M',G,x,H⟩:=Zaz (xs:=[]) (us:=fun _=>undef) m c a rfl (fun i hi=>absurd hi (by omega)) (fun i hi=>absurd hi (by simp))
  exact ⟨J,M',_,st,rfl,⟨rfl,rfl⟩,G,x,H⟩
 | @list b off cap _ _ sz us hc hm hcell hu ho =>
  have d:∀ i,i<xs.length→(us i).cells.size=size:=fun i hi=>by
   rw [((hu i hi).cells).1];exact hx _ (List.getElem_mem _)
  have g:∀ i,i<xs.length→∀ j,j<size→w.cell? ⟨b,off+i*size+j,none⟩=(us i).cells[j]? := fun i hi j K=>by
   have e:sz=size:=((hcell i hi).1).symm.trans (d i hi)
   subst e
   exact ((hcell i hi).2 j K).2
  refine (Go.Proofs.AnyE.slices_Clone L i0 z size bytes hi hz0 hz1 hz2 hzs hsz z23 b off xs.length cap (flat us xs.length) w (A1 d) (Nat.le_trans hc hm) hbig (fun j u K=>?_) (fun u C=>?_)).mono ?_
  ·have:=GE d hsz g j u K
   rwa [E0] at this
  ·obtain ⟨i,D,E⟩:=List.mem_flatMap.1 C
   have l:i<xs.length:=by simpa using D
   obtain ⟨k,O,rfl⟩:=List.mem_iff_getElem.1 E
   have p:=(hu i l).cells
   have q:k<(us i).cells.size:=by simpa using O
   have:=p.2 k q (by rw [←p.1];exact q)
   rw [Array.getElem_toList]
   refine this.oneCell ((hu i l).cellsOne (fun vs F=>?_) _ (List.getElem_mem _))
   have:=h1 _ (List.getElem_mem l)
   rw [F] at this;cases this
  ·rintro en N ⟨J,rfl,a,_,c⟩
   obtain ⟨M',G,x,H⟩:=Zaz m c a rfl d hu
   exact ⟨J,M',_,st,rfl,⟨rfl,rfl⟩,G,x,H⟩
def Zcg (P:Program) (t:TypeId) (size bytes:Nat):Bool :=
 match P.info? t with
 | some i=>(i.size == size)&&(i.bytes == bytes)&&(match i.zero with | some z=>z.cells.size == size | none=>false)
 | none=>false
theorem VW {t:TypeId} {size bytes:Nat} (h:Zcg P t size bytes=true):∃ i0 z,P.info? t=some i0∧i0.zero=some z∧i0.size=size∧i0.bytes=bytes∧z.cells.size=size:=by
 unfold Zcg at h
 cases hi:P.info? t with
 | none=>simp [hi] at h
 | some i =>
  simp only [hi,Bool.and_eq_true,beq_iff_eq] at h
  cases hz:i.zero with
  | none=>simp [hz] at h
  | some z =>
   simp only [hz,beq_iff_eq] at h
   exact ⟨i,z,rfl,hz,h.1.1,h.1.2,h.2⟩
theorem TO {ρ:Ren} (L:Go.Proofs.SlLaysE0.n41 P ρ) (hen:KI P (ρ.f 41)) (size bytes:Nat) (hi:Zcg P (ρ.t 23) size bytes=true) (hsz:0<size) (z23:∀ w,(Go.sizeOf (ρ.t 23)).run P w = .ok size w) {xs:List AV} {o:Own}
  (hx:∀ y∈xs,y.cells.length=size∧A3 y=true) (hbig:xs.length*bytes≤140737488355328):ACalls P w0 (ρ.f 41) [.list xs o] st fun r s=>r = .list xs .none∧s=st:=by
 obtain ⟨b,z,a1,a2,a3,a4,a5⟩:=VW hi
 exact Zbz L hen b z size bytes a1 a2 a3 a4 a5 hsz z23 (fun y a=>(hx y a).1) (fun y a=>(hx y a).2) hbig
end
end Go.Ev
