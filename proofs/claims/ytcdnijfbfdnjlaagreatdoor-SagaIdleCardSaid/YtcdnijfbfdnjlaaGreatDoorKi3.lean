/-
  Part 3 of the proof: rules and walks that the claim's last text uses.
-/
import Derived.Ground.Names2Prog
import Derived.Ground.NamesProg
import Derived.Ground.SlgfProg
import Derived.Ground.SlgnProg
import Derived.Ground.SlsfProg
import Derived.Shelf.LaysC
import Derived.Shelf.LaysM
import Derived.Shelf.Small.Bits
import Derived.Shelf.Small.Strs
import Derived.Shelf.Small.Utf8
import Derived.Shelf.Strconv.Atoi
import Derived.Shelf.Strconv.AtoiAll
import Derived.Shelf.Strconv.AtoiErrFast
import Derived.Shelf.Strconv.AtoiFail
import Derived.Shelf.Strconv.AtoiInnerAll
import Derived.Shelf.Strconv.AtoiLong
import Derived.Shelf.Strconv.Clone
import Derived.Shelf.Strconv.Itoa0
import Derived.Shelf.Strconv.Itoa1
import Derived.Shelf.Strconv.Itoa2
import Derived.Shelf.Strconv.Itoa3
import Derived.Shelf.Strconv.Lower
import Derived.Shelf.Strconv.ParseInt10
import Derived.Shelf.Strconv.ParseIntEmpty
import Derived.Shelf.Strconv.ParseUint10
import Derived.Shelf.Strconv.ParseUint10Any
import Derived.Shelf.Strconv.ParseUint10Empty
import Derived.Shelf.Strconv.RangeError
import Derived.Shelf.Strconv.SyntaxError
import Derived.Shelf.Strconv.ToError
import Derived.Shelf.Strconv.ToErrorRange
import Derived.Shelf.Strings.AsciiSet
import Derived.Shelf.Strings.Cut
import Derived.Shelf.Strings.IndexAny
import Derived.Shelf.Strings.IndexAnyAll
import Derived.Shelf.Strings.Repeat
import Derived.Shelf.Strings.Runes
import Derived.Shelf.Strings.Search1
import Derived.Shelf.Strings.Search2
import Derived.Shelf.Strings.Shaped
import Derived.Shelf.Unicode.Decode
import Derived.Shelf.Unicode.DecodeAny
import Derived.Shelf.Unicode.DecodeSlow
import Derived.Shelf.Unicode.ValidAny
import Derived.Shelf.Utf8.AppendRunePlain
import Derived.Test.YtcdnijfbfdnjlaaGreatDoorProg
import Derived.Test.YtcdnijfbfdnjlaaGreatDoorKi2
set_option linter.unusedSimpArgs false
set_option linter.unusedVariables false
set_option maxRecDepth 100000
set_option maxHeartbeats 4000000
namespace Go.Ev
open Go Go.RowKit
def AV.pubA:AV→AV
 | .tup vs => .tup (vs.map AV.pub)
 | .agg cs => .agg (cs.map AV.pubCell)
 | .list xs _ => .list xs .none
 | x=>x
section
variable (vs cs xs:List AV) (o:Own) (v:Value) (x:AV) (i j k m:Nat)
@[go_sem] theorem Zlz:AV.pubA (.tup vs) = .tup (vs.map AV.pub):=rfl
@[go_sem] theorem Zk3:AV.pubA (.agg cs) = .agg (cs.map AV.pubCell):=rfl
@[go_sem] theorem ZkG:AV.pubA (.list xs o) = .list xs .none:=rfl
@[go_sem] theorem Is:AV.pubA (.val v) = .val v:=rfl
@[go_sem] theorem Zkd:AV.pubA (.elem x i) = .elem x i:=rfl
@[go_sem] theorem Zl4:AV.pubA (.box i j) = .box i j:=rfl
@[go_sem] theorem Zmc:AV.pubA (.clo i xs) = .clo i xs:=rfl
@[go_sem] theorem Zk1:AV.pubA (.yld i) = .yld i:=rfl
@[go_sem] theorem Znp:AV.pubA (.mp i) = .mp i:=rfl
@[go_sem] theorem Zmv (l:List (Int × FuncId)):AV.pubA (.tab l) = .tab l:=rfl
@[go_sem] theorem ZlH:AV.pubA (.vec i j k m) = .vec i j k m:=rfl
@[go_sem] theorem Zk2:AV.pubA (.vel i j k) = .vel i j k:=rfl
@[go_sem] theorem ZmS:AV.pub (.agg cs) = .agg (cs.map AV.pubCell):=rfl
@[go_sem] theorem ZlR:AV.pub (.list xs o) = .list xs .none:=rfl
@[go_sem] theorem Znr:AV.pub (.val v) = .val v:=rfl
@[go_sem] theorem ZlV:AV.pub (.elem x i) = .elem x i:=rfl
@[go_sem] theorem Zm4:AV.pub (.box i j) = .box i j:=rfl
@[go_sem] theorem Zm2:AV.pub (.clo i xs) = .clo i xs:=rfl
@[go_sem] theorem ZmU:AV.pub (.yld i) = .yld i:=rfl
@[go_sem] theorem Znw:AV.pub (.mp i) = .mp i:=rfl
@[go_sem] theorem ZmY (l:List (Int × FuncId)):AV.pub (.tab l) = .tab l:=rfl
@[go_sem] theorem ZmM:AV.pub (.vec i j k m) = .vec i j k m:=rfl
@[go_sem] theorem Zm7:AV.pub (.vel i j k) = .vel i j k:=rfl
@[go_sem] theorem ZgC:AV.pubCell (.list xs o) = .list xs .none:=rfl
@[go_sem] theorem ZhP:AV.pubCell (.val v) = .val v:=rfl
@[go_sem] theorem Zg6:AV.pubCell (.elem x i) = .elem x i:=rfl
@[go_sem] theorem Zhz:AV.pubCell (.box i j) = .box i j:=rfl
@[go_sem] theorem Zhj:AV.pubCell (.clo i xs) = .clo i xs:=rfl
@[go_sem] theorem Zhu:AV.pubCell (.yld i) = .yld i:=rfl
@[go_sem] theorem Zjf:AV.pubCell (.mp i) = .mp i:=rfl
@[go_sem] theorem ZhZ (l:List (Int × FuncId)):AV.pubCell (.tab l) = .tab l:=rfl
@[go_sem] theorem Zhn:AV.pubCell (.vec i j k m) = .vec i j k m:=rfl
@[go_sem] theorem Zh0:AV.pubCell (.vel i j k) = .vel i j k:=rfl
end
theorem R.pubA {w0:World} {M:Mem} {w:World} {v:Value} {x:AV} (h:R w0 M w v x):R w0 M w v x.pubA:=by
 cases h with
 | tup hl h=>exact .tup (by simpa using hl) (fun i a b=>by simp only [List.getElem_map];exact (h i a (by simpa using b)).pub)
 | flat hf=>exact (R.flat hf).pub
 | agg hl h1 h=>exact (R.agg hl h1 h).pub
 | nil ho=>exact (R.nil ho).pub
 | emp ho=>exact (R.emp ho).pub
 | list sz us hc hm hcell hu ho=>exact (R.list sz us hc hm hcell hu ho).pub
 | elem u k hcell hu=>exact (R.elem u k hcell hu).pub
 | box hl=>exact (R.box hl).pub
 | clo hl h=>exact (R.clo hl h).pub
 | yld hk=>exact (R.yld hk).pub
 | mp hk=>exact (R.mp hk).pub
 | tab h hk hn=>exact (R.tab h hk hn).pub
 | vec hi hv h=>exact (R.vec hi hv h).pub
 | vel hi hv h=>exact (R.vel hi hv h).pub
section
variable {P:Program} {w0:World} {st:St} {f:FuncId}
theorem ACalls.pub {args args':List AV} {Post:AV→St→Prop} (h:ACalls P w0 f args' st Post) (he:args.map AV.pubA=args'):ACalls P w0 f args st Post:=by
 subst he
 refine ⟨h.1,fun M w c e d=>h.2 M w c e ?_⟩
 obtain ⟨g,j⟩:=d
 refine ⟨by simpa using g,fun i a b=>?_⟩
 simp only [List.getElem_map]
 exact (j i a (by simpa using b)).pubA
theorem Aw {c d:Bool} {cs args args':List AV} {k:AV→St→Prop} (v:AV)
  (h:ACalls P w0 f args' st fun r s=>r=v∧s=st) (he:(args++cs).map AV.pubA=args') (hk:k v st):I3 P w0 c d (.clo f cs) args st k := .inl ⟨v,fun _=>h.pub he,hk⟩
theorem Yq {c d:Bool} {cs args args':List AV} {k:AV→St→Prop} (v:AV)
  (h:c=true→ACalls P w0 f args' st fun r s=>r=v∧s=st) (he:(args++cs).map AV.pubA=args') (hk:k v st):I3 P w0 c d (.clo f cs) args st k := .inl ⟨v,fun q=>(h q).pub he,hk⟩
theorem RA {cs args args':List AV} {k:AV→St→Prop} (Post:AV→St→Prop)
  (h:ACalls P w0 f args' st Post) (he:(args++cs).map AV.pubA=args') (hk:∀ v s,Post v s→k v s):I3 P w0 true false (.clo f cs) args st k := .inr ⟨rfl,Post,fun _=>h.pub he,fun v s a _=>hk v s (a rfl)⟩
def finP (st:St) (Post:AV→St→Prop) (r:AV) (s:St):Prop :=
 st.boxes.length≤s.boxes.length∧st.rows.length≤s.rows.length∧st.loops.length≤s.loops.length∧Calm st.boxes.length st.rows.length st.loops.length (s.cut st.boxes.length st.rows.length st.loops.length) ∧
  Under st.boxes.length st.rows.length st.loops.length r.pubA∧Post r.pubA (s.cut st.boxes.length st.rows.length st.loops.length)
theorem ACalls.finP {args:List AV} {Post:AV→St→Prop} (h:ACalls P w0 f args st (finP st Post)):ACalls P w0 f args st Post:=by
 refine ⟨h.1,fun M w b a c=>(h.2 M w b a c).mono ?_⟩
 rintro en n ⟨v,M',r,k,j,⟨g,d,e,l,m,i⟩,h3,h4,h5⟩
 exact ⟨v,M'.cut st.boxes.length st.rows.length st.loops.length,r.pubA,_,j,i,h3.cut (by have:=a.N;omega) (by have:=a.NR;omega) (by have:=a.loop.NL;omega) (by rw [h4.loop.NL];exact e) (by rw [h4.N];exact g) (by rw [h4.NR];exact d),h4.cut g d e l,h5.pubA.cut (by have:=h4.loop.NL;omega) m⟩
def finN (k:Nat) (st:St) (Post:AV→St→Prop) (r:AV) (s:St):Prop :=
 st.boxes.length+k≤s.boxes.length∧st.rows.length≤s.rows.length∧st.loops.length≤s.loops.length∧Calm (st.boxes.length+k) st.rows.length st.loops.length (s.cut (st.boxes.length+k) st.rows.length st.loops.length) ∧
  Under (st.boxes.length+k) st.rows.length st.loops.length r∧Post r (s.cut (st.boxes.length+k) st.rows.length st.loops.length)
theorem ACalls.finN (k:Nat) {args:List AV} {Post:AV→St→Prop} (h:ACalls P w0 f args st (Go.Ev.finN k st Post)):ACalls P w0 f args st Post:=by
 refine ⟨h.1,fun M w b a c=>(h.2 M w b a c).mono ?_⟩
 rintro en o ⟨v,M',r,l,j,⟨g,d,e,m,n,i⟩,h3,h4,h5⟩
 exact ⟨v,M'.cut (st.boxes.length+k) st.rows.length st.loops.length,r,_,j,i,h3.cut (by have:=a.N;omega) (by have:=a.NR;omega) (by have:=a.loop.NL;omega) (by rw [h4.loop.NL];exact e) (by rw [h4.N];exact g) (by rw [h4.NR];exact d),h4.cut g d e m,h5.cut (by have:=h4.loop.NL;omega) n⟩
theorem KG {B:List (List AV)} {Rw:List RowA} {L:List LoopA} {s:St} {Post:AV→St→Prop} {v:AV} (hc:Ev.Calm B.length Rw.length L.length ⟨B,Rw,L⟩) (h1:B <+: s.boxes) (h2:Rw <+: s.rows) (h3:L <+: s.loops) (hu:Under B.length Rw.length L.length v.pubA) (hp:Post v.pubA ⟨B,Rw,L⟩) :
  Go.Ev.finP ⟨B,Rw,L⟩ Post v s:=by
 obtain ⟨b,e1⟩:=h1
 obtain ⟨r,e2⟩:=h2
 obtain ⟨l,e3⟩:=h3
 obtain ⟨c,a,d⟩:=s
 simp only at e1 e2 e3
 subst e1 e2 e3
 have e:St.cut ⟨B++b,Rw++r,L++l⟩ B.length Rw.length L.length=⟨B,Rw,L⟩:=by simp [St.cut]
 exact ⟨by simp,by simp,by simp,by simp only [e];exact hc,hu,by simp only [e];exact hp⟩
end
@[go_sem] theorem ZhW (xs c:List AV) (h:xs.length=c.length):BJ xs 0 c=c:=by simp [BJ,h]
section
universe u v
variable {α:Type u} {β:Type v} {r:β}
theorem An {c:Prop} [Decidable c] {x:Option β} (h:(if c then x else none)=some r):c∧x=some r:=by
 by_cases q:c
 ·rw [Ah q] at h;exact ⟨q,h⟩
 ·rw [Ai q] at h;cases h
theorem bind_some {o:Option α} {f:α→Option β} (h:o.bind f=some r):∃ x,o=some x∧f x=some r:=by
 cases o with
 | none=>cases h
 | some x=>exact ⟨x,rfl,h⟩
theorem DK {b:Bool} {x y:β} (h:(if b=true then x else y)=r) (hb:b=true):x=r:=by rwa [Ah hb] at h
theorem DI {b:Bool} {x y:β} (h:(if b=true then x else y)=r) (hb:b=false):y=r:=by rwa [Ai (by simp [hb])] at h
def EA (xs:List α) (i:Int):Option α:=if 0≤i then xs[i.toNat]? else none
theorem Fq {xs:List α} {i:Int} {x:α} (h:EA xs i=some x):0≤i∧i<xs.length∧xs[i.toNat]? = some x:=by
 unfold EA at h
 obtain ⟨b,a⟩:=An h
 have:=(Aj.1 a).1
 exact ⟨b,by omega,a⟩
theorem ZjS {xs:List α} {i:Nat} (h:i<xs.length):EA xs (i:Int)=some xs[i]:=by simp [EA,h]
theorem Fe {f:α→AV} {xs:List α} {i:Nat} {x:α} (h:xs[i]? = some x):(xs.map f).getD i .junk=f x:=by simp [List.getD,h]
end
abbrev Ba (n:Int):Prop := -9223372036854775808≤n∧n≤9223372036854775807
theorem Cf {nb nr nl nb' nr' nl':Nat} {x:AV} (h1:nb≤nb') (h2:nr≤nr') (h3:nl≤nl') (h:Under nb nr nl x):Under nb' nr' nl' x:=by
 induction h with
 | val v=>exact .val v
 | list h ho ih=>exact .list ih (by rename_i o;cases o<;>first | trivial | exact Nat.lt_of_lt_of_le ho h2)
 | elem h ih=>exact .elem ih
 | box h=>exact .box (by omega)
 | clo h ih=>exact .clo ih
 | agg h ih=>exact .agg ih
 | tup h ih=>exact .tup ih
 | yld h=>exact .yld (by omega)
 | mp h=>exact .mp (by omega)
 | tab=>exact .tab
 | vec h=>exact .vec (by omega)
 | vel h=>exact .vel (by omega)
def OwnsAt (lo:Nat) (ho:Own) (rows:Au) (x:Nat × Nat × Own):Prop:=x.2.2 = .full∨∃ id,x.2.2 = .row id∧(lo≤id∨ho = .row id)∧rows[id]? = some (.grow x.2.1 x.1)
inductive VO where
 | nil
 | row (id ver:Nat)
abbrev VE:=VO × Nat × List AV
def VAt (lo:Nat) (ho:Own) (rows:Au) (x:VE):Prop:=(x.1 = .nil∧x.2.2=[])∨∃ id ver,x.1 = .row id ver∧(lo≤id∨ho = .row id)∧rows[id]? = some (.vec ver x.2.1 x.2.2)
def TP (v:List VE) (i:Nat):Prop:=∀ x∈v,∀ ver,x.1 ≠ .row i ver
theorem V6 (i:Nat):TP [] i:=fun _ h=>(nomatch h)
structure Owns (Rw rows:Au) (l:List (Nat × Nat × Own)) (ho:Own := .none) (v:List VE:=[]):Prop where
 len:Rw.length≤rows.length
 keep:∀ i,i<Rw.length→ho ≠ .row i→rows[i]? = Rw[i]?
 calm:∀ i r,rows[i]? = some r→(Rw.length≤i∨ho = .row i)→TP v i→r.cells=[]
 each:∀ x∈l,OwnsAt Rw.length ho rows x
 apart:l.Pairwise fun x y=>∀ id,x.2.2 = .row id→y.2.2 ≠ .row id
 veach:∀ x∈v,VAt Rw.length ho rows x
 vapart:v.Pairwise fun x y=>∀ id a b,x.1 = .row id a→y.1 ≠ .row id b
section
variable {Rw rows:List RowA} {l:List (Nat × Nat × Own)} {ho:Own} {v:List VE}
theorem Owns.none (Rw:Au):Owns Rw Rw []:=by
 refine ⟨Nat.le_refl _,fun _ _ _=>rfl,fun i r h q _=>?_,by simp,.nil,by simp,.nil⟩
 have:=(Aj.1 h).1
 rcases q with q | q
 ·omega
 ·cases q
theorem Owns.pre (h:Owns Rw rows l .none v):Rw <+: rows:=by
 rw [List.prefix_iff_getElem?]
 intro i hi
 rw [h.keep i hi (fun q=>by cases q),List.getElem?_eq_getElem hi]
theorem Owns.sub {l':List (Nat × Nat × Own)} (h:Owns Rw rows l ho v) (hs:l'.Sublist l):Owns Rw rows l' ho v :=
 ⟨h.len,h.keep,h.calm,fun x a=>h.each x (hs.subset a),h.apart.sublist hs,h.veach,h.vapart⟩
theorem Owns.full (h:Owns Rw rows l ho v) (sz n:Nat):Owns Rw rows ((sz,n,.full)::l) ho v :=
 ⟨h.len,h.keep,h.calm,fun x hx=>by
  rcases List.mem_cons.1 hx with rfl | hx
  ·exact .inl rfl
  ·exact h.each x hx,List.pairwise_cons.2 ⟨fun _ _ id q=>(nomatch q),h.apart⟩,h.veach,h.vapart⟩
theorem VAt.up {lo:Nat} {x:VE} (h:VAt lo ho rows x) (r:Au):VAt lo ho (rows++r) x:=by
 rcases h with h | ⟨id,ver,h1,h2,h3⟩
 ·exact .inl h
 ·exact .inr ⟨id,ver,h1,h2,by rw [List.getElem?_append_left (Aj.1 h3).1];exact h3⟩
theorem VAt.set {lo:Nat} {x:VE} (h:VAt lo ho rows x) {i:Nat} (hi:∀ ver,x.1 ≠ .row i ver) (r:RowA):VAt lo ho (rows.set i r) x:=by
 rcases h with h | ⟨id,ver,h1,h2,h3⟩
 ·exact .inl h
 ·exact .inr ⟨id,ver,h1,h2,by rw [List.getElem?_set_ne (fun (e:i=id)=>hi ver (by rw [e];exact h1))];exact h3⟩
theorem Owns.make (h:Owns Rw rows l ho v) (sz n:Nat):Owns Rw (rows++[.grow n sz]) ((sz,n,.row rows.length)::l) ho v:=by
 have c:=h.len
 refine ⟨by simp;omega,fun i b e=>?_,fun i r a q d=>?_,fun x hx=>?_,List.pairwise_cons.2 ⟨fun y f id q k=>?_,h.apart⟩,fun x hx=>(h.veach x hx).up _,h.vapart⟩
 ·rw [List.getElem?_append_left (by omega)];exact h.keep i b e
 ·by_cases b:i<rows.length
  ·rw [List.getElem?_append_left b] at a;exact h.calm i r a q d
  ·rw [List.getElem?_append_right (by omega)] at a
   have:=List.mem_of_getElem? a
   simp only [List.mem_singleton] at this;subst this;rfl
 ·rcases List.mem_cons.1 hx with rfl | hx
  ·exact .inr ⟨_,rfl,.inl c,by simp⟩
  ·rcases h.each x hx with q | ⟨id,q1,q2,q3⟩
   ·exact .inl q
   ·exact .inr ⟨id,q1,q2,by rw [List.getElem?_append_left (Aj.1 q3).1];exact q3⟩
 ·rcases h.each y f with q' | ⟨id',q1,q2,q3⟩
  ·rw [q'] at k;cases k
  ·rw [q1] at k;cases k;cases q
   exact absurd (Aj.1 q3).1 (Nat.lt_irrefl _)
theorem Owns.unders (h:Owns Rw rows l ho v):∀ x∈l,x.2.2.under rows.length:=fun x a=>by
 rcases h.each x a with q | ⟨id,q1,q2,q3⟩
 ·rw [q];trivial
 ·rw [q1];exact (Aj.1 q3).1
theorem Owns.of_eq {l':List (Nat × Nat × Own)} (h:Owns Rw rows l ho v) (he:l=l'):Owns Rw rows l' ho v:=he▸h
theorem Owns.swap {l':List (Nat × Nat × Own)} (h:Owns Rw rows l ho v) (hp:l.Perm l'):Owns Rw rows l' ho v :=
 ⟨h.len,h.keep,h.calm,fun x c=>h.each x (hp.mem_iff.2 c),(hp.pairwise_iff (R:=fun x y:Nat × Nat × Own=>∀ id,x.2.2 = .row id→y.2.2 ≠ .row id) (fun q id a b=>q id b a)).1 h.apart,h.veach,h.vapart⟩
theorem Owns.grow_off (h:Owns Rw rows l ho v) {sz n id:Nat} (hx:(sz,n,Own.row id)∈l):TP v id:=by
 intro x hv a e
 rcases h.each _ hx with q | ⟨id',q1,q2,q3⟩
 ·cases q
 ·cases q1
  rcases h.veach x hv with w | ⟨id2,ver2,w1,w2,w3⟩
  ·rw [w.1] at e;cases e
  ·rw [w1] at e;cases e
   rw [w3] at q3;cases q3
end
theorem UV {Rw rows:List RowA} (h:Rw <+: rows) {id:Nat} (hi:Rw.length≤id) (x:RowA):Rw <+: rows.set id x:=by
 obtain ⟨t,rfl⟩:=h
 rw [List.set_append_right _ _ hi]
 exact List.prefix_append _ _
theorem Owns.more {Rw rows:List RowA} {l:List (Nat × Nat × Own)} {ho:Own} {v:List VE} {sz n id:Nat} (h:Owns Rw rows ((sz,n,.row id)::l) ho v) (m:Nat):Owns Rw (rows.set id (.grow m sz)) ((sz,m,.row id)::l) ho v:=by
 have b:=h.grow_off (List.mem_cons_self ..)
 obtain ⟨w,g,p,f,t,k,u⟩:=h
 obtain ⟨hid,hrow⟩:(Rw.length≤id∨ho = .row id)∧rows[id]? = some (.grow n sz):=by
  rcases f _ (List.mem_cons_self ..) with q | ⟨id',q1,q2,q3⟩
  ·cases q
  ·cases q1;exact ⟨q2,q3⟩
 have a:=(Aj.1 hrow).1
 obtain ⟨c,o⟩:=List.pairwise_cons.1 t
 refine ⟨by simpa using w,fun i j d=>?_,fun i r hr q s=>?_,fun x hx=>?_,List.pairwise_cons.2 ⟨fun y z=>c y z,o⟩,fun x hx=>(k x hx).set (b x hx) _,u⟩
 ·have:id≠i:=by
   rintro rfl
   rcases hid with q | q
   ·omega
   ·exact d q
  rw [List.getElem?_set_ne this];exact g i j d
 ·by_cases e:id=i
  ·subst e
   rw [List.getElem?_set_self a] at hr
   cases hr;rfl
  ·rw [List.getElem?_set_ne e] at hr;exact p i r hr q s
 ·rcases List.mem_cons.1 hx with rfl | hx
  ·exact .inr ⟨id,rfl,hid,by simp [a]⟩
  ·rcases f x (List.mem_cons_of_mem _ hx) with q | ⟨id',q1,q2,q3⟩
   ·exact .inl q
   ·have:id'≠id:=fun e=>c x hx id rfl (e▸q1)
    exact .inr ⟨id',q1,q2,by rw [List.getElem?_set_ne (Ne.symm this)];exact q3⟩
theorem Owns.inV {Rw rows:List RowA} {l:List (Nat × Nat × Own)} {ho:Own} {v:List VE} (h:Owns Rw rows l ho v) {i:Nat} {r:RowA} (hr:rows[i]? = some r) (hi:¬ TP v i):∃ x∈v,r.cells=x.2.2∧(Rw.length≤i∨ho = .row i):=by
 simp only [TP,ne_eq,Classical.not_forall,Classical.not_not] at hi
 obtain ⟨x,a,b,e⟩:=hi
 rcases h.veach x a with w | ⟨id,ver',w1,w2,w3⟩
 ·rw [w.1] at e;cases e
 ·rw [w1] at e;cases e
  rw [w3] at hr;cases hr
  exact ⟨x,a,rfl,w2⟩
theorem Owns.rowsCalm {Rw rows:List RowA} {l:List (Nat × Nat × Own)} {ho:Own} {v:List VE} (h:Owns Rw rows l ho v) {nb nb' nl:Nat} (hb:nb≤nb') (hc:∀ r∈Rw,∀ x∈r.cells,Under nb Rw.length nl x) (hv:∀ x∈v,∀ y∈x.2.2,Under nb' rows.length nl y:=by intro x hx;cases hx):∀ r∈rows,∀ x∈r.cells,Under nb' rows.length nl x:=fun r d x hx=>by
 obtain ⟨i,c,rfl⟩:=List.mem_iff_getElem.1 d
 have b:rows[i]? = some rows[i]:=List.getElem?_eq_getElem c
 by_cases qv:TP v i
 case neg =>
  obtain ⟨y,f,e,_⟩:=h.inV b qv
  rw [e] at hx
  exact hv y f x hx
 by_cases q:Rw.length≤i∨ho = .row i
 ·rw [h.calm i _ b q qv] at hx;cases hx
 ·have a:i<Rw.length:=by omega
  have:=h.keep i a (fun e=>q (.inr e))
  rw [b,List.getElem?_eq_getElem a] at this
  rw [Option.some.inj this] at hx
  exact Cf hb h.len (Nat.le_refl _) (hc _ (List.getElem_mem a) x hx)
theorem Owns.call {Rw rows rows':List RowA} {l:List (Nat × Nat × Own)} {ho o o':Own} {v:List VE} {sz n n':Nat} (h:Owns Rw rows ((sz,n,o)::l) ho v) (hc:Owns rows rows' [(sz,n',o')] o):Owns Rw rows' ((sz,n',o')::l) ho v:=by
 have d:=h.each _ (List.mem_cons_self ..)
 have c:∀ i,o = .row i→TP v i:=fun i e=>h.grow_off (sz:=sz) (n:=n) (by rw [←e];exact List.mem_cons_self ..)
 obtain ⟨g,s⟩:=List.pairwise_cons.1 h.apart
 have a:∀ i,o = .row i→(Rw.length≤i∨ho = .row i)∧i<rows.length:=fun i e=>by
  rcases d with q | ⟨id,q1,q2,q3⟩
  ·simp only at q;rw [e] at q;cases q
  ·simp only at q1;rw [e] at q1;cases q1
   exact ⟨q2,(Aj.1 q3).1⟩
 have z:=h.len
 have u:=hc.len
 have b:=hc.each _ (List.mem_cons_self ..)
 refine ⟨by omega,fun i p j=>?_,fun i r f q t=>?_,fun x hxm=>?_,List.pairwise_cons.2 ⟨fun y m id e=>?_,s⟩,fun x d=>?_,h.vapart⟩
 ·have:o ≠ .row i:=fun e=>by
   rcases (a i e).1 with q | q
   ·omega
   ·exact j q
  rw [hc.keep i (by omega) this];exact h.keep i p j
 ·by_cases e:rows.length≤i∨o = .row i
  ·exact hc.calm i r f e (V6 i)
  ·rw [hc.keep i (by omega) (fun k=>e (.inr k))] at f
   exact h.calm i r f q t
 ·rcases List.mem_cons.1 hxm with rfl | hxm
  ·rcases b with q | ⟨id,q1,q2,q3⟩
   ·exact .inl q
   ·refine .inr ⟨id,q1,?_,q3⟩
    rcases q2 with q2 | q2
    ·exact .inl (by omega)
    ·exact (a id q2).1
  ·rcases h.each x (List.mem_cons_of_mem _ hxm) with q | ⟨id,q1,q2,q3⟩
   ·exact .inl q
   ·refine .inr ⟨id,q1,q2,?_⟩
    rw [hc.keep id (Aj.1 q3).1 (fun e=>g x hxm id e q1)]
    exact q3
 ·intro k
  rcases b with q | ⟨id',q1,q2,q3⟩
  ·simp only at q e;rw [q] at e;cases e
  ·simp only at q1 e
   rw [q1] at e;cases e
   rcases q2 with q2 | q2
   ·rcases h.each y (List.mem_cons_of_mem _ m) with w | ⟨id,w1,w2,w3⟩
    ·rw [w] at k;cases k
    ·rw [w1] at k;cases k
     have:=(Aj.1 w3).1
     omega
   ·exact g y m _ q2 k
 ·rcases h.veach x d with w | ⟨id,ver,w1,w2,w3⟩
  ·exact .inl w
  ·refine .inr ⟨id,ver,w1,w2,?_⟩
   rw [hc.keep id (Aj.1 w3).1 (fun e=>c id e x d ver w1)]
   exact w3
theorem Owns.append {P:Program} {t el:TypeId} {sz by8 n:Nat} {ag:Bool} {Rw rows:List RowA} {l:List (Nat × Nat × Own)} {o ho:Own} {v:List VE} (h:Owns Rw rows ((sz,n,o)::l) ho v) (he:GT P t=some (el,sz,ag,by8)) (hz:(AZ P el).isSome=true) (hs:0<sz) (m:Nat)
  (hb:(n+m)*by8≤140737488355328) (hb2:n+m≤4611686018427387904):∃ o' rows',Owns Rw rows' ((sz,n+m,o')::l) ho v ∧
   ∀ (xs ys:List AV) (B:Ao) (L:As) (o2:Own),xs.length=n→ys.length=m→(∀ y∈xs,y.cells.length=sz) →
    evAppend P ⟨B,rows,L⟩ t (.list xs o) (.list ys o2)=((∀ y∈ys,y.cells.length=sz∧AA y=true),.list (xs++ys.map AV.pub) o',⟨B,rows',L⟩):=by
 have b:∀ (ys:List AV),ys.length=m→appendOb P el sz by8 n ys=(∀ y∈ys,y.cells.length=sz∧AA y=true):=by
  intro ys f
  simp only [appendOb,hs,hz,f,hb,hb2,true_and]
 rcases h.each _ (List.mem_cons_self ..) with q | ⟨id,q1,q2,q3⟩
 ·simp only at q;subst q
  have e:=h.sub (List.sublist_cons_self _ _)
  by_cases hm:m=0
  ·subst hm
   refine ⟨.full,rows,e.full _ _,fun xs ys B L o2 c a d=>?_⟩
   have:ys=[]:=List.length_eq_zero_iff.1 a
   subst this
   simp [evAppend,he,AO,BA,hs]
  ·refine ⟨.row rows.length,rows++[.grow (n+m) sz],e.make _ _,fun xs ys B L o2 c a d=>?_⟩
   simp only [evAppend,he,AO,BA]
   rw [Aa,c,b ys a,a]
   simp only [true_and,Prod.mk.injEq,eq_iff_iff,and_true]
   exact ⟨fun q=>q.1,fun q=>⟨q,d⟩⟩
 ·simp only at q1;subst q1
  refine ⟨.row id,_,h.more (n+m),fun xs ys B L o2 c a d=>?_⟩
  simp only [evAppend,he,AO,BA]
  rw [c,b ys a,a]
  simp only [true_and,Prod.mk.injEq,eq_iff_iff,and_true]
  exact ⟨fun q=>q.1,fun q=>⟨q,d,q3⟩⟩
theorem Zcc {α:Type} {xs:List α} {i:Nat} {x:α} (h:xs[i]? = some x):xs.drop i=x::xs.drop (i+1):=by
 obtain ⟨a,rfl⟩:=Aj.1 h
 exact List.drop_eq_getElem_cons a
theorem P9 {M1:Mem} {B bs bs' XB:List (List AV)} {Rw rows rows':List RowA} {L XL lp:List LoopA} {la:LoopA} {l l':List (Nat × Nat × Own)} {oh:Own} (hra:RoundAt M1 ((St.push ⟨B++bs,rows,L⟩ la).ext ⟨XB,[],XL⟩)) (ho:Owns Rw rows l oh) (ho':Owns Rw rows' l' oh) (hlen:bs'.length=bs.length) (hr:rows.length≤rows'.length)
  (hlp:lp=(L++[la])++XL) (hbs:∀ cs∈bs',∀ x∈cs,Under (B.length+bs.length+XB.length) rows'.length lp.length x):Calm ((B++bs).length+XB.length) rows'.length lp.length ⟨(B++bs')++XB,rows',lp⟩:=by
 subst hlp
 have b:=hra.calm
 simp only [St.ext,St.push,List.append_nil] at b
 have e:((B++bs)++XB).length=(B++bs).length+XB.length:=List.length_append
 rw [e] at b
 refine ⟨fun r h x hx=>?_,fun cs h x hx=>?_,fun a m k x hx g=>Cf (Nat.le_refl _) hr (Nat.le_refl _) (b.loops a m k x hx g)⟩
 ·obtain ⟨i,f,rfl⟩:=List.mem_iff_getElem.1 h
  have d:rows'[i]? = some rows'[i]:=List.getElem?_eq_getElem f
  by_cases q:Rw.length≤i∨oh = .row i
  ·rw [ho'.calm i _ d q (V6 i)] at hx;cases hx
  ·have c:i<Rw.length:=by omega
   have e1:=ho'.keep i c (fun e=>q (.inr e))
   have j:=ho.keep i c (fun e=>q (.inr e))
   rw [d,←j] at e1
   exact Cf (Nat.le_refl _) hr (Nat.le_refl _) (b.rows _ (List.mem_of_getElem? e1.symm) x hx)
 ·rcases List.mem_append.1 h with h | h
  ·rcases List.mem_append.1 h with h | h
   ·exact Cf (Nat.le_refl _) hr (Nat.le_refl _) (b.boxes cs (by simp [h]) x hx)
   ·have:=hbs cs h x hx
    rwa [List.length_append]
  ·exact Cf (Nat.le_refl _) hr (Nat.le_refl _) (b.boxes cs (by simp [h]) x hx)
section
variable {P:Program} {w0:World} {n:Nat} {e:Env} {st:St} {M0:Mem} {W0:World} {ro:Option Nat} {Q:AQ} {c:Code}
theorem WS (l i:Nat) {cs:List AV} {x:AV} (hl:st.boxes[l]? = some cs) (hi:cs[i]? = some x) (h1:x.one=true) (h:Da P w0 n M0 W0 ro c Q e { st with boxes:=st.boxes.set l (cs.set i x.pubCell) }):Da P w0 n M0 W0 ro c Q e st :=
 NM _ _ (fun M _ w a=>⟨M,.refl _ _ _,a.st.setBox hl hi (by rw [AV.one_pubCell];exact h1) (fun v hv=>hv.pubCell),a.size,a.env⟩) h
theorem TN {a:AV} {xs:List AV} (h:a.pub = .list xs .none):∃ o,a = .list xs o:=by
 cases a<;>simp only [AV.pub,reduceCtorEq] at h
 ·cases h;exact ⟨_,rfl⟩
theorem G9 (l i:Nat) {cs:List AV} {a:AV} {xs:List AV} (hl:st.boxes[l]? = some cs) (hi:cs[i]? = some a) (ha:a.pub = .list xs .none) (h:Da P w0 n M0 W0 ro c Q e { st with boxes:=st.boxes.set l (cs.set i (.list xs .none)) }):Da P w0 n M0 W0 ro c Q e st:=by
 obtain ⟨o,rfl⟩:=TN ha
 exact WS l i hl hi rfl h
theorem Dw {nb nr nl:Nat} {f:FuncId} {cs:List AV} (h:Under nb nr nl (.clo f cs)):∀ nb' nr' nl',nb≤nb'→nr≤nr'→nl≤nl'→∀ x∈cs,Under nb' nr' nl' x :=
 fun _ _ _ a b c x d=>Cf a b c (L2.1 h x d)
theorem ZaC {B0 B bs X:List (List AV)} {Rw rows:List RowA} {L l':List LoopA} {l:List (Nat × Nat × Own)} {oh:Own} {v:List VE} (hN:M0.N=B0.length) (hNR:M0.NR=Rw.length) (hNL:M0.NL=L.length) (hB:B.length=B0.length) (hc:Calm B0.length Rw.length L.length ⟨B,Rw,L⟩) (ho:Owns Rw rows l oh v)
  (hbs:∀ cs∈bs,∀ x∈cs,Under (B0.length+bs.length) rows.length L.length x) (he:HH (B0.length+bs.length) rows.length L.length e)
  (h:Da P w0 n M0 W0 ro c Q e ⟨B++bs,rows,L⟩) (hv:∀ x∈v,∀ y∈x.2.2,Under (B0.length+bs.length) rows.length L.length y:=by intro x hx;cases hx):Da P w0 n M0 W0 ro c Q e ⟨B++(bs++X),rows,L++l'⟩:=by
 rw [←hB] at hN hc hbs he hv
 clear hB B0
 have g:=ho.len
 have e1:St.cut ⟨B++(bs++X),rows,L++l'⟩ (B.length+bs.length) rows.length L.length=⟨B++bs,rows,L⟩:=by
  simp only [St.cut,List.take_length,←List.append_assoc]
  rw [List.take_left' (by simp),List.take_left' rfl]
 refine TK (B.length+bs.length) rows.length L.length (by simp) (Nat.le_refl _) (by simp) (by omega) (by omega) (by omega) ?_ he (by rw [e1];exact h)
 rw [e1]
 refine ⟨fun r f x hx=>?_,fun cs hcs x hx=>?_,fun d a k x hx b=>?_⟩
 ·exact ho.rowsCalm (by omega) hc.rows hv r f x hx
 ·rcases List.mem_append.1 hcs with hcs | hcs
  ·exact Cf (by omega) (by omega) (Nat.le_refl _) (hc.boxes cs hcs x hx)
  ·exact hbs cs hcs x hx
 ·exact Cf (by omega) (by omega) (Nat.le_refl _) (hc.loops d a k x hx b)
theorem BW {B0 B bs X:List (List AV)} {Rw rows:List RowA} {L:List LoopA} {l:List (Nat × Nat × Own)} {oh:Own} {v:List VE} (hN:M0.N=B0.length) (hNR:M0.NR=Rw.length) (hNL:M0.NL=L.length) (hB:B.length=B0.length) (hc:Calm B0.length Rw.length L.length ⟨B,Rw,L⟩) (ho:Owns Rw rows l oh v)
  (hbs:∀ cs∈bs,∀ x∈cs,Under (B0.length+bs.length) rows.length L.length x) (he:HH (B0.length+bs.length) rows.length L.length e)
  (h:Da P w0 n M0 W0 ro c Q e ⟨B++bs,rows,L⟩) (hv:∀ x∈v,∀ y∈x.2.2,Under (B0.length+bs.length) rows.length L.length y:=by intro x hx;cases hx):Da P w0 n M0 W0 ro c Q e ⟨B++(bs++X),rows,L⟩:=by
 rw [←hB] at hN hc hbs he hv
 clear hB B0
 have g:=ho.len
 have e1:St.cut ⟨B++(bs++X),rows,L⟩ (B.length+bs.length) rows.length L.length=⟨B++bs,rows,L⟩:=by
  simp only [St.cut,List.take_length,←List.append_assoc]
  rw [List.take_left' (by simp)]
 refine TK (B.length+bs.length) rows.length L.length (by simp) (Nat.le_refl _) (Nat.le_refl _) (by omega) (by omega) (by omega) ?_ he (by rw [e1];exact h)
 rw [e1]
 refine ⟨fun r f x hx=>?_,fun cs hcs x hx=>?_,fun d a k x hx b=>?_⟩
 ·exact ho.rowsCalm (by omega) hc.rows hv r f x hx
 ·rcases List.mem_append.1 hcs with hcs | hcs
  ·exact Cf (by omega) (by omega) (Nat.le_refl _) (hc.boxes cs hcs x hx)
  ·exact hbs cs hcs x hx
 ·exact Cf (by omega) (by omega) (Nat.le_refl _) (hc.loops d a k x hx b)
end
theorem VC {B0 B bs:List (List AV)} {Rw rows:List RowA} {L:List LoopA} {l:List (Nat × Nat × Own)} {oh:Own} {v:List VE} (hB:B.length=B0.length) (hc:Calm B0.length Rw.length L.length ⟨B,Rw,L⟩) (ho:Owns Rw rows l oh v)
  (hbs:∀ cs∈bs,∀ x∈cs,Under (B0.length+bs.length) rows.length L.length x) (hv:∀ x∈v,∀ y∈x.2.2,Under (B0.length+bs.length) rows.length L.length y:=by intro x hx;cases hx):Calm (B0.length+bs.length) rows.length L.length ⟨B++bs,rows,L⟩:=by
 have e:=ho.len
 refine ⟨fun r d x hx=>?_,fun cs hcs x hx=>?_,fun c a k x hx b=>?_⟩
 ·exact ho.rowsCalm (by omega) hc.rows hv r d x hx
 ·rcases List.mem_append.1 hcs with hcs | hcs
  ·exact Cf (by omega) (by omega) (Nat.le_refl _) (hc.boxes cs hcs x hx)
  ·exact hbs cs hcs x hx
 ·exact Cf (by omega) (by omega) (Nat.le_refl _) (hc.loops c a k x hx b)
section
variable {P:Program} {w0:World} {st:St}
theorem Zfv {c d:Bool} {f:FuncId} {cs args args':List AV} {k:AV→St→Prop} (v:AV)
  (h:ACalls P w0 f args' st fun r s=>r=v∧s=st) (he:args++cs=args') (hk:k v st):I3 P w0 c d (.clo f cs) args st k := .inl ⟨v,fun _=>by
 show ACalls P w0 f (args++cs) st _
 rw [he];exact h,hk⟩
theorem IG {d:Bool} {fv:AV} {args:List AV} {k:AV→St→Prop} (h:k .junk st):I3 P w0 false d fv args st k := .inl ⟨.junk,fun q=>(nomatch q),h⟩
theorem Tq {B B' X:List (List AV)} {Rw rows:List RowA} {L:List LoopA} {Post:AV→St→Prop} {v:AV} (hc:Calm B.length Rw.length L.length ⟨B',Rw,L⟩) (hB:B'.length=B.length) (h2:Rw <+: rows) (hu:Under B.length Rw.length L.length v.pubA) (hp:Post v.pubA ⟨B',Rw,L⟩) :
  Go.Ev.finP ⟨B,Rw,L⟩ Post v ⟨B'++X,rows,L⟩:=by
 obtain ⟨r,rfl⟩:=h2
 have e:St.cut ⟨B'++X,Rw++r,L⟩ B.length Rw.length L.length=⟨B',Rw,L⟩:=by simp [St.cut,←hB]
 exact ⟨by simp [hB],by simp,by simp,by simp only [e];exact hc,hu,by simp only [e];exact hp⟩
end
theorem Rz {B B':List (List AV)} {Rw rows:List RowA} {L:List LoopA} {Post:AV→St→Prop} {v:AV} (hc:Calm B.length Rw.length L.length ⟨B',Rw,L⟩) (hB:B'.length=B.length) (h2:Rw <+: rows) (hu:Under B.length Rw.length L.length v.pubA) (hp:Post v.pubA ⟨B',Rw,L⟩) :
  Go.Ev.finP ⟨B,Rw,L⟩ Post v ⟨B',rows,L⟩:=by
 have:=Tq (X:=[]) hc hB h2 hu hp
 rwa [List.append_nil] at this
theorem Zlr {k:Nat} {B bs:List (List AV)} {Rw rows:List RowA} {L:List LoopA} {Post:AV→St→Prop} {v:AV} {l:List (Nat × Nat × Own)} (hk:bs.length=k) (hc:Calm B.length Rw.length L.length ⟨B,Rw,L⟩) (hO:Owns Rw rows l .none)
  (hbs:∀ cs∈bs,∀ x∈cs,Under (B.length+k) Rw.length L.length x) (hu:Under (B.length+k) Rw.length L.length v) (hp:Post v ⟨B++bs,Rw,L⟩) :
  Go.Ev.finN k ⟨B,Rw,L⟩ Post v ⟨B++bs,rows,L⟩:=by
 subst hk
 obtain ⟨r,rfl⟩:=hO.pre
 have e:St.cut ⟨B++bs,Rw++r,L⟩ (B.length+bs.length) Rw.length L.length=⟨B++bs,Rw,L⟩:=by
  have a:(B++bs).take (B.length+bs.length)=B++bs:=List.take_of_length_le (by simp)
  simp [St.cut,a]
 exact ⟨by simp,by simp,by simp,by simp only [e];exact VC rfl hc (Owns.none Rw) hbs,hu,by simp only [e];exact hp⟩
theorem ER {nb nr nl:Nat} {B:List (List AV)} {Rw:List RowA} {L:List LoopA} {l:Nat} {cs:List AV} (h:Calm nb nr nl ⟨B,Rw,L⟩) (hc:∀ x∈cs,Under nb nr nl x):Calm nb nr nl ⟨B.set l cs,Rw,L⟩ :=
 ⟨h.rows,fun ds hd x a=>by
  rcases List.mem_or_eq_of_mem_set hd with hd | rfl
  ·exact h.boxes ds hd x a
  ·exact hc x a,h.loops⟩
theorem Zmh {B B' X:List (List AV)} {Rw rows:List RowA} {L l:List LoopA} {Post:AV→St→Prop} {v:AV} (hc:Calm B.length Rw.length L.length ⟨B',Rw,L⟩) (hB:B'.length=B.length) (h2:Rw <+: rows) (hu:Under B.length Rw.length L.length v.pubA) (hp:Post v.pubA ⟨B',Rw,L⟩) :
  Go.Ev.finP ⟨B,Rw,L⟩ Post v ⟨B'++X,rows,L++l⟩:=by
 obtain ⟨r,rfl⟩:=h2
 have e:St.cut ⟨B'++X,Rw++r,L++l⟩ B.length Rw.length L.length=⟨B',Rw,L⟩:=by simp [St.cut,←hB]
 exact ⟨by simp [hB],by simp,by simp,by simp only [e];exact hc,hu,by simp only [e];exact hp⟩
theorem BZ {B:List (List AV)} {l:Nat} {cs:List AV} (h:B[l]? = some cs) :
  (∀ X R L o,Dn ⟨B++X,R,L⟩ (.box l o)=true)∧(∀ R L o,Dn ⟨B,R,L⟩ (.box l o)=true)∧(∀ X R L o,Bi ⟨B++X,R,L⟩ (.box l o)=cs)∧(∀ R L o,Bi ⟨B,R,L⟩ (.box l o)=cs) ∧
  (∀ X,(B++X)[l]? = some cs)∧B[l]? = some cs∧(∀ X,(B++X).getD l []=cs)∧B.getD l []=cs∧(∀ X c,(B++X).set l c=B.set l c++X) ∧
  (∀ X R L o c,Dn ⟨B.set l c++X,R,L⟩ (.box l o)=true)∧(∀ R L o c,Dn ⟨B.set l c,R,L⟩ (.box l o)=true)∧(∀ X R L o c,Bi ⟨B.set l c++X,R,L⟩ (.box l o)=c)∧(∀ R L o c,Bi ⟨B.set l c,R,L⟩ (.box l o)=c) ∧
  (∀ X c,(B.set l c++X)[l]? = some c)∧(∀ c,(B.set l c)[l]? = some c)∧(∀ X c,(B.set l c++X).getD l []=c)∧(∀ c,(B.set l c).getD l []=c)∧(∀ X c d,(B.set l c++X).set l d=B.set l d++X)∧(∀ c d,(B.set l c).set l d=B.set l d)∧B.set l cs=B:=by
 have a:=(Aj.1 h).1
 have e1:∀ X,(B++X)[l]? = some cs:=fun X=>by rw [List.getElem?_append_left a];exact h
 have b:∀ X c,(B.set l c++X)[l]? = some c:=fun X c=>by rw [List.getElem?_append_left (by simpa using a)];simp [a]
 have e:∀ c,(B.set l c)[l]? = some c:=fun c=>by simp [a]
 refine ⟨?_,?_,?_,?_,e1,h,?_,?_,?_,?_,?_,?_,?_,b,e,?_,?_,?_,?_,?_⟩
 ·intro X R L o;simp [Dn];omega
 ·intro R L o;simp [Dn,a]
 ·intro X R L o;simp only [Bi,List.getD_eq_getElem?_getD,e1,Option.getD_some]
 ·intro R L o;simp only [Bi,List.getD_eq_getElem?_getD,h,Option.getD_some]
 ·intro X;rw [List.getD_eq_getElem?_getD,e1];rfl
 ·rw [List.getD_eq_getElem?_getD,h];rfl
 ·intro X c;exact List.set_append_left _ _ a
 ·intro X R L o c;simp [Dn];omega
 ·intro R L o c;simp [Dn,a]
 ·intro X R L o c;simp only [Bi,List.getD_eq_getElem?_getD,b,Option.getD_some]
 ·intro R L o c;simp only [Bi,List.getD_eq_getElem?_getD,e,Option.getD_some]
 ·intro X c;rw [List.getD_eq_getElem?_getD,b];rfl
 ·intro c;rw [List.getD_eq_getElem?_getD,e];rfl
 ·intro X c d;rw [List.set_append_left _ _ (by simpa using a),List.set_set]
 ·intro c d;exact List.set_set ..
 ·obtain ⟨f,rfl⟩:=Aj.1 h;exact List.set_getElem_self _
@[go_sem] theorem Zir (B X:Ao) (R:Au) (L:As) (i k o:Nat) (c:List AV):Dn ⟨B.set i c++X,R,L⟩ (.box (B.length+k) o)=decide (k<X.length):=by simp [Dn]
@[go_sem] theorem ZhY (B X:Ao) (R:Au) (L:As) (i o:Nat) (c:List AV):Dn ⟨B.set i c++X,R,L⟩ (.box B.length o)=decide (0<X.length):=by simp [Dn]
@[go_sem] theorem Zal (B X:Ao) (i k:Nat) (c:List AV):(B.set i c++X).getD (B.length+k) []=X.getD k []:=by
 have:=Wu (B.set i c) X k
 rwa [List.length_set] at this
@[go_sem] theorem Xs (B X:Ao) (i:Nat) (c:List AV):(B.set i c++X).getD B.length []=X.getD 0 []:=by
 have:=SJ (B.set i c) X
 rwa [List.length_set] at this
@[go_sem] theorem ZgJ (B X:Ao) (R:Au) (L:As) (i k o:Nat) (c:List AV):Bi ⟨B.set i c++X,R,L⟩ (.box (B.length+k) o)=X.getD k []:=Zal B X i k c
@[go_sem] theorem Zem (B X:Ao) (R:Au) (L:As) (i o:Nat) (c:List AV):Bi ⟨B.set i c++X,R,L⟩ (.box B.length o)=X.getD 0 []:=Xs B X i c
@[go_sem] theorem Zlq (B X:Ao) (i k:Nat) (c x:List AV):(B.set i c++X).set (B.length+k) x=B.set i c++X.set k x:=by
 have:=Zf8 (B.set i c) X k x
 rwa [List.length_set] at this
@[go_sem] theorem ZkI (B X:Ao) (i:Nat) (c x:List AV):(B.set i c++X).set B.length x=B.set i c++X.set 0 x:=by
 have:=ZcR (B.set i c) X x
 rwa [List.length_set] at this
@[go_sem] theorem LQ (B X:Ao) (i k:Nat) (c:List AV):(B.set i c++X)[B.length+k]? = X[k]? := by
 rw [List.getElem?_append_right (by simp),List.length_set,Nat.add_sub_cancel_left]
@[go_sem] theorem Jz (B X:Ao) (i:Nat) (c:List AV):(B.set i c++X)[B.length]? = X[0]? := by
 rw [List.getElem?_append_right (by simp),List.length_set,Nat.sub_self]
attribute [go_sem] List.length_set
theorem Yl {α:Type} {B B':List α} {l:Nat} {c:α} (h:B <+: B') (hl:B[l]? = some c):B'[l]? = some c:=by
 obtain ⟨t,rfl⟩:=h
 rw [List.getElem?_append_left (Aj.1 hl).1];exact hl
@[go_sem] theorem Ziu (l:List AV):BJ l 0 []=l:=by simp [BJ]
@[go_sem] theorem Zfp (a x:AV) (l xs:List AV):BJ (a::l) 0 (x::xs)=x::BJ l 0 xs:=by simp [BJ]
@[go_sem] theorem ZhG (a:AV) (l xs:List AV) (n:Nat):BJ (a::l) (n+1) xs=a::BJ l n xs:=by simp [BJ,Nat.succ_add]
@[go_sem] theorem NF (B l:Ao) (k:Nat):(B++l)[B.length+k]? = l[k]? := by rw [List.getElem?_append_right (by omega),Nat.add_sub_cancel_left]
@[go_sem] theorem Ln (B l:Ao):(B++l)[B.length]? = l[0]? := by rw [List.getElem?_append_right (by omega),Nat.sub_self]
theorem Owns.enter {Rw rows:List RowA} {l:List (Nat × Nat × Own)} {ho o:Own} {v:List VE} {sz n:Nat} (h:Owns Rw rows ((sz,n,o)::l) ho v):Owns rows rows [(sz,n,o)] o:=by
 have b:=h.each _ (List.mem_cons_self ..)
 refine ⟨Nat.le_refl _,fun _ _ _=>rfl,fun i r a q _=>?_,fun x c=>?_,by simp,by simp,.nil⟩
 ·rcases q with q | q
  ·have:=(Aj.1 a).1;omega
  ·rcases b with w | ⟨id,w1,w2,w3⟩
   ·simp only at w;rw [q] at w;cases w
   ·simp only at w1 w3;rw [q] at w1;cases w1
    rw [a] at w3;rw [Option.some.inj w3];rfl
 ·rw [List.mem_singleton.1 c]
  rcases b with w | ⟨id,w1,w2,w3⟩
  ·exact .inl w
  ·exact .inr ⟨id,w1,.inr w1,w3⟩
theorem GU {nb nr nr' nl:Nat} {st:St} (h:Calm nb nr nl st) (hr:nr≤nr'):Calm nb nr' nl st :=
 ⟨fun r a x b=>Cf (Nat.le_refl _) hr (Nat.le_refl _) (h.rows r a x b),fun cs a x b=>Cf (Nat.le_refl _) hr (Nat.le_refl _) (h.boxes cs a x b),fun d a k x b c=>Cf (Nat.le_refl _) hr (Nat.le_refl _) (h.loops d a k x b c)⟩
section
variable {P:Program} {w0:World} {f:FuncId} {st:St}
def finG (st:St) (Post:AV→St→Prop) (r:AV) (s:St):Prop :=
 st.boxes.length≤s.boxes.length∧st.rows.length≤s.rows.length∧st.loops.length≤s.loops.length∧Calm st.boxes.length s.rows.length st.loops.length (s.cut st.boxes.length s.rows.length st.loops.length) ∧
  Under st.boxes.length s.rows.length st.loops.length r.pubA∧Post r.pubA (s.cut st.boxes.length s.rows.length st.loops.length)
theorem ACalls.finG {args:List AV} {Post:AV→St→Prop} (h:ACalls P w0 f args st (finG st Post)):ACalls P w0 f args st Post:=by
 refine ⟨h.1,fun M w b a c=>(h.2 M w b a c).mono ?_⟩
 rintro en n ⟨v,M',r,d,j,⟨g,m,e,k,l,i⟩,h3,h4,h5⟩
 exact ⟨v,M'.cut st.boxes.length d.rows.length st.loops.length,r.pubA,_,j,i,h3.cut (by have:=a.N;omega) (by have:=a.NR;omega) (by have:=a.loop.NL;omega) (by rw [h4.loop.NL];exact e) (by rw [h4.N];exact g) (by rw [h4.NR];exact Nat.le_refl _),h4.cut g (Nat.le_refl _) e k,h5.pubA.cut (by have:=h4.loop.NL;omega) l⟩
theorem Zl8 {B B' X:List (List AV)} {R0 rows:List RowA} {L l:List LoopA} {Post:AV→St→Prop} {v:AV} {ow:List (Nat × Nat × Own)} {oh:Own} {ve:List VE} (ho:Owns R0 rows ow oh ve) (hc:Calm B.length rows.length L.length ⟨B',R0,L⟩) (hB:B'.length=B.length) (hu:Under B.length rows.length L.length v.pubA) (hp:Post v.pubA ⟨B',rows,L⟩) (hv:∀ x∈ve,∀ y∈x.2.2,Under B.length rows.length L.length y:=by intro x hx;cases hx) :
  Go.Ev.finG ⟨B,R0,L⟩ Post v ⟨B'++X,rows,L++l⟩:=by
 have e:St.cut ⟨B'++X,rows,L++l⟩ B.length rows.length L.length=⟨B',rows,L⟩:=by simp [St.cut,←hB]
 refine ⟨by simp [hB],ho.len,by simp,?_,hu,by simp only [e];exact hp⟩
 simp only [e]
 refine ⟨fun r d x hx=>?_,hc.boxes,hc.loops⟩
 obtain ⟨i,c,rfl⟩:=List.mem_iff_getElem.1 d
 have b:rows[i]? = some rows[i]:=List.getElem?_eq_getElem c
 by_cases qv:TP ve i
 case neg =>
  obtain ⟨y,f,e,_⟩:=ho.inV b qv
  rw [e] at hx
  exact hv y f x hx
 by_cases q:R0.length≤i∨oh = .row i
 ·rw [ho.calm i _ b q qv] at hx;cases hx
 ·have a:i<R0.length:=by omega
  have:=ho.keep i a (fun e=>q (.inr e))
  rw [b,List.getElem?_eq_getElem a] at this
  rw [Option.some.inj this] at hx
  exact hc.rows _ (List.getElem_mem a) x hx
end
theorem MX {B B' X:List (List AV)} {R0 rows:List RowA} {L:List LoopA} {Post:AV→St→Prop} {v:AV} {ow:List (Nat × Nat × Own)} {oh:Own} {ve:List VE} (ho:Owns R0 rows ow oh ve) (hc:Calm B.length rows.length L.length ⟨B',R0,L⟩) (hB:B'.length=B.length) (hu:Under B.length rows.length L.length v.pubA) (hp:Post v.pubA ⟨B',rows,L⟩) (hv:∀ x∈ve,∀ y∈x.2.2,Under B.length rows.length L.length y:=by intro x hx;cases hx) :
  Go.Ev.finG ⟨B,R0,L⟩ Post v ⟨B'++X,rows,L⟩:=by
 have:=Zl8 (X:=X) (l:=[]) ho hc hB hu hp hv
 rwa [List.append_nil] at this
section
variable {P:Program} {w0:World} {n:Nat} {e:Env} {st:St} {M0:Mem} {W0:World} {ro:Option Nat} {Q:AQ} {c:Code}
theorem L6 {B0 B bs X:List (List AV)} {Rw rows:List RowA} {L:List LoopA} {l:List (Nat × Nat × Own)} {oh:Own} {v:List VE} (hN:M0.N=B0.length) (hNR:M0.NR=Rw.length) (hNL:M0.NL=L.length) (hB:B.length=B0.length) (hc:Calm B0.length rows.length L.length ⟨B,Rw,L⟩) (ho:Owns Rw rows l oh v)
  (hbs:∀ cs∈bs,∀ x∈cs,Under (B0.length+bs.length) rows.length L.length x) (he:HH (B0.length+bs.length) rows.length L.length e)
  (h:Da P w0 n M0 W0 ro c Q e ⟨B++bs,rows,L⟩) (hv:∀ x∈v,∀ y∈x.2.2,Under (B0.length+bs.length) rows.length L.length y:=by intro x hx;cases hx):Da P w0 n M0 W0 ro c Q e ⟨B++(bs++X),rows,L⟩:=by
 rw [←hB] at hN hc hbs he hv
 clear hB B0
 have p:=ho.len
 have e1:St.cut ⟨B++(bs++X),rows,L⟩ (B.length+bs.length) rows.length L.length=⟨B++bs,rows,L⟩:=by
  simp only [St.cut,List.take_length,←List.append_assoc]
  rw [List.take_left' (by simp)]
 refine TK (B.length+bs.length) rows.length L.length (by simp) (Nat.le_refl _) (Nat.le_refl _) (by omega) (by omega) (by omega) ?_ he (by rw [e1];exact h)
 rw [e1]
 refine ⟨fun r m x hx=>?_,fun cs hcs x hx=>?_,fun j d k x hx g=>?_⟩
 ·obtain ⟨i,f,rfl⟩:=List.mem_iff_getElem.1 m
  have b:rows[i]? = some rows[i]:=List.getElem?_eq_getElem f
  by_cases qv:TP v i
  case neg =>
   obtain ⟨y,o,e,_⟩:=ho.inV b qv
   rw [e] at hx
   exact hv y o x hx
  by_cases q:Rw.length≤i∨oh = .row i
  ·rw [ho.calm i _ b q qv] at hx;cases hx
  ·have a:i<Rw.length:=by omega
   have:=ho.keep i a (fun e=>q (.inr e))
   rw [b,List.getElem?_eq_getElem a] at this
   rw [Option.some.inj this] at hx
   exact Cf (by omega) (Nat.le_refl _) (Nat.le_refl _) (hc.rows _ (List.getElem_mem a) x hx)
 ·rcases List.mem_append.1 hcs with hcs | hcs
  ·exact Cf (by omega) (Nat.le_refl _) (Nat.le_refl _) (hc.boxes cs hcs x hx)
  ·exact hbs cs hcs x hx
 ·exact Cf (by omega) (Nat.le_refl _) (Nat.le_refl _) (hc.loops j d k x hx g)
end
def Ru (acc:List Nat) (o:Oper):Nat:=o.after.toList.foldl (fun m e=>if Region.binds .any e then m ||| 2 ^ e.on ||| acc.getD e.on 0 else m) 0
def DF:List Oper→List Nat→List Nat
 | [],acc=>acc
 | o::os,acc=>DF os (acc++[Ru acc o])
def I0 (ms:List Nat) (i j:Nat):Bool:=(ms.getD i 0).testBit j
theorem Ww (acc:List Nat) (j:Nat):∀ (es:List Edge) (m:Nat),(es.foldl (fun m e=>if Region.binds .any e then m ||| 2 ^ e.on ||| acc.getD e.on 0 else m) m).testBit j=true→m.testBit j=true∨∃ e∈es,Region.binds .any e=true∧(e.on=j∨I0 acc e.on j=true)
 | [],m,h => .inl h
 | e::es,m,h=>by
  simp only [List.foldl_cons] at h
  rcases Ww acc j es _ h with h | ⟨e',h1,h2⟩
  ·by_cases c:Region.binds .any e=true
   ·rw [Ah c] at h
    simp only [Nat.testBit_or,Bool.or_eq_true,Nat.testBit_two_pow,decide_eq_true_eq] at h
    rcases h with (h | h) | h
    ·exact .inl h
    ·exact .inr ⟨e,List.mem_cons_self .., c,.inl h⟩
    ·exact .inr ⟨e,List.mem_cons_self .., c,.inr h⟩
   ·rw [Ai c] at h;exact .inl h
  ·exact .inr ⟨e',List.mem_cons_of_mem _ h1,h2⟩
theorem QZ (acc acc':List Nat):∀ (es:List Edge) (m:Nat),(∀ e∈es,Region.binds .any e=true→acc.getD e.on 0=acc'.getD e.on 0) →
  es.foldl (fun m e=>if Region.binds .any e then m ||| 2 ^ e.on ||| acc.getD e.on 0 else m) m=es.foldl (fun m e=>if Region.binds .any e then m ||| 2 ^ e.on ||| acc'.getD e.on 0 else m) m
 | [],_,_=>rfl
 | e::es,m,h=>by
  simp only [List.foldl_cons]
  have:(if Region.binds .any e=true then m ||| 2 ^ e.on ||| acc.getD e.on 0 else m)=if Region.binds .any e=true then m ||| 2 ^ e.on ||| acc'.getD e.on 0 else m:=by
   by_cases c:Region.binds .any e=true
   ·rw [Ah c,Ah c,h e (List.mem_cons_self ..) c]
   ·rw [Ai c,Ai c]
  rw [this]
  exact QZ acc acc' es _ fun b a=>h b (List.mem_cons_of_mem _ a)
theorem O1:∀ (os:List Oper) (acc:List Nat) (i:Nat),i<acc.length→(DF os acc).getD i 0=acc.getD i 0
 | [],_,_,_=>rfl
 | o::os,acc,i,h=>by
  rw [DF,O1 os _ i (by simp;omega),List.getD_eq_getElem?_getD,List.getElem?_append_left h,List.getD_eq_getElem?_getD]
theorem Vd:∀ (os:List Oper) (acc:List Nat) (k:Nat) (o:Oper),os[k]? = some o→(∀ (k:Nat) (o:Oper),os[k]? = some o→∀ e∈o.after,Region.binds .any e=true→e.on<acc.length+k)→(DF os acc).getD (acc.length+k) 0=Ru (DF os acc) o
 | [],_,_,_,h,_=>by simp at h
 | o'::os,acc,0,o,h,hb=>by
  simp only [List.getElem?_cons_zero,Option.some.injEq] at h
  subst h
  rw [DF,O1 os _ _ (by simp)]
  have e1:(acc++[Ru acc o']).getD (acc.length+0) 0=Ru acc o':=by simp [List.getD_eq_getElem?_getD]
  rw [e1]
  refine QZ _ _ _ _ fun e b a=>?_
  have:=hb 0 o' rfl e (by simpa using b) a
  rw [O1 os _ _ (by simp;omega),List.getD_eq_getElem?_getD,List.getD_eq_getElem?_getD,List.getElem?_append_left (by omega)]
 | o'::os,acc,k+1,o,h,hb=>by
  rw [DF]
  have:=Vd os (acc++[Ru acc o']) k o (by simpa using h) (fun k o h e b a=>by
   have:=hb (k+1) o (by simpa using h) e b a
   simp;omega)
  rw [List.length_append,List.length_singleton,Nat.add_assoc,Nat.add_comm 1 k] at this
  exact this
def LS (ef:List Nat) (ms:List Nat) (i j:Nat):Bool :=
 if ef.contains i then ef.contains j||I0 ms i j else if ef.contains j then I0 ms j i else decide (j<i)&&I0 ms i j
def PZ (ef:List Nat) (ms:List Nat) (i j:Nat):Bool :=
 if ef.contains i then ef.contains j||I0 ms i j else ef.contains j&&I0 ms j i
def Hr (l:List Oper) (ef:List Nat):Bool:=(ef.all fun i=>decide (i<l.length)) &&
 (List.range l.length).all fun i=>match l[i]? with
  | some o=>(o.after.toList.all fun e => !Region.binds .any e||decide (e.on<i))&&(List.range l.length).all fun j=>match l[j]? with
   | some p=>match p.dst with
    | some s=>(decide (i=j)||o.dst != some s||PZ ef (DF l []) i j)&&(!(looks l o).contains s||LS ef (DF l []) i j)
    | none=>true
   | none=>true
  | none=>true
theorem DX {l:List Oper} {ef:List Nat} (hB:Hr l ef=true) {i:Nat} {o:Oper} (ho:l[i]? = some o) :
  (∀ e∈o.after,Region.binds .any e=true→e.on<i)∧∀ j p s,l[j]? = some p→p.dst=some s→(o.dst=some s→i=j∨PZ ef (DF l []) i j=true)∧(s∈looks l o→LS ef (DF l []) i j=true):=by
 have a:=List.all_eq_true.1 (Bool.and_eq_true_iff.1 hB).2 i (List.mem_range.2 (Aj.1 ho).1)
 simp only [ho,Bool.and_eq_true] at a
 refine ⟨fun e d g=>?_,fun j p s c hs=>?_⟩
 ·have:=List.all_eq_true.1 a.1 e (by simpa using d)
  simpa [g] using this
 ·have b:=List.all_eq_true.1 a.2 j (List.mem_range.2 (Aj.1 c).1)
  simp only [c,hs,Bool.and_eq_true,Bool.or_eq_true,decide_eq_true_eq,bne_iff_ne,Bool.not_eq_true'] at b
  refine ⟨fun hd=>?_,fun f=>?_⟩
  ·rcases b.1 with (h | h) | h
   ·exact .inl h
   ·exact absurd hd h
   ·exact .inr h
  ·rcases b.2 with h3 | h3
   ·have:(looks l o).contains s=true:=by simpa using f
    rw [h3] at this;cases this
   ·exact h3
theorem QA {l:List Oper} {ef:List Nat} (hB:Hr l ef=true) {listed:Array Bool} (closed:∀ (j:Nat) (oj:Oper),l[j]? = some oj→listed.getD j false=true→∀ e∈oj.after,Region.binds .any e=true→listed.getD e.on false=true) (j:Nat) :
  ∀ (i:Nat) (o:Oper),l[i]? = some o→(∀ e∈o.after,Region.binds .any e=true→listed.getD e.on false=true)→I0 (DF l []) i j=true→listed.getD j false=true:=by
 intro i
 induction i using Nat.strongRecOn with
 | _ i ih =>
  intro o ho m a
  have f:=Vd l [] i o ho (fun k o h e c n=>by have:=(DX hB h).1 e c n;simpa using this)
  simp only [List.length_nil,Nat.zero_add] at f
  unfold I0 at a
  rw [f] at a
  rcases Ww _ _ _ _ a with h | ⟨e,h1,h2,h3⟩
  ·simp at h
  ·have c:e∈o.after:=by simpa using h1
   have b:=m e c h2
   have d:=(DX hB ho).1 e c h2
   rcases h3 with rfl | h3
   ·exact b
   ·have g:=(Aj.1 ho).1
    exact ih e.on d _ (List.getElem?_eq_getElem (by omega)) (closed e.on _ (List.getElem?_eq_getElem (by omega)) b) h3
def Bj (ef:List Nat):Nat→List Oper→List Oper
 | _,[]=>[]
 | i,o::os=>(if ef.contains i then { o with dst:=none,op := .move (.const (.bool true)),guard:=none } else o)::Bj ef (i+1) os
theorem L9 (ef:List Nat):∀ (l:List Oper) (k i:Nat),(Bj ef k l)[i]? = (l[i]?).map fun o=>if ef.contains (k+i) then { o with dst:=none,op := .move (.const (.bool true)),guard:=none } else o
 | [],_,_=>by simp [Bj]
 | o::os,k,0=>by simp [Bj]
 | o::os,k,i+1=>by simp only [Bj,List.getElem?_cons_succ];rw [L9 ef os (k+1) i,Nat.add_assoc,Nat.add_comm 1 i]
theorem EH (ef:List Nat):∀ (l:List Oper) (k:Nat),(Bj ef k l).length=l.length
 | [],_=>rfl
 | o::os,k=>by simp [Bj,EH ef os]
section
variable {P:Program} {w0:World} {n:Nat}
def CJ (P:Program) (w0:World) (ev:Env) (s:St) (o:Oper) (v:AV) (s':St):Prop :=
 match o.op with
 | .call ⟨.value f,args,_⟩=>argOk ev true f∧(∀ x∈args.toList,argOk ev true x)∧Hu P w0 (Aq ev f) (args.toList.map fun x=>argP ev (Aq ev x)) s fun r t=>r=v∧t=s'
 | op=>(evOp P ev true s op).1∧(evOp P ev true s op).2.1=v∧(evOp P ev true s op).2.2=s'
theorem NN {ev:Env} {s s':St} {o:Oper} {v:AV} (hc:¬ GA o.op=true):CJ P w0 ev s o v s'=((evOp P ev true s o.op).1∧(evOp P ev true s o.op).2.1=v∧(evOp P ev true s o.op).2.2=s'):=by
 obtain ⟨e,op,c,d,b,a⟩:=o
 cases op with
 | call cc =>
  obtain ⟨callee,args,ts⟩:=cc
  cases callee with
  | value f=>exact absurd rfl hc
  | _=>rfl
 | _=>rfl
def Qg (P:Program) (w0:World) (ev:Env) (s:St) (o:Oper) (Post:AV→St→Prop):Prop :=
 (GA o.op=true∧match o.op with
  | .call ⟨.value f,args,_⟩=>argOk ev true f∧(∀ x∈args.toList,argOk ev true x)∧Hu P w0 (Aq ev f) (args.toList.map fun x=>argP ev (Aq ev x)) s Post
  | _=>False)∨∃ v s',CJ P w0 ev s o v s'∧∀ r t,r=v∧t=s'→Post r t
theorem UG {M:Mem} {ev:Env} {s s':St} {a:Act} {w:World} (h:Rel w0 n M ev s a w) (ro:Option Nat) (m:Nat) {o:Oper} {v:AV} (hv:CJ P w0 ev s o v s')
  (Q:Exit→Act→World→Prop) (K:Act→World→Prop) (hK:∀ u w' M',Ext w0 M w M' w'→RelSt w0 M' s' w'→R w0 M' w' u v→K (a.put o.dst u) w'):o.wpIn (FW ro) m P a w K Q:=by
 by_cases hc:GA o.op=true
 ·obtain ⟨dst,op,l,p,k,e⟩:=o
  cases op<;>try cases hc
  rename_i cc
  obtain ⟨callee,args,ts⟩:=cc
  cases callee<;>try cases hc
  rename_i f
  obtain ⟨i,d,g⟩:=hv
  refine Iq h ro m i d g Q _ (fun r t q u w' M' j b c=>?_)
  obtain ⟨rfl,rfl⟩:=q
  exact hK u w' M' j b c
 ·rw [NN hc] at hv
  obtain ⟨i,d,g⟩:=hv
  refine OV h ro m o i Q _ (fun u w' M' j b c=>?_)
  rw [g] at b
  rw [d] at c
  exact hK u w' M' j b c
theorem Wx {M:Mem} {ev:Env} {s:St} {a:Act} {w:World} (h:Rel w0 n M ev s a w) (ro:Option Nat) (m:Nat) {o:Oper} {Post:AV→St→Prop} (hv:Qg P w0 ev s o Post)
  (Q:Exit→Act→World→Prop) (K:Act→World→Prop) (hK:∀ v s' u w' M',Post v s'→Ext w0 M w M' w'→RelSt w0 M' s' w'→R w0 M' w' u v→K (a.put o.dst u) w'):o.wpIn (FW ro) m P a w K Q:=by
 rcases hv with ⟨hc,hv⟩ | ⟨v,s',hv,c⟩
 ·obtain ⟨dst,op,j,l,i,d⟩:=o
  cases op<;>try cases hc
  rename_i cc
  obtain ⟨callee,args,ts⟩:=cc
  cases callee<;>try cases hc
  rename_i f
  obtain ⟨q,k,p⟩:=hv
  exact Iq h ro m q k p Q _ (fun r t c u w' M' e b g=>hK r t u w' M' c e b g)
 ·exact UG h ro m hv Q K fun u w' M' e b g=>hK v s' u w' M' (c _ _ ⟨rfl,rfl⟩) e b g
def GoodD (P:Program) (w0:World) (n:Nat) (l:List Oper) (ef:List Nat) (F:List Nat→St→Prop) (T:Env→St→Prop):Nat→List Nat→Env→St→Prop
 | 0,_,_,_=>False
 | k+1,dn,ev,s=>F dn s∧((ef.all fun i=>dn.contains i)=true→T ev s)∧∀ i∈ef,dn.contains i=false→(ef.all fun j => !I0 (DF l []) i j||dn.contains j)=true →
   ∃ o,l[i]? = some o∧o.guard=none∧dstOk n o.dst∧∃ Post:AV→St→Prop,Qg P w0 (AK true l o ev) s o Post∧∀ v s',Post v s'→GoodD P w0 n l ef F T k (i::dn) (Du ev o.dst true v) s'
abbrev Good (P:Program) (w0:World) (n:Nat) (l:List Oper) (ef:List Nat) (F:St→Prop) (T:Env→St→Prop):Nat→List Nat→Env→St→Prop:=GoodD P w0 n l ef (fun _=>F) T
structure AInv (w0:World) (n:Nat) (l:List Oper) (ef:List Nat) (s0:St) (e e1:Env) (M1:Mem) (w1:World) (ds:List Deferred) (dn:List Nat) (ev:Env) (s:St) (listed:Array Bool) (a:Act) (w:World) (M:Mem):Prop where
 size:listed.size=l.length
 ini:dn=[]→s=s0
 closed:∀ (j:Nat) (oj:Oper),l[j]? = some oj→listed.getD j false=true→∀ e∈oj.after,Region.binds .any e=true→listed.getD e.on false=true
 eff:∀ i∈ef,(listed.getD i false=true↔i∈dn)
 sub:∀ i∈dn,i∈ef
 rel:RelSt w0 M s w
 tmps:a.tmps.size=n
 defers:a.defers=ds
 ext:Ext w0 M1 w1 M w
 evn:∀ t,(∀ j∈dn,∀ o,l[j]? = some o→o.dst≠some t)→look ev t=look e1 t
 done:∀ t x,(∃ j∈dn,∃ o,l[j]? = some o∧o.dst=some t)→look ev t=some x→entryOk w0 M w (a.tmps.getD t undef) x
 new:∀ t x,(∀ j∈dn,∀ o,l[j]? = some o→o.dst≠some t)→(∃ i o,i ∉ ef∧l[i]? = some o∧o.dst=some t∧listed.getD i false=true)→look e1 t=some x→entryOk w0 M w (a.tmps.getD t undef) x
 old:∀ t x,(∀ i o,l[i]? = some o→o.dst=some t→listed.getD i false=false)→look e t=some x→entryOk w0 M w (a.tmps.getD t undef) x
def OG (l:List Oper) (ef el:List Nat):Bool:=ef.all fun i=>el.all fun j=>I0 (DF l []) i j
def ZdX (P:Program) (w0:World) (n:Nat) (l:List Oper) (e1:Env) (s:St) (o:Oper):Prop :=
 ∃ (Ei:Env) (v:AV),guardOk l (AK true l o Ei) o.guard∧dstOk n o.dst∧WA P w0 (AK true l o Ei) (AL l (AK true l o Ei) o.guard) s o v∧(∀ t∈looks l o,look Ei t=look e1 t)∧∀ t,o.dst=some t→look e1 t=some (AL l (AK true l o Ei) o.guard,v)
theorem JJ {l:List Oper} {ef:List Nat} {i:Nat} {o:Oper} (hi:i ∉ ef) (ho:l[i]? = some o):(Bj ef 0 l)[i]? = some o:=by
 rw [L9,ho]
 simp [hi]
theorem GQ {l:List Oper} {ef:List Nat} {i:Nat} {o:Oper} {t:Nat} (hi:(Bj ef 0 l)[i]? = some o) (hd:o.dst=some t):i ∉ ef∧l[i]? = some o:=by
 rw [L9] at hi
 cases hl:l[i]? with
 | none=>simp [hl] at hi
 | some p =>
  rw [hl] at hi
  simp only [Option.map_some,Nat.zero_add,Option.some.injEq] at hi
  by_cases c:i∈ef
  ·simp [c] at hi
   subst hi
   cases hd
  ·simp [c] at hi
   subst hi
   exact ⟨c,rfl⟩
theorem S4 {l:List Oper} {ef ef':List Nat} (hB:Hr l ef=true) (hs:∀ i∈ef,i∈ef'):∀ (i j:Nat) (o p:Oper) (t:Nat),(Bj ef' 0 l)[i]? = some o→(Bj ef' 0 l)[j]? = some p→o.dst=some t→p.dst=some t→i=j:=by
 intro i j o p t d e a b
 obtain ⟨a1,a2⟩:=GQ d a
 obtain ⟨g,c⟩:=GQ e b
 have a3:i ∉ ef:=fun h=>a1 (hs i h)
 have f:j ∉ ef:=fun h=>g (hs j h)
 rcases ((DX hB a2).2 j p t c b).1 a with h | h
 ·exact h
 ·simp [PZ,a3,f] at h
theorem Oj {l:List Oper} {ef:List Nat} {e e1:Env} {s:St} (hB:Hr l ef=true) (h:∃ c,MC P w0 n true l (fun e' s'=>e'=e1∧s'=s) c (Bj ef 0 l) e s) :
  (∀ t,(∀ i o,i ∉ ef→l[i]? = some o→o.dst≠some t)→look e1 t=look e t)∧∀ i o,i ∉ ef→l[i]? = some o→ZdX P w0 n l e1 s o:=by
 obtain ⟨c,J⟩:=h
 obtain ⟨E,C,V,T',r,_⟩:=LN c _ _ J
 rw [EH] at r
 have k:∀ t j,j≤l.length→_:=fun t j u=>Ij T' (S4 hB fun _ h=>h) t j (by rw [EH];exact u)
 have m:∀ t,(∀ i o,i ∉ ef→l[i]? = some o→o.dst≠some t)→look e1 t=look e t:=by
  intro t F
  have:=(k t l.length (Nat.le_refl _)).1 fun i o _ D hd=>by
   obtain ⟨a1,a2⟩:=GQ D hd
   exact F i o a1 a2 hd
  rwa [r] at this
 refine ⟨m,fun i o b a=>?_⟩
 have d:i<l.length:=(Aj.1 a).1
 obtain ⟨_,z,y,w,G⟩:=T'.step i o (JJ b a)
 refine ⟨E i,V i,z,y,by rw [w];exact G,fun t x=>?_,fun t hd=>?_⟩
 ·by_cases Bf:∃ i o,i ∉ ef∧l[i]? = some o∧o.dst=some t
  ·obtain ⟨j,p,g,f,q⟩:=Bf
   have H:=((DX hB a).2 j p t f q).2 x
   have v:j<i∧I0 (DF l []) i j=true:=by simpa [LS,b,g] using H
   rw [(k t i (Nat.le_of_lt d)).2 j p v.1 (JJ g f) q,←r,(k t l.length (Nat.le_refl _)).2 j p (by omega) (JJ g f) q]
  ·rw [m t fun i o g f q=>Bf ⟨i,o,g,f,q⟩]
   exact (k t i (Nat.le_of_lt d)).1 fun j p _ u hd=>by
    obtain ⟨a1,a2⟩:=GQ u hd
    exact Bf ⟨j,p,a1,a2,hd⟩
 ·rw [w,←r]
  exact (k t l.length (Nat.le_refl _)).2 i o d (JJ b a) hd
inductive PreOk (e1:Env):Env→Prop where
 | nil:PreOk e1 e1
 | cons {k:Nat} {v:Bool × AV} {r:Env} (h:look e1 k=some v) (h':PreOk e1 r):PreOk e1 ((k,v)::r)
theorem PreOk.look {e1 e':Env} (h:PreOk e1 e') (t:Nat):Go.Ev.look e' t=Go.Ev.look e1 t:=by
 induction h with
 | nil=>rfl
 | @cons k v r h _ ih =>
  show (if k=t then some v else Go.Ev.look r t)=_
  split
  ·rename_i q
   rw [←q,h]
  ·exact ih
theorem Uk {l:List Oper} {ef el:List Nat} {e1:Env} {s:St} (hB:Hr l ef=true) (h:∃ c,MC P w0 n true l (fun e' s'=>s'=s∧PreOk e1 e') c (Bj (ef++el) 0 l) e1 s) (i:Nat) (o:Oper) (hie:i ∉ ef) (hil:i ∉ el) (ho':l[i]? = some o):ZdX P w0 n l e1 s o:=by
 obtain ⟨c,q⟩:=h
 obtain ⟨E,C,V,T',_,g⟩:=LN c _ _ q
 rw [EH] at g
 have b:∀ t j,j≤l.length→_:=fun t j e=>Ij T' (S4 hB fun _ h=>List.mem_append_left _ h) t j (by rw [EH];exact e)
 have d:i<l.length:=(Aj.1 ho').1
 have a:i ∉ ef++el:=fun h=>(List.mem_append.1 h).elim hie hil
 have fin:∀ t,look (E l.length) t=look e1 t:=g.look
 obtain ⟨_,w,x,m,r⟩:=T'.step i o (JJ a ho')
 refine ⟨E i,V i,w,x,by rw [m];exact r,fun t _=>?_,fun t hd=>?_⟩
 ·by_cases Bf:∃ j p,j<i∧(Bj (ef++el) 0 l)[j]? = some p∧p.dst=some t
  ·obtain ⟨j,p,v,f,k⟩:=Bf
   rw [(b t i (Nat.le_of_lt d)).2 j p v f k,←fin t,(b t l.length (Nat.le_refl _)).2 j p (by omega) f k]
  ·exact (b t i (Nat.le_of_lt d)).1 fun j p e u hd=>Bf ⟨j,p,e,u,hd⟩
 ·rw [m,←fin t]
  exact (b t l.length (Nat.le_refl _)).2 i o d (JJ a ho') hd
theorem O3 {l:List Oper} {ef el:List Nat} {s0:St} {e e1:Env} {F:List Nat→St→Prop} {T:Env→St→Prop} {M1:Mem} {w1:World} {ds:List Deferred} {ro:Option Nat} {m:Nat} {Q:Exit→Act→World→Prop} (hB:Hr l ef=true) (hel:OG l ef el=true)
  (noE1:∀ t,(∀ i o,i ∉ ef→l[i]? = some o→o.dst≠some t)→look e1 t=look e t)
  (hF:∀ dn s,F dn s→∀ i o,i ∉ ef→(∀ j∈dn,I0 (DF l []) j i=false)→(i∈el→s=s0)→l[i]? = some o→ZdX P w0 n l e1 s o)
  (hT:∀ ev s M a w,T ev s→Rel w0 n M ev s a w→Ext w0 M1 w1 M w→a.defers=ds→Q .normal a w) :
  ∀ fuel listed a w M k dn ev s,fuel=listed.toList.count false→GoodD P w0 n l ef F T k dn ev s→AInv w0 n l ef s0 e e1 M1 w1 ds dn ev s listed a w M→wpAnyIn (FW ro) m P .any l.toArray Q fuel listed a w:=by
 intro fuel
 induction fuel with
 | zero =>
  intro listed a w M k dn ev s hf hg inv
  have y:∀ j,j<l.length→listed.getD j false=true:=by
   intro j hj
   cases hq:listed.getD j false with
   | true=>rfl
   | false =>
    exfalso
    have ap:j<listed.size:=by rw [inv.size];omega
    have:false∈listed.toList:=by
     have e1:listed[j]=false:=by simpa [ap] using hq
     rw [←e1];simp
    have:=List.count_pos_iff.2 this
    omega
  cases k with
  | zero=>exact hg.elim
  | succ k =>
  obtain ⟨g1,g2,_⟩:=hg
  have hdn:(ef.all fun i=>dn.contains i)=true:=by
   refine List.all_eq_true.2 fun i D=>?_
   have c:i<l.length:=by simpa using List.all_eq_true.1 (Bool.and_eq_true_iff.1 hB).1 i D
   simpa using (inv.eff i D).1 (y i c)
  refine ⟨?_,hT ev s M a w (g2 hdn) ⟨inv.rel,inv.tmps,fun t x hx=>?_⟩ inv.ext inv.defers⟩
  ·refine List.eq_nil_iff_forall_not_mem.2 fun i D=>?_
   obtain ⟨J,o,ho,_⟩:=mem_ready.1 D
   have ho':l[i]? = some o:=by simpa using ho
   have:=y i (Aj.1 ho').1
   obtain ⟨q1,q2⟩:=XW J
   obtain ⟨q3,q4⟩:=ZF this
   rw [q2] at q4;cases q4
  ·by_cases A:∃ j∈dn,∃ o,l[j]? = some o∧o.dst=some t
   ·exact inv.done t x A hx
   ·have E:∀ j∈dn,∀ o,l[j]? = some o→o.dst≠some t:=fun j hj o ho hd=>A ⟨j,hj,o,ho,hd⟩
    rw [inv.evn t E] at hx
    by_cases Bf:∃ i o,i ∉ ef∧l[i]? = some o∧o.dst=some t
    ·obtain ⟨i,o,b1,b2,b3⟩:=Bf
     exact inv.new t x E ⟨i,o,b1,b2,b3,y i (Aj.1 b2).1⟩ hx
    ·rw [noE1 t fun i o b1 b2 b3=>Bf ⟨i,o,b1,b2,b3⟩] at hx
     refine inv.old t x (fun i o ho hd=>?_) hx
     by_cases c:i∈ef
     ·exact absurd hd (E i ((inv.eff i c).1 (y i (Aj.1 ho).1)) o ho)
     ·exact absurd ⟨i,o,c,ho,hd⟩ Bf
 | succ fuel ih =>
  intro listed a w M k dn ev s hf hg inv
  cases k with
  | zero=>exact hg.elim
  | succ k =>
  obtain ⟨g1,g2,g3⟩:=hg
  have Y:∃ j,j<l.length∧listed.getD j false=false∧∀ i,i<j→listed.getD i false=true:=by
   refine KZ fun y=>?_
   have:0<listed.toList.count false:=by omega
   have V:=List.count_pos_iff.1 this
   obtain ⟨i,D,Z⟩:=List.mem_iff_getElem.1 V
   have b:i<listed.size:=by simpa using D
   have:=y i (by rw [←inv.size];exact b)
   simp only [Array.getD_eq_getD_getElem?,Array.getElem?_eq_getElem b,Option.getD_some] at this
   rw [Array.getElem_toList] at Z
   rw [Z] at this;cases this
  obtain ⟨k0,aj,aq,am⟩:=Y
  have ak:k0<listed.size:=by rw [inv.size];omega
  have ao:l[k0]? = some l[k0]:=List.getElem?_eq_getElem aj
  have H:k0∈Region.ready .any l.toArray listed :=
   mem_ready.2 ⟨by simpa [ak] using aq,l[k0],by simp,fun U Z hb=>am _ ((DX hB ao).1 U Z hb)⟩
  refine ⟨fun h0=>absurd H (by rw [h0];simp),fun i D=>?_⟩
  obtain ⟨J,o,ho,O⟩:=mem_ready.1 D
  have ho':l[i]? = some o:=by simpa using ho
  have av:i<l.length:=(Aj.1 ho').1
  have b:i<listed.size:=by rw [inv.size];omega
  have K:listed.getD i false=false:=by simpa [b] using J
  have z:∀ j,I0 (DF l []) i j=true→listed.getD j false=true:=fun j hj=>QA hB inv.closed j i o ho' O hj
  have N:fuel=(listed.setIfInBounds i true).toList.count false:=by
   have ad:listed[i]=false:=by simpa [b] using J
   have au:0<listed.toList.count false:=List.count_pos_iff.2 (by rw [←ad];simp)
   rw [Array.toList_setIfInBounds,List.count_set (by simpa using b)]
   simp only [Array.getElem_toList,ad]
   rw [Ah (show (false == false)=true from rfl),Ai (show ¬ (true == false)=true by decide)]
   omega
  have hclosed:∀ (j:Nat) (oj:Oper),l[j]? = some oj→(listed.setIfInBounds i true).getD j false=true→∀ U∈oj.after,Region.binds .any U=true→(listed.setIfInBounds i true).getD U.on false=true:=by
   intro j oj hj G U Z hb
   rw [Bg b] at G ⊢
   split
   ·rfl
   ·by_cases c:i=j
    ·subst c
     rw [ho'] at hj;cases hj
     exact O U Z hb
    ·rw [Ai c] at G
     exact inv.closed j oj hj G U Z hb
  unfold wpOpIn
  simp only [ho]
  by_cases hie:i∈ef
  ·-- an effect
   have ah:dn.contains i=false:=by
    cases hq:dn.contains i with
    | false=>rfl
    | true=>have:=(inv.eff i hie).2 (by simpa using hq);rw [K] at this;cases this
   obtain ⟨o2,q1,q2,q3,Post,q4,ae⟩:=g3 i hie ah (by
    refine List.all_eq_true.2 fun j hj=>?_
    cases hq:I0 (DF l []) i j with
    | false=>rfl
    | true=>simpa using (inv.eff j hj).1 (z j hq))
   rw [ho'] at q1;cases q1
   have C:Rel w0 n M (AK true l o ev) s a w:=by
    refine ⟨inv.rel,inv.tmps,fun t x hs=>?_⟩
    simp only [AK,if_true] at hs
    have V:=Ie _ _ _ _ hs
    have hx:=GI _ _ _ _ hs
    by_cases A:∃ j∈dn,∃ o,l[j]? = some o∧o.dst=some t
    ·exact inv.done t x A hx
    ·have E:∀ j∈dn,∀ o,l[j]? = some o→o.dst≠some t:=fun j hj o ho hd=>A ⟨j,hj,o,ho,hd⟩
     rw [inv.evn t E] at hx
     by_cases Bf:∃ i o,i ∉ ef∧l[i]? = some o∧o.dst=some t
     ·obtain ⟨j,p,b1,b2,b3⟩:=Bf
      have G:=((DX hB ho').2 j p t b2 b3).2 V
      have:I0 (DF l []) i j=true:=by simpa [LS,hie,b1] using G
      exact inv.new t x E ⟨j,p,b1,b2,b3,z j this⟩ hx
     ·rw [noE1 t fun i o b1 b2 b3=>Bf ⟨i,o,b1,b2,b3⟩] at hx
      refine inv.old t x (fun j p hp hd=>?_) hx
      by_cases c:j∈ef
      ·cases hq:listed.getD j false with
       | false=>rfl
       | true=>exact absurd hd (E j ((inv.eff j c).1 hq) p hp)
      ·exact absurd ⟨j,p,c,hp,hd⟩ Bf
   have hw:Region.wanted o (yielded l.toArray a.tmps)=true:=by simp [Region.wanted,q2]
   rw [hw,Ah rfl]
   refine Wx C ro m q4 Q _ fun v s' u w' M' ab hx hst hu=>?_
   have q5:=ae v s' ab
   have keep:∀ t x,o.dst≠some t→entryOk w0 M w (a.tmps.getD t undef) x→entryOk w0 M' w' ((a.put o.dst u).tmps.getD t undef) x:=by
    intro t x f h1
    rw [EM a o.dst u t (by rw [inv.tmps];exact q3),Ai f]
    exact h1.mono hx
   refine ih _ _ _ M' k (i::dn) _ s' N q5 ⟨by simp [inv.size],fun q=>(by cases q),hclosed,fun j hj=>?_,fun j hj=>?_,hst,by rw [JC];exact inv.tmps,by rw [Ea];exact inv.defers,inv.ext.trans hx,fun t ht=>?_,fun t x hA hx'=>?_,fun t x hA hN hx'=>?_,fun t x hO hx'=>?_⟩
   ·rw [Bg b]
    by_cases c:i=j
    ·subst c;simp
    ·rw [Ai c,inv.eff j hj];simp [Ne.symm c]
   ·rcases List.mem_cons.1 hj with rfl | hj
    ·exact hie
    ·exact inv.sub j hj
   ·have f:=ht i (List.mem_cons_self ..) o ho'
    have:look (Du ev o.dst true v) t=look ev t:=by
     cases hd:o.dst with
     | none=>rfl
     | some d=>rw [hd] at f;simp only [Du,look];rw [Ai (fun h=>f (by rw [h]))]
    rw [this]
    exact inv.evn t fun j hj=>ht j (List.mem_cons_of_mem _ hj)
   ·by_cases c:o.dst=some t
    ·rw [c] at hx'
     simp only [Du,look,if_true,Option.some.injEq] at hx'
     subst hx'
     rw [EM a o.dst u t (by rw [inv.tmps];exact q3),Ah c]
     simpa only [entryOk,if_true] using hu
    ·have:look (Du ev o.dst true v) t=look ev t:=by
      cases hd:o.dst with
      | none=>rfl
      | some d=>rw [hd] at c;simp only [Du,look];rw [Ai (fun h=>c (by rw [h]))]
     rw [this] at hx'
     refine keep t x c (inv.done t x ?_ hx')
     obtain ⟨j,hj,p,hp,hd⟩:=hA
     rcases List.mem_cons.1 hj with rfl | hj
     ·rw [ho'] at hp;cases hp;exact absurd hd c
     ·exact ⟨j,hj,p,hp,hd⟩
   ·have f:=hA i (List.mem_cons_self ..) o ho'
    refine keep t x f (inv.new t x (fun j hj=>hA j (List.mem_cons_of_mem _ hj)) ?_ hx')
    obtain ⟨j,p,b1,b2,b3,b4⟩:=hN
    rw [Bg b] at b4
    by_cases c:i=j
    ·subst c;exact absurd hie b1
    ·rw [Ai c] at b4;exact ⟨j,p,b1,b2,b3,b4⟩
   ·have f:o.dst≠some t:=fun hd=>by
     have:=hO i o ho' hd
     rw [Bg b,Ah rfl] at this;cases this
    refine keep t x f (inv.old t x (fun j p hp hd=>?_) hx')
    have:=hO j p hp hd
    rw [Bg b] at this
    by_cases c:i=j
    ·rw [Ah c] at this;cases this
    ·rwa [Ai c] at this
  ·-- one of the others
   have g:∀ j∈dn,∀ p,l[j]? = some p→I0 (DF l []) j i=true→False:=by
    intro j hj p hp af
    have ag:=(inv.eff j (inv.sub j hj)).2 hj
    have:=QA hB inv.closed i j p hp (inv.closed j p hp ag) af
    rw [K] at this;cases this
   obtain ⟨Ei,v,t2,t3,t5,t6,t7⟩:=hF dn s g1 i o hie (fun j hj=>by
    have c:j<l.length:=by simpa using List.all_eq_true.1 (Bool.and_eq_true_iff.1 hB).1 j (inv.sub j hj)
    cases hq:I0 (DF l []) j i with
    | false=>rfl
    | true=>exact (g j hj _ (List.getElem?_eq_getElem c) hq).elim) (fun D=>by
    cases hdn:dn with
    | nil=>exact inv.ini hdn
    | cons j r =>
     have hj:j∈dn:=by rw [hdn];exact List.mem_cons_self ..
     have hje:=inv.sub j hj
     have c:j<l.length:=by simpa using List.all_eq_true.1 (Bool.and_eq_true_iff.1 hB).1 j hje
     exact (g j hj _ (List.getElem?_eq_getElem c) (List.all_eq_true.1 (List.all_eq_true.1 hel j hje) i D)).elim) ho'
   have C:Rel w0 n M (AK true l o Ei) s a w:=by
    refine ⟨inv.rel,inv.tmps,fun t x hs=>?_⟩
    simp only [AK,if_true] at hs
    have V:=Ie _ _ _ _ hs
    have hx:=GI _ _ _ _ hs
    have E:∀ j∈dn,∀ p,l[j]? = some p→p.dst≠some t:=by
     intro j hj p hp hd
     have G:=((DX hB ho').2 j p t hp hd).2 V
     have hje:=inv.sub j hj
     exact g j hj p hp (by simpa [LS,hie,hje] using G)
    rw [t6 t V] at hx
    by_cases Bf:∃ i o,i ∉ ef∧l[i]? = some o∧o.dst=some t
    ·obtain ⟨j,p,b1,b2,b3⟩:=Bf
     have G:=((DX hB ho').2 j p t b2 b3).2 V
     have ar:j<i∧I0 (DF l []) i j=true:=by simpa [LS,hie,b1] using G
     exact inv.new t x E ⟨j,p,b1,b2,b3,z j ar.2⟩ hx
    ·rw [noE1 t fun i o b1 b2 b3=>Bf ⟨i,o,b1,b2,b3⟩] at hx
     refine inv.old t x (fun j p hp hd=>?_) hx
     by_cases c:j∈ef
     ·cases hq:listed.getD j false with
      | false=>rfl
      | true=>exact absurd hd (E j ((inv.eff j c).1 hq) p hp)
     ·exact absurd ⟨j,p,c,hp,hd⟩ Bf
   refine Lo C ro m t2 t5 Q _ fun u w' M' hx hst hu=>?_
   have keep:∀ t x,o.dst≠some t→entryOk w0 M w (a.tmps.getD t undef) x→entryOk w0 M' w' ((a.put o.dst u).tmps.getD t undef) x:=by
    intro t x f h1
    rw [EM a o.dst u t (by rw [inv.tmps];exact t3),Ai f]
    exact h1.mono hx
   have ai:∀ t,o.dst=some t→∀ j∈dn,∀ p,l[j]? = some p→p.dst≠some t:=by
    intro t hd j hj p hp aa
    have hje:=inv.sub j hj
    rcases ((DX hB ho').2 j p t hp aa).1 hd with h | h
    ·subst h;exact hie hje
    ·exact g j hj p hp (by simpa [PZ,hie,hje] using h)
   refine ih _ _ _ M' (k+1) dn ev s N ⟨g1,g2,g3⟩ ⟨by simp [inv.size],inv.ini,hclosed,fun j hj=>?_,inv.sub,hst,by rw [JC];exact inv.tmps,by rw [Ea];exact inv.defers,inv.ext.trans hx,inv.evn,fun t x hA hx'=>?_,fun t x hA hN hx'=>?_,fun t x hO hx'=>?_⟩
   ·rw [Bg b,Ai (fun (h:i=j)=>hie (h▸hj))]
    exact inv.eff j hj
   ·refine keep t x (fun hd=>?_) (inv.done t x hA hx')
    obtain ⟨j,hj,p,hp,aa⟩:=hA
    exact ai t hd j hj p hp aa
   ·by_cases c:o.dst=some t
    ·rw [EM a o.dst u t (by rw [inv.tmps];exact t3),Ah c]
     have e3:=t7 t c
     rw [hx'] at e3
     cases e3
     exact hu
    ·refine keep t x c (inv.new t x hA ?_ hx')
     obtain ⟨j,p,b1,b2,b3,b4⟩:=hN
     rw [Bg b] at b4
     by_cases c':i=j
     ·subst c';rw [ho'] at b2;cases b2;exact absurd b3 c
     ·rw [Ai c'] at b4;exact ⟨j,p,b1,b2,b3,b4⟩
   ·have f:o.dst≠some t:=fun hd=>by
     have:=hO i o ho' hd
     rw [Bg b,Ah rfl] at this;cases this
    refine keep t x f (inv.old t x (fun j p hp hd=>?_) hx')
    have:=hO j p hp hd
    rw [Bg b] at this
    by_cases c:i=j
    ·rw [Ah c] at this;cases this
    ·rwa [Ai c] at this
def Conv (w0:World) (n nb:Nat) (e:Env) (s:St) (e':Env) (s':St):Prop:=∀ M a w,Rel w0 n M e s a w→∃ M',(∀ Ms ws,Ms.N=nb→Ext w0 Ms ws M w→Ext w0 Ms ws M' w)∧Rel w0 n M' e' s' a w
theorem Good.imp {l:List Oper} {ef:List Nat} {F:St→Prop} {T T':Env→St→Prop} (hT:∀ ev s,T ev s→T' ev s):∀ k dn ev s,Good P w0 n l ef F T k dn ev s→Good P w0 n l ef F T' k dn ev s
 | 0,_,_,_,h=>h
 | k+1,_,_,_,h=>⟨h.1,fun q=>hT _ _ (h.2.1 q),fun i a b c=>by
  obtain ⟨o,f,e,g,Post,j,m⟩:=h.2.2 i a b c
  exact ⟨o,f,e,g,Post,j,fun v d q=>Good.imp hT k _ _ _ (m v d q)⟩⟩
section
variable {M0:Mem} {W0:World} {ro:Option Nat} {Q:AQ} {e:Env} {st:St}
theorem Wi (hm:P.follows .mixedOrders=true) (ef el L:List Nat) {id:Nat} {l:List Oper} (hB:Hr l ef=true) (hel:OG l ef el=true) (F:St→Prop) (k nb:Nat) {e1:Env} (hnb:st.boxes.length=nb)
  (hN:∀ t,(∀ i o,i ∉ ef→l[i]? = some o→o.dst≠some t)→look e1 t=look e t) (hF:∀ s,F s→∀ i o,i ∉ ef→(i∈el→s=st)→l[i]? = some o→ZdX P w0 n l e1 s o)
  (hG:Good P w0 n l ef F (fun ev s=>∃ e2 s2,Conv w0 n nb ev s e2 s2∧Q .normal (DD L e2) s2) k [] e1 st):Da P w0 n M0 W0 ro (.region id l.toArray true) Q e st:=by
 intro m M a w hr
 obtain ⟨d1,d2⟩:=hr.rel.st.drew
 refine wpIn_region_any hm (O3 (s0:=st) (e:=e) (e1:=e1) (M1:=M) (w1:=w) (ds:=a.defers) hB hel hN (fun _ s h i o g _ q v=>hF s h i o g q v) (fun ev s M' u r d b y hd=>?_) _ _ a _ M k [] e1 st ?_ hG ?_)
 ·obtain ⟨e2,s2,d,z⟩:=d
  obtain ⟨M2,p,C⟩:=d M' u r b
  have f:=p M w (hr.rel.st.N.trans hnb) y
  refine ⟨M2,_,_,⟨C.sub (EW L _),hr.ext.trans f,?_⟩,z⟩
  rw [hd]
  exact hr.marks.later f hr.rel.st
 ·simp
 ·have hnl:∀ j,(Array.replicate l.toArray.size false).getD j false=false:=fun j=>by
   by_cases c:j<l.length
   ·simp [Array.getD_eq_getD_getElem?,c]
   ·simp [Array.getD_eq_getD_getElem?,c]
  exact ⟨by simp,fun _=>rfl,fun j _ _ hl=>(by rw [hnl] at hl;cases hl),fun i _=>(by rw [hnl];simp),fun _ h=>(nomatch h),d1,hr.rel.size,rfl,d2,fun _ _=>rfl,fun _ _ ⟨_,h,_⟩=>(nomatch h),
   fun _ _ _ ⟨i,_,_,_,_,h⟩=>(by rw [hnl] at h;cases h),fun t x _ hs=>(hr.rel.env t x hs).mono d2⟩
theorem ZdA (hm:P.follows .mixedOrders=true) (ef L:List Nat) {id:Nat} {l:List Oper} (hB:Hr l ef=true) (F:List Nat→St→Prop) (k nb:Nat) {e1 e2:Env} {s2:St} (hnb:st.boxes.length=nb)
  (h0:∃ c,MC P w0 n true l (fun e' s'=>e'=e1∧s'=st) c (Bj ef 0 l) e st)
  (hF:∀ dn s,F dn s→∃ el:List Nat,(el.all fun i=>dn.any fun j=>I0 (DF l []) j i)=true∧∃ c,MC P w0 n true l (fun e' s'=>s'=s∧PreOk e1 e') c (Bj (ef++el) 0 l) e1 s)
  (hG:GoodD P w0 n l ef F (fun ev s=>Conv w0 n nb ev s e2 s2) k [] e1 st) (hQ:Q .normal (DD L e2) s2):Da P w0 n M0 W0 ro (.region id l.toArray true) Q e st:=by
 intro m M a w hr
 obtain ⟨d1,d2⟩:=hr.rel.st.drew
 refine wpIn_region_any hm (O3 (s0:=st) (e:=e) (e1:=e1) (M1:=M) (w1:=w) (ds:=a.defers) (el:=[]) hB (by simp [OG]) (Oj hB h0).1 (fun dn s h i o q d _ C=>?_) (fun ev s M' z y f b D hd=>?_) _ _ a _ M k [] e1 st ?_ hG ?_)
 ·obtain ⟨el,g,f⟩:=hF dn s h
  refine Uk hB f i o q (fun u=>?_) C
  obtain ⟨j,r,hj2⟩:=List.any_eq_true.1 (List.all_eq_true.1 g i u)
  rw [d j r] at hj2
  cases hj2
 ·obtain ⟨M2,v,E⟩:=f M' z y b
  have p:=v M w (hr.rel.st.N.trans hnb) D
  refine ⟨M2,_,_,⟨E.sub (EW L _),hr.ext.trans p,?_⟩,hQ⟩
  rw [hd]
  exact hr.marks.later p hr.rel.st
 ·simp
 ·have hnl:∀ j,(Array.replicate l.toArray.size false).getD j false=false:=fun j=>by
   by_cases c:j<l.length
   ·simp [Array.getD_eq_getD_getElem?,c]
   ·simp [Array.getD_eq_getD_getElem?,c]
  exact ⟨by simp,fun _=>rfl,fun j _ _ hl=>(by rw [hnl] at hl;cases hl),fun i _=>(by rw [hnl];simp),fun _ h=>(nomatch h),d1,hr.rel.size,rfl,d2,fun _ _=>rfl,fun _ _ ⟨_,h,_⟩=>(nomatch h),
   fun _ _ _ ⟨i,_,_,_,_,h⟩=>(by rw [hnl] at h;cases h),fun t x _ hs=>(hr.rel.env t x hs).mono d2⟩
theorem Zb4 (hm:P.follows .mixedOrders=true) (ef L:List Nat) {id:Nat} {l:List Oper} (hB:Hr l ef=true) (F:St→Prop) (k nb:Nat) {e1:Env} (hnb:st.boxes.length=nb)
  (hF:∀ s,F s→∃ c,MC P w0 n true l (fun e' s'=>e'=e1∧s'=s) c (Bj ef 0 l) e s) (hG:Good P w0 n l ef F (fun ev s=>∃ e2 s2,Conv w0 n nb ev s e2 s2∧Q .normal (DD L e2) s2) k [] e1 st):Da P w0 n M0 W0 ro (.region id l.toArray true) Q e st :=
 have a:F st:=by
  cases k with
  | zero=>exact hG.elim
  | succ k=>exact hG.1
 Wi hm ef [] L hB (by simp [OG]) F k nb hnb (Oj hB (hF st a)).1 (fun s h i o b _ d=>(Oj hB (hF s h)).2 i o b d) hG
theorem UM (hm:P.follows .mixedOrders=true) (ef L:List Nat) {id:Nat} {l:List Oper} (hB:Hr l ef=true) (F:St→Prop) (k nb:Nat) {e1 e2:Env} {s2:St} (hnb:st.boxes.length=nb)
  (hF:∀ s,F s→∃ c,MC P w0 n true l (fun e' s'=>e'=e1∧s'=s) c (Bj ef 0 l) e s) (hG:Good P w0 n l ef F (fun ev s=>Conv w0 n nb ev s e2 s2) k [] e1 st) (hQ:Q .normal (DD L e2) s2):Da P w0 n M0 W0 ro (.region id l.toArray true) Q e st :=
 Zb4 hm ef L hB F k nb hnb hF (hG.imp (fun _ _ h=>⟨e2,s2,h,hQ⟩))
theorem Lj (hm:P.follows .mixedOrders=true) (ef el L:List Nat) {id:Nat} {l:List Oper} (hB:(Hr l ef&&OG l ef el)=true) (F:St→Prop) (k nb:Nat) {e1 e2:Env} {s2:St} (hnb:st.boxes.length=nb)
  (h0:∃ c,MC P w0 n true l (fun e' s'=>e'=e1∧s'=st) c (Bj ef 0 l) e st)
  (hF:∀ s,F s→∃ c,MC P w0 n true l (fun e' s'=>s'=s∧PreOk e1 e') c (Bj (ef++el) 0 l) e1 s) (hG:Good P w0 n l ef F (fun ev s=>Conv w0 n nb ev s e2 s2) k [] e1 st) (hQ:Q .normal (DD L e2) s2):Da P w0 n M0 W0 ro (.region id l.toArray true) Q e st :=
 have a:=Bool.and_eq_true_iff.1 hB
 Wi hm ef el L a.1 a.2 F k nb hnb (Oj a.1 h0).1 (fun s h i o b f d=>by
  by_cases c:i∈el
  ·rw [f c];exact (Oj a.1 h0).2 i o b d
  ·exact Uk a.1 (hF s h) i o b c d) (hG.imp (fun _ _ h=>⟨e2,s2,h,hQ⟩))
end
theorem JL (L:List Nat) {nb:Nat} {e e':Env} {s:St} (h:DD L e=e'):Conv w0 n nb e s e' s:=fun M _ w a=>⟨M,fun _ _ _ h=>h,by rw [←h];exact a.sub (EW L e)⟩
def LO (l:List Oper) (ef dn:List Nat):List Nat:=ef.filter fun i => !dn.contains i&&ef.all fun j => !I0 (DF l []) i j||dn.contains j
theorem Good.mk {l:List Oper} {ef dn:List Nat} {F:St→Prop} {T:Env→St→Prop} {k:Nat} {ev:Env} {s:St} (rs:List Nat) (hr:LO l ef dn=rs) (hF:F s) (hT:(ef.all fun i=>dn.contains i)=true→T ev s)
  (h:∀ i∈rs,∃ o,l[i]? = some o∧o.guard=none∧dstOk n o.dst∧∃ Post:AV→St→Prop,Qg P w0 (AK true l o ev) s o Post∧∀ v s',Post v s'→Good P w0 n l ef F T k (i::dn) (Du ev o.dst true v) s'):Good P w0 n l ef F T (k+1) dn ev s :=
 ⟨hF,hT,fun i a hd b=>h i (by rw [←hr];exact List.mem_filter.2 ⟨a,by rw [hd,b];rfl⟩)⟩
theorem GoodD.mk {l:List Oper} {ef dn:List Nat} {F:List Nat→St→Prop} {T:Env→St→Prop} {k:Nat} {ev:Env} {s:St} (rs:List Nat) (hr:LO l ef dn=rs) (hF:F dn s) (hT:(ef.all fun i=>dn.contains i)=true→T ev s)
  (h:∀ i∈rs,∃ o,l[i]? = some o∧o.guard=none∧dstOk n o.dst∧∃ Post:AV→St→Prop,Qg P w0 (AK true l o ev) s o Post∧∀ v s',Post v s'→GoodD P w0 n l ef F T k (i::dn) (Du ev o.dst true v) s'):GoodD P w0 n l ef F T (k+1) dn ev s :=
 ⟨hF,hT,fun i a hd b=>h i (by rw [←hr];exact List.mem_filter.2 ⟨a,by rw [hd,b];rfl⟩)⟩
theorem M9 {l:List Oper} {ef dn:List Nat} {F:List Nat→St→Prop} {T:Env→St→Prop} {k i:Nat} {ev:Env} {s:St} {o:Oper} {v:AV} {s':St} (ho:l[i]? = some o) (hg:o.guard=none) (hd:dstOk n o.dst) (hs:CJ P w0 (AK true l o ev) s o v s')
  (hk:GoodD P w0 n l ef F T k (i::dn) (Du ev o.dst true v) s'):∃ o,l[i]? = some o∧o.guard=none∧dstOk n o.dst∧∃ Post:AV→St→Prop,Qg P w0 (AK true l o ev) s o Post∧∀ v s',Post v s'→GoodD P w0 n l ef F T k (i::dn) (Du ev o.dst true v) s' :=
 ⟨o,ho,hg,hd,fun r t=>r=v∧t=s',.inr ⟨v,s',hs,fun _ _ h=>h⟩,by rintro _ _ ⟨rfl,rfl⟩;exact hk⟩
theorem CP {l:List Oper} {ef dn:List Nat} {F:St→Prop} {T:Env→St→Prop} {k i:Nat} {ev:Env} {s:St} {o:Oper} {v:AV} {s':St} (ho:l[i]? = some o) (hg:o.guard=none) (hd:dstOk n o.dst) (hs:CJ P w0 (AK true l o ev) s o v s')
  (hk:Good P w0 n l ef F T k (i::dn) (Du ev o.dst true v) s'):∃ o,l[i]? = some o∧o.guard=none∧dstOk n o.dst∧∃ Post:AV→St→Prop,Qg P w0 (AK true l o ev) s o Post∧∀ v s',Post v s'→Good P w0 n l ef F T k (i::dn) (Du ev o.dst true v) s' :=
 ⟨o,ho,hg,hd,fun r t=>r=v∧t=s',.inr ⟨v,s',hs,fun _ _ h=>h⟩,by rintro _ _ ⟨rfl,rfl⟩;exact hk⟩
theorem R.agree {M M':Mem} {w:World} {nb:Nat} (h1:∀ l,l<nb→M'.bx l=M.bx l) (hN:nb≤M'.N) (h2:M'.NR=M.NR) (h3:M'.NL=M.NL) (h4:M'.top=M.top) (h5:M'.fr=M.fr) (h6:M'.blk=M.blk) (h7:M'.cap=M.cap) (h8:M'.rsz=M.rsz) (h9:M'.lb=M.lb) {nr nl:Nat} {v:Value} {x:AV}
  (h:R w0 M w v x) (hu:Under nb nr nl x):R w0 M' w v x:=by
 induction h with
 | flat h=>exact .flat h
 | agg hl h1 _ ih=>exact .agg hl h1 fun i a b=>ih i a b (Cd.1 hu _ (List.getElem_mem _))
 | tup hl _ ih=>exact .tup hl fun i a b=>ih i a b (OA.1 hu _ (List.getElem_mem _))
 | nil ho=>exact .nil ho
 | emp ho=>exact .emp ho
 | @list b off cap xs o sz us hc hm hcell _ ho ih =>
  obtain ⟨q1,q2⟩:=M6.1 hu
  refine .list sz us hc hm (fun i c=>⟨(hcell i c).1,fun j d=>?_⟩) (fun i c=>ih i c (q1 _ (List.getElem_mem _))) ?_
  ·have:=(hcell i c).2 j d
   exact ⟨by simpa only [Mem.imm,h4] using this.1,this.2⟩
  ·cases o with
   | row id=>simpa only [Zi,h2,h5,h6,h7,h8] using ho
   | _=>exact ho
 | elem u k hcell _ ih=>exact .elem u k (fun j d=>⟨by simpa only [Mem.imm,h4] using (hcell j d).1,(hcell j d).2⟩) (ih (Na.1 hu))
 | @box l off _=>have:=OW.1 hu;rw [←h1 l this];exact .box (Nat.lt_of_lt_of_le this hN)
 | clo hl _ ih=>exact .clo hl fun i a b=>ih i a b (L2.1 hu _ (List.getElem_mem _))
 | @yld k hk=>rw [←h9];exact .yld (by rw [h3];exact hk)
 | @mp k hk=>rw [←h9];exact .mp (by rw [h3];exact hk)
 | tab h hk hn=>exact .tab h hk (by rw [h3,h9];exact hn)
 | @vec id ver o n p cap c hv h=>exact .vec (by rw [h2];exact c) (by rw [h5];exact hv) (by rw [h5,h6,h7,h8];exact h)
 | @vel id ver off a c hv h=>exact .vel (by rw [h2];exact c) (by rw [h5];exact hv) (by rw [h5,h6];exact h)
def IP (N l:Nat):Nat:=if l=N then N+1 else if l=N+1 then N else l
theorem ZI {e e':Env} {bs:List (List AV)} {x y:List AV} {rows:List RowA} {L:List LoopA} (hc:Calm bs.length rows.length L.length ⟨bs,rows,L⟩) (hx:∀ z∈x,Under bs.length rows.length L.length z) (hy:∀ z∈y,Under bs.length rows.length L.length z)
  (he:∀ s v,look e' s=some v→(v=(true,.box bs.length 0)∧look e s=some (true,.box (bs.length+1) 0))∨(v=(true,.box (bs.length+1) 0)∧look e s=some (true,.box bs.length 0))∨(look e s=some v∧(v.1=true→Under bs.length rows.length L.length v.2))) :
  Conv w0 n bs.length e ⟨bs++[x,y],rows,L⟩ e' ⟨bs++[y,x],rows,L⟩:=by
 intro M a w f
 have hN:M.N=bs.length+2:=by rw [f.st.N];simp
 let M':Mem:={ M with bx:=fun l=>M.bx (IP bs.length l) }
 have m:∀ l,l<bs.length→M'.bx l=M.bx l:=fun l hl=>by
  show M.bx (IP bs.length l)=_
  rw [IP,Aa,Aa]
 have ag:∀ {nr nl:Nat} {v:Value} {z:AV},R w0 M w v z→Under bs.length nr nl z→R w0 M' w v z:=fun h hu=>R.agree m (by show bs.length≤M.N;omega) rfl rfl rfl rfl rfl rfl rfl rfl h hu
 have Q:M'.bx bs.length=M.bx (bs.length+1):=by show M.bx (IP _ _)=_;rw [IP,Ah rfl]
 have E:M'.bx (bs.length+1)=M.bx bs.length:=by show M.bx (IP _ _)=_;rw [IP,Aa,Ah rfl]
 have K:∀ l,IP bs.length (IP bs.length l)=l:=fun l=>by unfold IP;split<;>split<;>(try split)<;>omega
 have g:∀ l,l<M.N→IP bs.length l<M.N:=fun l hl=>by unfold IP;split<;>(try split)<;>omega
 have D:(bs++[x,y])[bs.length]? = some x:=by simp
 have C:(bs++[x,y])[bs.length+1]? = some y:=by simp
 refine ⟨M',fun Ms ws aa d=>⟨Nat.le_trans d.N (Nat.le_refl _),fun l hl=>(m l (by omega)).trans (d.bx l hl),d.NR,d.rows,d.cell,d.size,d.NL,d.lb,d.lnew,d.objs,fun b q1 q2=>let ⟨a1,a2,a3⟩:=d.keep b q1 q2;⟨a1,⟨fun l hl=>a2.1 (IP bs.length l) (g l hl),a2.2.1,a2.2.2⟩,a3⟩⟩,⟨⟨f.st.below,by show M.N=_;rw [f.st.N];simp,f.st.NR,f.st.top,fun l O H G V=>?_,fun l cs hl=>?_,fun id r F=>?_,f.st.rowinj,⟨f.st.loop.NL,f.st.loop.inj,fun k la hk=>?_⟩⟩,f.size,fun s v hs=>?_⟩⟩
 ·have:=f.st.inj (IP bs.length l) (IP bs.length O) (g l H) (g O G) V
  rw [←K l,this,K]
 ·by_cases c1:l<bs.length
  ·rw [List.getElem?_append_left c1] at hl
   obtain ⟨a1,a2,c,t,a3,a4,a5,a6⟩:=f.st.box l cs (by rw [List.getElem?_append_left c1];exact hl)
   rw [m l c1]
   exact ⟨a1,a2,c,t,a3,a4,a5,fun i p j=>ag (a6 i p j) (hc.boxes cs (List.mem_of_getElem? hl) _ (List.getElem_mem _))⟩
  ·rw [List.getElem?_append_right (by omega)] at hl
   have J:l-bs.length=0∨l-bs.length=1:=by
    have:=(Aj.1 hl).1
    simp at this;omega
   rcases J with q | q
   ·rw [q] at hl
    simp only [List.getElem?_cons_zero,Option.some.injEq] at hl
    subst hl
    obtain rfl:l=bs.length:=by omega
    obtain ⟨a1,a2,c,t,a3,a4,a5,a6⟩:=f.st.box _ y C
    rw [Q]
    exact ⟨a1,a2,c,t,a3,a4,a5,fun i p j=>ag (a6 i p j) (hy _ (List.getElem_mem _))⟩
   ·rw [q] at hl
    simp only [List.getElem?_cons_succ,List.getElem?_cons_zero,Option.some.injEq] at hl
    subst hl
    obtain rfl:l=bs.length+1:=by omega
    obtain ⟨a1,a2,c,t,a3,a4,a5,a6⟩:=f.st.box _ x D
    rw [E]
    exact ⟨a1,a2,c,t,a3,a4,a5,fun i p j=>ag (a6 i p j) (hx _ (List.getElem_mem _))⟩
 ·have hk:=f.st.row id r F
  have o:∀ l,l<M'.N→M'.bx l≠M.blk id:=fun l hl=>hk.ne _ (g l hl)
  cases r with
  | grow n sz=>obtain ⟨a1,a2,a3,a4,a5,a6⟩:=hk;exact ⟨a1,a2,a3,a4,o,a6⟩
  | vec v sz cs =>
   obtain ⟨a1,a2,a3,a4,a5,a6,a7,c,t,Y,U,p,j,Z⟩:=hk
   exact ⟨a1,a2,a3,a4,o,a6,a7,c,t,Y,U,p,j,fun i H G=>ag (Z i H G) (hc.rows _ (List.mem_of_getElem? F) _ (List.getElem_mem _))⟩
  | dead v=>obtain ⟨a1,a2,a3,a4⟩:=hk;exact ⟨a1,a2,o,a4⟩
 ·obtain ⟨a1,a2⟩:=f.st.loop.record k la hk
  refine ⟨a1,a2.map (fun _ q _=>q) fun s v _ hs this=>?_⟩
  unfold entryOk at this ⊢
  split
  ·rename_i c;rw [Ah c] at this;exact ag this (hc.loops la (List.mem_of_getElem? hk) s v hs c)
  ·rename_i c;rw [Ai c] at this;exact this
 ·rcases he s v hs with ⟨rfl,h⟩ | ⟨rfl,h⟩ | ⟨h,hu⟩
  ·have:=f.env s _ h
   simp only [entryOk,if_true] at this ⊢
   generalize a.tmps.getD s undef=u at this
   cases this with
   | box hl=>rw [←Q];exact .box (M:=M') (by show _<M.N;omega)
  ·have:=f.env s _ h
   simp only [entryOk,if_true] at this ⊢
   generalize a.tmps.getD s undef=u at this
   cases this with
   | box hl=>rw [←E];exact .box (M:=M') (by show _<M.N;omega)
  ·have:=f.env s v h
   unfold entryOk at this ⊢
   split
   ·rename_i c;rw [Ah c] at this;exact ag this (hu c)
   ·rename_i c;rw [Ai c] at this;exact this
def Ql (e:Env) (N nr nl:Nat):Env→Prop
 | []=>True
 | (k,c,z)::r=>((c=true∧z = .box N 0∧look e k=some (true,.box (N+1) 0))∨(c=true∧z = .box (N+1) 0∧look e k=some (true,.box N 0))∨(look e k=some (c,z)∧Under N nr nl z))∧Ql e N nr nl r
theorem HQ {e:Env} {N nr nl k:Nat} {c:Bool} {z:AV} {r:Env} (h:(c=true∧z = .box N 0∧look e k=some (true,.box (N+1) 0))∨(c=true∧z = .box (N+1) 0∧look e k=some (true,.box N 0))∨(look e k=some (c,z)∧Under N nr nl z)) (h':Ql e N nr nl r):Ql e N nr nl ((k,c,z)::r):=⟨h,h'⟩
theorem Pz {e:Env} {N nr nl:Nat}:∀ {e':Env} {s:Nat} {v:Bool × AV},Ql e N nr nl e'→look e' s=some v→(v=(true,.box N 0)∧look e s=some (true,.box (N+1) 0))∨(v=(true,.box (N+1) 0)∧look e s=some (true,.box N 0))∨(look e s=some v∧(v.1=true→Under N nr nl v.2))
 | (k,c,z)::r,s,v,h,hl=>by
  simp only [look] at hl
  by_cases q:k=s
  ·subst q
   rw [Ah rfl] at hl
   cases hl
   rcases h.1 with ⟨rfl,rfl,h'⟩ | ⟨rfl,rfl,h'⟩ | ⟨h',hu⟩
   ·exact .inl ⟨rfl,h'⟩
   ·exact .inr (.inl ⟨rfl,h'⟩)
   ·exact .inr (.inr ⟨h',fun _=>hu⟩)
  ·rw [Ai q] at hl;exact Pz h.2 hl
theorem X7 {e e':Env} {B own:List (List AV)} {x y:List AV} {rows:List RowA} {L:List LoopA} {N:Nat} (hN:B.length+own.length=N) (hc:Calm (B.length+own.length) rows.length L.length ⟨B++own,rows,L⟩)
  (hx:∀ z∈x,Under N rows.length L.length z) (hy:∀ z∈y,Under N rows.length L.length z) (he:Ql e N rows.length L.length e'):Conv w0 n N e ⟨B++(own++[x,y]),rows,L⟩ e' ⟨B++(own++[y,x]),rows,L⟩:=by
 have a:(B++own).length=N:=by rw [List.length_append,hN]
 rw [←List.append_assoc,←List.append_assoc]
 rw [hN] at hc
 rw [←a] at hc hx hy he ⊢
 exact ZI hc hx hy fun s v h=>Pz he h
end
def Tg {α:Type} (_:α):Prop:=True
theorem tg {α:Type} {a:α}:Tg a:=trivial
theorem cl {p:Prop} (h:p:=by first | (intros;omega) | (intros;(repeat' with_reducible apply Ad)<;>assumption) | (intros;simp_all;done) | (intros;simp only [Bool.or_eq_false_iff,Bool.or_eq_true,Bool.and_eq_true,Bool.and_eq_false_iff,decide_eq_true_eq,decide_eq_false_iff_not,bne_iff_ne] at *; omega)):p:=h
theorem pf {p:Prop} (h:p:=by first | exact List.prefix_append _ _ | exact List.prefix_refl _ | (rw [List.append_assoc];exact List.prefix_append _ _)):p:=h
theorem ev {p:Prop} (h:p:=by simp +decide only [go_sem,Nat.reduceAdd]):p:=h
theorem ef {p F:Prop} (f:F) (h:F→p:=by intro hs;first | rfl | (simp +decide only [go_sem,Nat.reduceAdd,hs];done)):p:=h f
theorem en {p F:Prop} (f:F) (h:F→p:=by intro hs;first | (simp +decide only [go_sem,Nat.reduceAdd,hs];done) | (simp +decide only [go_sem,Nat.reduceAdd,hs];rfl)):p:=h f
theorem ow {p:Prop} (h:p:=by (simp +decide only [go_sem,Nat.reduceAdd,HH])<;>(try (repeat' apply Ad))<;>first | omega | assumption):p:=h
theorem Zh5:(0:Nat)=0:=rfl
section
variable {P:Program} {w0:World} {n:Nat} {M0:Mem} {W0:World} {ro:Option Nat} {e:Env} {st:St} {Q:AQ}
theorem HU {c:Nat} {L:List Nat} (tc:Tg c) (tL:Tg L) {id:Nat} {l:List Oper} (h:MC P w0 n false l (fun e' st'=>Q .normal (DD L e') st') c l e st):Da P w0 n M0 W0 ro (.region id l.toArray false) Q e st:=Av c L h
theorem Q5 {L:List Nat} (t:Tg L) {c:Code} (h:Da P w0 n M0 W0 ro c Q (DD L e) st):Da P w0 n M0 W0 ro c Q e st:=Zl _ h (EW _ _)
theorem To {h c1 c2:Nat} {L:List Nat} (tt:Tg (h,c1,c2,L)) (hm:P.follows .mixedOrders=true) {id:Nat} {l:List Oper} (hB:Lh l h=true)
  (hev:MC P w0 n true l (fun e1 s1=>MC P w0 n false l (fun e2 s2=>Q .normal (DD L e2) s2) c2 (l.drop h) e1 s1) c1 (l.take h) e st):Da P w0 n M0 W0 ro (.region id l.toArray true) Q e st:=VM hm h c1 c2 L hB hev
theorem HM {c d:Bool} {fv:AV} {args:List AV} {k:AV→St→Prop} (h:I3 P w0 c d fv args st k):I3 P w0 c d fv args st k:=h
theorem F6 {β:Type} {F:Prop} {b:Bool} {X Y r:β} (h:(if b=true then X else Y)=r) (f:F) {c:Operand} {x y:Code} (ht:(b=true∧F)→X=r→Da P w0 n M0 W0 ro x Q e st) (hf:(b=false∧F)→Y=r→Da P w0 n M0 W0 ro y Q e st)
  (hc:argOk e true c:=by simp +decide only [go_sem,Nat.reduceAdd]) (hb:F→Aq e c = .val (.bool b):=by intro hs;first | (simp +decide only [go_sem,Nat.reduceAdd,hs];done) | (simp +decide only [go_sem,Nat.reduceAdd,hs];rfl)):Da P w0 n M0 W0 ro (.cond c x y) Q e st :=
 BN b hc (hb f) (fun q=>ht ⟨q,f⟩ (DK h q)) (fun q=>hf ⟨q,f⟩ (DI h q))
theorem td {B0 B bs X:List (List AV)} {Rw rows:List RowA} {L:List LoopA} {l:List (Nat × Nat × Own)} {c:Code} (hN:M0.N=B0.length) (hNR:M0.NR=Rw.length) (hNL:M0.NL=L.length) (hc:Calm B0.length Rw.length L.length ⟨B,Rw,L⟩) (ho:Owns Rw rows l)
  (h:Da P w0 n M0 W0 ro c Q e ⟨B++bs,rows,L⟩) (hB:B.length=B0.length:=by first | rfl | simp only [List.length_set])
  (hbs:∀ cs∈bs,∀ x∈cs,Under (B0.length+bs.length) rows.length L.length x:=by (simp +decide only [go_sem,Nat.reduceAdd])<;>(try (repeat' apply Ad))<;>first | omega | assumption)
  (he:HH (B0.length+bs.length) rows.length L.length e:=by (simp +decide only [go_sem,Nat.reduceAdd,HH])<;>(try (repeat' apply Ad))<;>first | omega | assumption):Da P w0 n M0 W0 ro c Q e ⟨B++(bs++X),rows,L⟩ :=
 BW hN hNR hNL hB hc ho hbs he h
end
section
variable {P:Program} {w0:World} {n:Nat} {M0:Mem} {W0:World} {ro:Option Nat} {e:Env} {st:St} {Q:AQ}
theorem Zdm (g:Nat) (x:AV) (hn:n≤1000000) {c:Code} (h:Da P w0 n M0 W0 ro c Q ((2000000+g,false,x)::e) st):Da P w0 n M0 W0 ro c Q e st :=
 NM _ _ (fun M a w b=>⟨M,.refl _ _ _,b.st,b.size,fun s y hs=>by
  simp only [look] at hs
  by_cases q:2000000+g=s
  ·rw [Ah q] at hs
   cases hs
   have d:1000000≤s:=by rw [←q];omega
   simp only [entryOk,Bool.false_eq_true,if_false]
   rw [Array.getD_eq_getD_getElem?,Array.getElem?_eq_none (by rw [b.size];omega)]
   rfl
  ·rw [Ai q] at hs
   exact b.env s y hs⟩) h
theorem QD (t:TypeId) (hn:n≤1000000) {c:Code} (h:Da P w0 n M0 W0 ro c Q ((1000000+t,false,.junk)::e) st):Da P w0 n M0 W0 ro c Q e st :=
 NM _ _ (fun M a w b=>⟨M,.refl _ _ _,b.st,b.size,fun s x hs=>by
  simp only [look] at hs
  by_cases q:1000000+t=s
  ·rw [Ah q] at hs
   cases hs
   have d:1000000≤s:=by rw [←q];exact Nat.le_add_right _ _
   simp only [entryOk,Bool.false_eq_true,if_false]
   rw [Array.getD_eq_getD_getElem?,Array.getElem?_eq_none (by rw [b.size];omega)]
   rfl
  ·rw [Ai q] at hs
   exact b.env s x hs⟩) h
end
theorem rg {F p q:Prop} (L:List Nat) (f:F) (k:q) (h:Tg L→F→q→p:=by
  intro tL hs hq
  apply Am;intro K hK
  refine HU (c:=1) tg tL ?_
  rw [Ap];simp +decide only [go_sem,Nat.reduceAdd,hs]
  first | (refine hK _ _ ?_;exact hq) | ((repeat' apply Ad)<;>first | (refine hK _ _ ?_;exact hq) | (clear hq;exact cl))):p:=h tg f k
theorem rc {F p q:Prop} (c:Nat) (L:List Nat) (f:F) (k:q) (h:Tg c→Tg L→F→q→p:=by
  intro tc tL hs hq
  apply Am;intro K hK
  refine HU tc tL ?_
  rw [Ap];simp +decide only [go_sem,Nat.reduceAdd,hs]
  first | (refine HM ?_;revert K;exact hq) | ((repeat' apply Ad)<;>first | (refine HM ?_;revert K;exact hq) | (clear hq;exact cl))):p:=h tg tg f k
theorem nc {F p q:Prop} (f:F) (k:q) (h:F→q→p:=by
  intro hs hq
  rw [Ap];simp +decide only [go_sem,Nat.reduceAdd,hs]
  first | (refine HM ?_;exact hq) | ((repeat' apply Ad)<;>first | (refine HM ?_;exact hq) | (clear hq;exact cl))):p:=h f k
theorem ne {F p q:Prop} (f:F) {K:Env→St→Prop} {A:Env→St→Prop} (hK:∀ e s,A e s→K e s) (k:q) (h:F→(∀ e s,A e s→K e s)→q→p:=by
  intro hs hK hq
  rw [Ap];simp +decide only [go_sem,Nat.reduceAdd,hs]
  first | (refine hK _ _ ?_;exact hq) | ((repeat' apply Ad)<;>first | (refine hK _ _ ?_;exact hq) | (clear hq;exact cl))):p:=h f hK k
theorem sk {F p q:Prop} (L:List Nat) (f:F) {A K:Env→St→Prop} (hK:∀ e s,A e s→K e s) (k:q) (h:Tg L→F→(∀ e s,A e s→K e s)→q→p:=by
  intro tL hs hK hq
  refine Q5 tL ?_
  apply C7;simp +decide only [go_sem,Nat.reduceAdd]
  first | (refine hK _ _ ?_;exact hq) | ((repeat' apply Ad)<;>first | (refine hK _ _ ?_;exact hq) | (clear hq;exact cl))):p:=h tg f hK k
theorem sx {F p q:Prop} (L:List Nat) (f:F) {A K:Env→St→Prop} (hK:∀ e s,A e s→K e s) (k:q) (h:Tg L→F→(∀ e s,A e s→K e s)→q→p:=by
  intro tL hs hK hq
  refine Q5 tL ?_
  apply Iy;simp +decide only [go_sem,Nat.reduceAdd]
  first | (refine hK _ _ ?_;exact hq) | ((repeat' apply Ad)<;>first | (refine hK _ _ ?_;exact hq) | (clear hq;exact cl))):p:=h tg f hK k
theorem rl {F p q:Prop} (L:List Nat) (f:F) {A K:Env→St→Prop} (hK:∀ e s,A e s→K e s) (k:q) (h:Tg L→F→(∀ e s,A e s→K e s)→q→p:=by
  intro tL hs hK hq
  refine HU (c:=1) tg tL ?_
  rw [Ap];simp +decide only [go_sem,Nat.reduceAdd,hs]
  first | (refine hK _ _ ?_;exact hq) | ((repeat' apply Ad)<;>first | (refine hK _ _ ?_;exact hq) | (clear hq;exact cl))):p:=h tg f hK k
theorem rk {F p q:Prop} (c:Nat) (L:List Nat) (f:F) (k:q) (h:Tg c→Tg L→F→q→p:=by
  intro tc tL hs hq
  refine HU tc tL ?_
  rw [Ap];simp +decide only [go_sem,Nat.reduceAdd,hs]
  first | (refine HM ?_;exact hq) | ((repeat' apply Ad)<;>first | (refine HM ?_;exact hq) | (clear hq;exact cl))):p:=h tg tg f k
theorem hd {P:Program} {w0:World} {f:FuncId} {fn:Func} {c:Code} {n:Nat} {args:List AV} {B:List (List AV)} {Rw:List RowA} {L:List LoopA} {Post:AV→St→Prop} (rs:List ResultVar) (hf:P.funcs[f]? = some fn) (hn:fn.ntmps=n)
  (k:∀ (M0:Mem) (W0:World),M0.N=B.length→M0.NR=Rw.length→M0.NL=L.length→Calm B.length Rw.length L.length ⟨B,Rw,L⟩→(∀ x∈args,Under B.length Rw.length L.length x)→Owns Rw Rw []→(0:Nat)=0 →
   Da P w0 n M0 W0 none c (ZcP P rs (finP ⟨B,Rw,L⟩ Post)) (Az 0 args) ⟨B,Rw,L⟩)
  (hb:fn.body=some c:=by rfl) (hrs:fn.results=rs.toArray:=by rfl) (hm:fn.name ≠ "runtime.NumGoroutine" := by decide) (ha:args.length≤n:=by exact Nat.le_of_ble_eq_true rfl):ACalls P w0 f args ⟨B,Rw,L⟩ Post :=
 ACalls.finP (DO (rs:=rs) hf hb hrs hn (A0 hf (by rw [hb];rfl) hm) ha fun M0 W0 a d g e b=>k M0 W0 a d g e b (Owns.none Rw) rfl)
theorem ix {α β:Type} {l:List α} {i:Int} {F:α→Option β} {r:β} (g:α→AV) (h:(EA l i).bind F=some r):∃ x,0≤i∧i<l.length∧(l.map g).getD i.toNat .junk=g x∧F x=some r:=by
 obtain ⟨x,d,h⟩:=bind_some h
 obtain ⟨a,b,c⟩:=Fq d
 exact ⟨x,a,b,Fe c,h⟩
abbrev Ck (e:Env) (st:St) (B:Ao) (Rw:Au) (L:As) (e0:Env) (bs:Ao) (ow:List (Nat × Nat × Own)) (c:Prop):Prop :=
 ∃ (X:Ao) (rows:Au),e=e0∧st=⟨B++(bs++X),rows,L⟩∧Owns Rw rows ow∧c
end Go.Ev
namespace Go.Proofs
open Go.Shelf
def Tryz.lays106_ren:Go.Shelf.Ren:=⟨fun | 106=>64 | 213=>103 | 265=>158 | n=>n,fun | 9=>9 | 3=>3 | n=>n,fun | n=>n⟩
theorem Tryz.lays106:Go.Proofs.Lays.n106 Tryz.prog Tryz.lays106_ren:={
 mixed:=by kernel_rfl
 f106:=Tryz.func64.trans (congrArg some (by kernel_rfl))
 f213:=Tryz.func103.trans (congrArg some (by kernel_rfl))
 f265:=Tryz.func158.trans (congrArg some (by kernel_rfl))
 t3:=Tryz.underlying3
 a3:=Tryz.isAgg3
 z3:=Tryz.sizeOf3
 v3:=Tryz.zeroValue3
 t9:=Tryz.underlying9
 a9:=Tryz.isAgg9
 z9:=Tryz.sizeOf9
 v9:=Tryz.zeroValue9 }
open Go.RowKit in
theorem Tryz.strings_Compare (a b:ByteArray) (w:World) :
  Calls Tryz.prog 64 #[.string a,.string b] w fun e w'=>e = .returned (.int .i64 (Lib.compareBytes a.data.toList b.data.toList))∧w'=w:=Any.strings_Compare Tryz.lays106 a b w
def Tryz.laysM171_ren:Go.Shelf.Ren:=⟨fun | 171=>86 | 243=>132 | 246=>163 | 283=>195 | 284=>196 | 285=>197 | 286=>198 | 129=>157 | 317=>230 | 318=>231 | 319=>232 | 320=>233 | 337=>273 | 338=>274 | n=>n,fun | 3=>3 | 9=>9 | 2=>2 | 4=>4 | 171=>270 | 0=>0 | 53=>223 | 37=>127 | 5=>5 | 173=>272 | 212=>306 | 51=>221 | 20=>20 | 213=>307 | 46=>177 | 232=>375 | 233=>376 | n=>n,fun | 17=>3 | 18=>4 | 19=>5 | n=>n⟩
theorem Tryz.laysM171:Go.Proofs.LaysM.n171 Tryz.prog Tryz.laysM171_ren:={
 mixed:=by kernel_rfl
 f129:=Tryz.func157.trans (congrArg some (by kernel_rfl))
 f171:=Tryz.func86.trans (congrArg some (by kernel_rfl))
 f243:=Tryz.func132.trans (congrArg some (by kernel_rfl))
 f246:=Tryz.func163.trans (congrArg some (by kernel_rfl))
 f283:=Tryz.func195.trans (congrArg some (by kernel_rfl))
 f284:=Tryz.func196.trans (congrArg some (by kernel_rfl))
 f285:=Tryz.func197.trans (congrArg some (by kernel_rfl))
 f286:=Tryz.func198.trans (congrArg some (by kernel_rfl))
 f317:=Tryz.func230.trans (congrArg some (by kernel_rfl))
 f318:=Tryz.func231.trans (congrArg some (by kernel_rfl))
 f319:=Tryz.func232.trans (congrArg some (by kernel_rfl))
 f320:=Tryz.func233.trans (congrArg some (by kernel_rfl))
 f337:=Tryz.func273.trans (congrArg some (by kernel_rfl))
 f338:=Tryz.func274.trans (congrArg some (by kernel_rfl))
 t0:=Tryz.underlying0
 a0:=Tryz.isAgg0
 z0:=Tryz.sizeOf0
 v0:=Tryz.zeroValue0
 t2:=Tryz.underlying2
 a2:=Tryz.isAgg2
 z2:=Tryz.sizeOf2
 v2:=Tryz.zeroValue2
 t3:=Tryz.underlying3
 a3:=Tryz.isAgg3
 z3:=Tryz.sizeOf3
 v3:=Tryz.zeroValue3
 t4:=Tryz.underlying4
 a4:=Tryz.isAgg4
 z4:=Tryz.sizeOf4
 v4:=Tryz.zeroValue4
 t5:=Tryz.underlying5
 a5:=Tryz.isAgg5
 z5:=Tryz.sizeOf5
 v5:=Tryz.zeroValue5
 t9:=Tryz.underlying9
 a9:=Tryz.isAgg9
 z9:=Tryz.sizeOf9
 v9:=Tryz.zeroValue9
 t20:=Tryz.underlying20
 a20:=Tryz.isAgg20
 z20:=Tryz.sizeOf20
 v20:=Tryz.zeroValue20
 t37:=Tryz.underlying127
 a37:=Tryz.isAgg127
 z37:=Tryz.sizeOf127
 v37:=Tryz.zeroValue127
 t46:=Tryz.underlying177
 a46:=Tryz.isAgg177
 z46:=Tryz.sizeOf177
 v46:=Tryz.zeroValue177
 t51:=Tryz.underlying221
 a51:=Tryz.isAgg221
 z51:=Tryz.sizeOf221
 v51:=Tryz.zeroValue221
 t53:=Tryz.underlying223
 a53:=Tryz.isAgg223
 z53:=Tryz.sizeOf223
 v53:=Tryz.zeroValue223
 t171:=Tryz.underlying270
 a171:=Tryz.isAgg270
 z171:=Tryz.sizeOf270
 v171:=Tryz.zeroValue270
 t173:=Tryz.underlying272
 a173:=Tryz.isAgg272
 z173:=Tryz.sizeOf272
 v173:=Tryz.zeroValue272
 t212:=Tryz.underlying306
 a212:=Tryz.isAgg306
 z212:=Tryz.sizeOf306
 v212:=Tryz.zeroValue306
 t213:=Tryz.underlying307
 a213:=Tryz.isAgg307
 z213:=Tryz.sizeOf307
 t232:=Tryz.underlying375
 a232:=Tryz.isAgg375
 z232:=Tryz.sizeOf375
 v232:=Tryz.zeroValue375
 t233:=Tryz.underlying376
 a233:=Tryz.isAgg376
 z233:=Tryz.sizeOf376
 v233:=Tryz.zeroValue376
 g17:=by kernel_rfl
 g18:=by kernel_rfl
 g19:=by kernel_rfl
 i0:=by kernel_rfl
 i2:=by kernel_rfl
 i3:=by kernel_rfl
 i4:=by kernel_rfl
 i5:=by kernel_rfl
 i9:=by kernel_rfl
 i20:=by kernel_rfl
 i37:=by kernel_rfl
 i46:=by kernel_rfl
 i51:=by kernel_rfl
 i53:=by kernel_rfl
 i171:=by kernel_rfl
 i173:=by kernel_rfl
 i212:=by kernel_rfl
 i232:=by kernel_rfl
 i233:=by kernel_rfl
 m17:=by kernel_rfl
 m18:=by kernel_rfl
 m19:=by kernel_rfl }
def Tryz.laysValid_ren:Go.Shelf.Ren:=⟨fun | 196=>115 | 259=>159 | n=>n,fun | 9=>9 | 4=>4 | 3=>3 | 5=>5 | 12=>12 | 119=>226 | 0=>0 | 46=>177 | 139=>229 | 138=>228 | 53=>223 | n=>n,fun | 3=>1 | 4=>2 | n=>n⟩
theorem Tryz.laysValid:Go.Proofs.Lays.n196 Tryz.prog Tryz.laysValid_ren:={
 mixed:=by kernel_rfl
 f196:=Tryz.func115.trans (congrArg some (by kernel_rfl))
 f259:=Tryz.func159.trans (congrArg some (by kernel_rfl))
 t0:=Tryz.underlying0
 a0:=Tryz.isAgg0
 z0:=Tryz.sizeOf0
 v0:=Tryz.zeroValue0
 t3:=Tryz.underlying3
 a3:=Tryz.isAgg3
 z3:=Tryz.sizeOf3
 v3:=Tryz.zeroValue3
 t4:=Tryz.underlying4
 a4:=Tryz.isAgg4
 z4:=Tryz.sizeOf4
 v4:=Tryz.zeroValue4
 t5:=Tryz.underlying5
 a5:=Tryz.isAgg5
 z5:=Tryz.sizeOf5
 v5:=Tryz.zeroValue5
 t9:=Tryz.underlying9
 a9:=Tryz.isAgg9
 z9:=Tryz.sizeOf9
 v9:=Tryz.zeroValue9
 t12:=Tryz.underlying12
 a12:=Tryz.isAgg12
 z12:=Tryz.sizeOf12
 v12:=Tryz.zeroValue12
 t46:=Tryz.underlying177
 a46:=Tryz.isAgg177
 z46:=Tryz.sizeOf177
 v46:=Tryz.zeroValue177
 t53:=Tryz.underlying223
 a53:=Tryz.isAgg223
 z53:=Tryz.sizeOf223
 v53:=Tryz.zeroValue223
 t119:=Tryz.underlying226
 a119:=Tryz.isAgg226
 z119:=Tryz.sizeOf226
 t138:=Tryz.underlying228
 a138:=Tryz.isAgg228
 z138:=Tryz.sizeOf228
 v138:=Tryz.zeroValue228
 t139:=Tryz.underlying229
 a139:=Tryz.isAgg229
 z139:=Tryz.sizeOf229
 v139:=Tryz.zeroValue229
 g3:=by kernel_rfl
 g4:=by kernel_rfl }
end Go.Proofs
namespace Go.Proofs.YtcdnijfbfdnjlaaGreatDoor
open Go Go.RowKit Go.Ev
@[go_sem] theorem Zk0:BU Tryz.prog 106=none∧BU Tryz.prog 110=none∧BU Tryz.prog 118=none∧BU Tryz.prog 127=none∧BU Tryz.prog 149=some (11,1,false)∧BU Tryz.prog 198=none∧BU Tryz.prog 22=none∧BU Tryz.prog 224=none∧BU Tryz.prog 23=none∧BU Tryz.prog 232=none∧BU Tryz.prog 234=none∧BU Tryz.prog 239=none:=by (repeat' apply Ad)<;>kernel_rfl
@[go_sem] theorem Zm6:BU Tryz.prog 24=none∧BU Tryz.prog 26=none∧BU Tryz.prog 27=none∧BU Tryz.prog 28=none∧BU Tryz.prog 281=none∧BU Tryz.prog 294=none∧BU Tryz.prog 30=none∧BU Tryz.prog 31=none∧BU Tryz.prog 32=none∧BU Tryz.prog 335=none∧BU Tryz.prog 336=some (11,8,true)∧BU Tryz.prog 34=none:=by (repeat' apply Ad)<;>kernel_rfl
@[go_sem] theorem Znt:BU Tryz.prog 35=none∧BU Tryz.prog 356=none∧BU Tryz.prog 360=none∧BU Tryz.prog 37=none∧BU Tryz.prog 431=some (13,1,false)∧BU Tryz.prog 442=some (12,1,false)∧BU Tryz.prog 45=none∧BU Tryz.prog 46=none∧BU Tryz.prog 47=none∧BU Tryz.prog 49=none∧BU Tryz.prog 51=none∧BU Tryz.prog 53=none:=by (repeat' apply Ad)<;>kernel_rfl
@[go_sem] theorem Znb:BU Tryz.prog 56=none∧BU Tryz.prog 58=none∧BU Tryz.prog 60=none∧BU Tryz.prog 62=none∧BU Tryz.prog 64=none∧BU Tryz.prog 66=none∧BU Tryz.prog 67=none∧BU Tryz.prog 68=none∧BU Tryz.prog 70=none∧BU Tryz.prog 73=none∧BU Tryz.prog 75=none∧BU Tryz.prog 83=none:=by (repeat' apply Ad)<;>kernel_rfl
@[go_sem] theorem ZmN:BU Tryz.prog 85=none∧BU Tryz.prog 9=none∧JG Tryz.prog 4=true∧Hv Tryz.prog 127=true∧Hv Tryz.prog 177=false∧Hv Tryz.prog 21=false∧Hv Tryz.prog 3=false∧Hv Tryz.prog 5=false∧Hv Tryz.prog 9=false∧GT Tryz.prog 127=some (5,1,false,1)∧GT Tryz.prog 149=none∧GT Tryz.prog 198=some (239,3,true,32):=by (repeat' apply Ad)<;>kernel_rfl
@[go_sem] theorem ZiU:GT Tryz.prog 22=some (9,1,false,16):=by kernel_rfl
@[go_sem] theorem Zcq:GT Tryz.prog 23=some (26,7,true,104):=by kernel_rfl
@[go_sem] theorem ZiV:GT Tryz.prog 24=some (118,11,true,160):=by kernel_rfl
@[go_sem] theorem Zbl:GT Tryz.prog 27=some (83,5,true,80):=by kernel_rfl
@[go_sem] theorem Zdt:GT Tryz.prog 28=some (85,6,true,96):=by kernel_rfl
@[go_sem] theorem ZjV:GT Tryz.prog 31=some (64,2,true,40):=by kernel_rfl
@[go_sem] theorem XK:GT Tryz.prog 32=some (3,1,false,8):=by kernel_rfl
@[go_sem] theorem Zcj:GT Tryz.prog 35=some (60,10,true,152):=by kernel_rfl
@[go_sem] theorem Ny:GT Tryz.prog 46=some (49,6,true,88):=by kernel_rfl
@[go_sem] theorem ZdP:GT Tryz.prog 47=some (110,7,true,104):=by kernel_rfl
@[go_sem] theorem Zju:GT Tryz.prog 56=some (62,3,true,32):=by kernel_rfl
@[go_sem] theorem Yc:GT Tryz.prog 58=some (51,10,true,152):=by kernel_rfl
@[go_sem] theorem Znj:GT Tryz.prog 224=some (41,1,false,8)∧GT Tryz.prog 232=some (192,1,false,8)∧GT Tryz.prog 234=some (198,1,false,24)∧GT Tryz.prog 336=none∧GT Tryz.prog 360=some (356,2,true,16)∧GT Tryz.prog 431=none∧GT Tryz.prog 442=none∧GT Tryz.prog 66=some (93,11,true,160)∧GT Tryz.prog 67=some (77,11,true,152)∧GT Tryz.prog 68=some (75,6,true,96)∧GT Tryz.prog 73=some (45,2,true,32)∧GT Tryz.prog 9=none:=by (repeat' apply Ad)<;>kernel_rfl
@[go_sem] theorem Zer (xs ys:List AV):evAgg Tryz.prog .neq 239 xs ys=(obK [(some .i64,false),(some .i64,false),(none,true)] xs ys,!MH xs ys):=SZ (by kernel_rfl) xs ys
@[go_sem] theorem Zg8 (xs ys:List AV):evAgg Tryz.prog .neq 62 xs ys=(obK [(some .i64,false),(none,true),(none,false)] xs ys,!MH xs ys):=SZ (by kernel_rfl) xs ys
@[go_sem] theorem ZjP:AN Tryz.prog 106 2=some (21,2,true)∧AN Tryz.prog 106 4=some (24,7,true)∧AN Tryz.prog 110 0=some (0,1,false)∧AN Tryz.prog 110 1=some (1,6,true)∧AN Tryz.prog 118 0=some (0,1,false)∧AN Tryz.prog 118 1=some (1,1,false)∧AN Tryz.prog 118 2=some (2,1,false)∧AN Tryz.prog 118 3=some (3,7,true)∧AN Tryz.prog 118 4=some (10,1,false)∧AN Tryz.prog 239 0=some (0,1,false)∧AN Tryz.prog 239 1=some (1,1,false)∧AN Tryz.prog 239 2=some (2,1,false):=by (repeat' apply Ad)<;>kernel_rfl
@[go_sem] theorem Zke:AN Tryz.prog 26 0=some (0,1,false)∧AN Tryz.prog 26 1=some (1,1,false)∧AN Tryz.prog 26 2=some (2,1,false)∧AN Tryz.prog 26 3=some (3,1,false)∧AN Tryz.prog 26 4=some (4,1,false)∧AN Tryz.prog 26 5=some (5,1,false)∧AN Tryz.prog 26 6=some (6,1,false)∧AN Tryz.prog 281 1=some (6,1,false)∧AN Tryz.prog 30 0=some (0,1,false)∧AN Tryz.prog 335 1=some (1,1,false)∧AN Tryz.prog 335 2=some (2,1,false)∧AN Tryz.prog 335 3=some (3,1,false):=by (repeat' apply Ad)<;>kernel_rfl
@[go_sem] theorem Zjj:AN Tryz.prog 335 4=some (4,1,false)∧AN Tryz.prog 335 5=some (5,1,false)∧AN Tryz.prog 335 6=some (6,1,false)∧AN Tryz.prog 335 7=some (7,1,false)∧AN Tryz.prog 34 0=some (0,1,false)∧AN Tryz.prog 34 1=some (1,1,false)∧AN Tryz.prog 34 10=some (16,1,false)∧AN Tryz.prog 34 11=some (17,1,true)∧AN Tryz.prog 34 12=some (18,1,false)∧AN Tryz.prog 34 13=some (19,1,false)∧AN Tryz.prog 34 5=some (5,1,false)∧AN Tryz.prog 34 7=some (7,1,false):=by (repeat' apply Ad)<;>kernel_rfl
@[go_sem] theorem Zkp:AN Tryz.prog 34 8=some (8,7,true)∧AN Tryz.prog 34 9=some (15,1,false)∧AN Tryz.prog 356 0=some (0,1,false)∧AN Tryz.prog 356 1=some (1,1,false)∧AN Tryz.prog 37 0=some (0,1,false)∧AN Tryz.prog 37 1=some (1,1,false)∧AN Tryz.prog 37 2=some (2,1,false)∧AN Tryz.prog 45 0=some (0,1,false)∧AN Tryz.prog 45 1=some (1,1,false)∧AN Tryz.prog 49 0=some (0,1,false)∧AN Tryz.prog 49 1=some (1,1,false)∧AN Tryz.prog 49 2=some (2,1,false):=by (repeat' apply Ad)<;>kernel_rfl
@[go_sem] theorem Zj9:AN Tryz.prog 49 3=some (3,1,false)∧AN Tryz.prog 49 4=some (4,1,false)∧AN Tryz.prog 49 5=some (5,1,false)∧AN Tryz.prog 51 0=some (0,2,true)∧AN Tryz.prog 51 1=some (2,1,false)∧AN Tryz.prog 51 2=some (3,1,false)∧AN Tryz.prog 51 3=some (4,6,true)∧AN Tryz.prog 53 0=some (0,1,false)∧AN Tryz.prog 53 1=some (1,1,false)∧AN Tryz.prog 53 2=some (2,2,true)∧AN Tryz.prog 53 3=some (4,10,true)∧AN Tryz.prog 53 4=some (14,1,false):=by (repeat' apply Ad)<;>kernel_rfl
@[go_sem] theorem ZkC:AN Tryz.prog 53 5=some (15,1,false)∧AN Tryz.prog 53 7=some (17,6,true)∧AN Tryz.prog 60 0=some (0,6,true)∧AN Tryz.prog 60 1=some (6,1,false)∧AN Tryz.prog 60 2=some (7,1,false)∧AN Tryz.prog 60 3=some (8,1,false)∧AN Tryz.prog 60 4=some (9,1,false)∧AN Tryz.prog 62 0=some (0,1,false)∧AN Tryz.prog 62 2=some (2,1,false)∧AN Tryz.prog 64 0=some (0,1,false)∧AN Tryz.prog 64 1=some (1,1,true)∧AN Tryz.prog 70 0=some (0,3,true):=by (repeat' apply Ad)<;>kernel_rfl
@[go_sem] theorem ZkK:AN Tryz.prog 70 1=some (3,1,false)∧AN Tryz.prog 70 2=some (4,1,false)∧AN Tryz.prog 70 3=some (5,1,false)∧AN Tryz.prog 70 4=some (6,1,false)∧AN Tryz.prog 75 0=some (0,2,true)∧AN Tryz.prog 75 1=some (2,1,false)∧AN Tryz.prog 75 2=some (3,1,false)∧AN Tryz.prog 75 3=some (4,1,false)∧AN Tryz.prog 75 4=some (5,1,false)∧AN Tryz.prog 77 0=some (0,2,true)∧AN Tryz.prog 77 1=some (2,1,false)∧AN Tryz.prog 77 2=some (3,1,false):=by (repeat' apply Ad)<;>kernel_rfl
@[go_sem] theorem Zkz:AN Tryz.prog 77 3=some (4,1,false)∧AN Tryz.prog 77 4=some (5,6,true)∧AN Tryz.prog 83 0=some (0,1,false)∧AN Tryz.prog 83 1=some (1,1,false)∧AN Tryz.prog 83 2=some (2,1,false)∧AN Tryz.prog 83 3=some (3,1,false)∧AN Tryz.prog 83 4=some (4,1,false)∧AN Tryz.prog 85 0=some (0,1,false)∧AN Tryz.prog 85 1=some (1,5,true)∧AN Tryz.prog 93 0=some (0,1,false)∧AN Tryz.prog 93 1=some (1,10,true)∧Ky Tryz.prog 127=none:=by (repeat' apply Ad)<;>kernel_rfl
@[go_sem] theorem ZlO:Ky Tryz.prog 177=some .u64∧Ky Tryz.prog 21=some .i32∧Ky Tryz.prog 3=some .i64∧Ky Tryz.prog 5=some .u8∧Ky Tryz.prog 9=none∧A6 Tryz.prog 106=some [(0,20),(20,1),(21,2),(23,1),(24,7)]∧A6 Tryz.prog 110=some [(0,1),(1,6)]∧A6 Tryz.prog 118=some [(0,1),(1,1),(2,1),(3,7),(10,1)]∧A6 Tryz.prog 149=none∧A6 Tryz.prog 239=some [(0,1),(1,1),(2,1)]∧A6 Tryz.prog 26=some [(0,1),(1,1),(2,1),(3,1),(4,1),(5,1),(6,1)]∧A6 Tryz.prog 281=some [(0,6),(6,1)]:=by (repeat' apply Ad)<;>kernel_rfl
@[go_sem] theorem Zho:A6 Tryz.prog 294=some [(0,1),(1,1)]∧A6 Tryz.prog 30=some [(0,1)]∧A6 Tryz.prog 335=some [(0,1),(1,1),(2,1),(3,1),(4,1),(5,1),(6,1),(7,1)]∧A6 Tryz.prog 336=none∧A6 Tryz.prog 34=some [(0,1),(1,1),(2,1),(3,1),(4,1),(5,1),(6,1),(7,1),(8,7),(15,1),(16,1),(17,1),(18,1),(19,1)]∧A6 Tryz.prog 356=some [(0,1),(1,1)]∧A6 Tryz.prog 37=some [(0,1),(1,1),(2,1)]∧A6 Tryz.prog 431=none∧A6 Tryz.prog 442=none∧A6 Tryz.prog 45=some [(0,1),(1,1)]∧A6 Tryz.prog 49=some [(0,1),(1,1),(2,1),(3,1),(4,1),(5,1)]∧A6 Tryz.prog 51=some [(0,2),(2,1),(3,1),(4,6)]:=by (repeat' apply Ad)<;>kernel_rfl
@[go_sem] theorem Zjp:A6 Tryz.prog 53=some [(0,1),(1,1),(2,2),(4,10),(14,1),(15,1),(16,1),(17,6)]∧A6 Tryz.prog 60=some [(0,6),(6,1),(7,1),(8,1),(9,1)]∧A6 Tryz.prog 62=some [(0,1),(1,1),(2,1)]∧A6 Tryz.prog 64=some [(0,1),(1,1)]∧A6 Tryz.prog 70=some [(0,3),(3,1),(4,1),(5,1),(6,1)]∧A6 Tryz.prog 75=some [(0,2),(2,1),(3,1),(4,1),(5,1)]∧A6 Tryz.prog 83=some [(0,1),(1,1),(2,1),(3,1),(4,1)]∧A6 Tryz.prog 85=some [(0,1),(1,5)]∧B6 Tryz.prog 127=false∧B6 Tryz.prog 149=false∧B6 Tryz.prog 177=false∧B6 Tryz.prog 198=false:=by (repeat' apply Ad)<;>kernel_rfl
@[go_sem] theorem Zna:B6 Tryz.prog 21=false∧B6 Tryz.prog 22=false∧B6 Tryz.prog 224=false∧B6 Tryz.prog 23=false∧B6 Tryz.prog 232=false∧B6 Tryz.prog 234=false∧B6 Tryz.prog 24=false∧B6 Tryz.prog 27=false∧B6 Tryz.prog 28=false∧B6 Tryz.prog 3=false∧B6 Tryz.prog 31=false∧B6 Tryz.prog 32=false:=by (repeat' apply Ad)<;>kernel_rfl
@[go_sem] theorem Zmd:B6 Tryz.prog 336=false∧B6 Tryz.prog 35=false∧B6 Tryz.prog 360=false∧B6 Tryz.prog 431=false∧B6 Tryz.prog 442=false∧B6 Tryz.prog 46=false∧B6 Tryz.prog 47=false∧B6 Tryz.prog 5=false∧B6 Tryz.prog 56=false∧B6 Tryz.prog 58=false∧B6 Tryz.prog 66=false∧B6 Tryz.prog 67=false:=by (repeat' apply Ad)<;>kernel_rfl
@[go_sem] theorem Zne:B6 Tryz.prog 68=false∧B6 Tryz.prog 73=false∧B6 Tryz.prog 9=true∧Ez Tryz.prog 110=some (7,true)∧Ez Tryz.prog 118=some (11,true)∧Ez Tryz.prog 123=some (1,false)∧Ez Tryz.prog 149=some (11,true)∧Ez Tryz.prog 192=some (1,false)∧Ez Tryz.prog 197=some (1,false)∧Ez Tryz.prog 198=some (1,false)∧Ez Tryz.prog 22=some (1,false)∧Ez Tryz.prog 23=some (1,false):=by (repeat' apply Ad)<;>kernel_rfl
@[go_sem] theorem Zmz:Ez Tryz.prog 239=some (3,true)∧Ez Tryz.prog 24=some (1,false)∧Ez Tryz.prog 26=some (7,true)∧Ez Tryz.prog 27=some (1,false)∧Ez Tryz.prog 28=some (1,false)∧Ez Tryz.prog 294=some (2,true)∧Ez Tryz.prog 3=some (1,false)∧Ez Tryz.prog 30=some (1,true)∧Ez Tryz.prog 31=some (1,false)∧Ez Tryz.prog 315=some (1,false)∧Ez Tryz.prog 32=some (1,false)∧Ez Tryz.prog 335=some (8,true):=by (repeat' apply Ad)<;>kernel_rfl
@[go_sem] theorem ZmC:Ez Tryz.prog 336=some (88,true)∧Ez Tryz.prog 34=some (20,true)∧Ez Tryz.prog 35=some (1,false)∧Ez Tryz.prog 356=some (2,true)∧Ez Tryz.prog 37=some (3,true)∧Ez Tryz.prog 4=some (1,false)∧Ez Tryz.prog 41=some (1,false)∧Ez Tryz.prog 431=some (13,true)∧Ez Tryz.prog 45=some (2,true)∧Ez Tryz.prog 46=some (1,false)∧Ez Tryz.prog 47=some (1,false)∧Ez Tryz.prog 49=some (6,true):=by (repeat' apply Ad)<;>kernel_rfl
@[go_sem] theorem tyT_5:Ez Tryz.prog 5=some (1,false)∧Ez Tryz.prog 51=some (10,true)∧Ez Tryz.prog 53=some (23,true)∧Ez Tryz.prog 58=some (1,false)∧Ez Tryz.prog 60=some (10,true)∧Ez Tryz.prog 62=some (3,true)∧Ez Tryz.prog 66=some (1,false)∧Ez Tryz.prog 67=some (1,false)∧Ez Tryz.prog 68=some (1,false)∧Ez Tryz.prog 70=some (7,true)∧Ez Tryz.prog 73=some (1,false)∧Ez Tryz.prog 75=some (6,true):=by (repeat' apply Ad)<;>kernel_rfl
@[go_sem] theorem Tn:AZ Tryz.prog 110=some [.val (.string ⟨#[]⟩),Ak 0,Ak 0,Ak 0,.val (.string ⟨#[]⟩),.list [] .full,.list [] .full]:=by kernel_rfl
@[go_sem] theorem ZE:AZ Tryz.prog 118=some [Ak 0,.val (.string ⟨#[]⟩),Ak 0,Ak 0,Ak 0,Ak 0,Ak 0,.list [] .full,.list [] .full,.list [] .full,.list [] .full]:=by kernel_rfl
@[go_sem] theorem Vx:AZ Tryz.prog 26=some [Ak 0,Ak 0,Ak 0,Ak 0,.list [] .full,.list [] .full,.list [] .full]:=by kernel_rfl
@[go_sem] theorem ZnH:Ez Tryz.prog 77=some (11,true)∧Ez Tryz.prog 83=some (5,true)∧Ez Tryz.prog 85=some (6,true)∧Ez Tryz.prog 9=some (1,false)∧AZ Tryz.prog 106=some [.val (.string ⟨#[]⟩),Ak 0,Ak 0,Ak 0,Ak 0,Ak 0,Ak 0,.val (.string ⟨#[]⟩),Ak 0,Ak 0,Ak 0,Ak 0,.list [] .full,.list [] .full,.list [] .full,.list [] .full,.list [] .full,.list [] .full,.list [] .full,.list [] .full,Ak 0,Ak 0,.list [] .full,Ak 0,Ak 0,Ak 0,.list [] .full,.list [] .full,.list [] .full,.list [] .full,.list [] .full]∧AZ Tryz.prog 122=some [.list [] .full,Ak 0]∧AZ Tryz.prog 149=some [.val .nilFunc,.val .nilFunc,.val .nilFunc,.val .nilFunc,.val .nilFunc,.val .nilFunc,.val .nilFunc,.val .nilFunc,.val .nilFunc,.val .nilFunc,.val .nilFunc]∧AZ Tryz.prog 192=some [.val .nilFunc]∧AZ Tryz.prog 198=some [.list [] .full]∧AZ Tryz.prog 239=some [Ak 0,Ak 0,.val (.string ⟨#[]⟩)]∧AZ Tryz.prog 281=some [Ak 0,Ak 0,Ak 0,.val (.string ⟨#[]⟩),.list [] .full,.list [] .full,Ak 0]∧AZ Tryz.prog 294=some [.val .nilFunc,.val (.bool false)]:=by (repeat' apply Ad)<;>kernel_rfl
@[go_sem] theorem TO:AZ Tryz.prog 3=some [Ak 0]:=by kernel_rfl
@[go_sem] theorem ZkW:AZ Tryz.prog 30=some [.list [] .full]∧AZ Tryz.prog 315=some [.val .nilFunc]∧AZ Tryz.prog 32=some [.list [] .full]∧AZ Tryz.prog 335=some [.val (.string ⟨#[]⟩),Ak 0,Ak 0,.val (.bool false),.val (.bool false),.val (.bool false),.val (.bool false),.val (.bool false)]∧AZ Tryz.prog 336=some [.val (.string ⟨#[]⟩),Ak 0,Ak 0,.val (.bool false),.val (.bool false),.val (.bool false),.val (.bool false),.val (.bool false),.val (.string ⟨#[]⟩),Ak 0,Ak 0,.val (.bool false),.val (.bool false),.val (.bool false),.val (.bool false),.val (.bool false),.val (.string ⟨#[]⟩),Ak 0,Ak 0,.val (.bool false),.val (.bool false),.val (.bool false),.val (.bool false),.val (.bool false),.val (.string ⟨#[]⟩),Ak 0,Ak 0,.val (.bool false),.val (.bool false),.val (.bool false),.val (.bool false),.val (.bool false),.val (.string ⟨#[]⟩),Ak 0,Ak 0,.val (.bool false),.val (.bool false),.val (.bool false),.val (.bool false),.val (.bool false),.val (.string ⟨#[]⟩),Ak 0,Ak 0,.val (.bool false),.val (.bool false),.val (.bool false),.val (.bool false),.val (.bool false),.val (.string ⟨#[]⟩),Ak 0,Ak 0,.val (.bool false),.val (.bool false),.val (.bool false),.val (.bool false),.val (.bool false),.val (.string ⟨#[]⟩),Ak 0,Ak 0,.val (.bool false),.val (.bool false),.val (.bool false),.val (.bool false),.val (.bool false),.val (.string ⟨#[]⟩),Ak 0,Ak 0,.val (.bool false),.val (.bool false),.val (.bool false),.val (.bool false),.val (.bool false),.val (.string ⟨#[]⟩),Ak 0,Ak 0,.val (.bool false),.val (.bool false),.val (.bool false),.val (.bool false),.val (.bool false),.val (.string ⟨#[]⟩),Ak 0,Ak 0,.val (.bool false),.val (.bool false),.val (.bool false),.val (.bool false),.val (.bool false)]∧AZ Tryz.prog 34=some [.val (.string ⟨#[]⟩),Ak 0,Ak 0,Ak 0,Ak 0,Ak 0,Ak 0,.val (.string ⟨#[]⟩),Ak 0,Ak 0,Ak 0,Ak 0,.list [] .full,.list [] .full,.list [] .full,.list [] .full,.list [] .full,.list [] .full,.list [] .full,.list [] .full]∧AZ Tryz.prog 356=some [Ak 0,Ak 0]∧AZ Tryz.prog 37=some [Ak 0,Ak 0,.list [] .full]∧AZ Tryz.prog 398=some [.val (.pointer none),.list [] .full]∧AZ Tryz.prog 4=some [.val (.bool false)]∧AZ Tryz.prog 41=some [Ak 0]∧AZ Tryz.prog 431=some [Ak 0,Ak 0,Ak 0,Ak 0,Ak 0,Ak 0,Ak 0,Ak 0,Ak 0,Ak 0,Ak 0,Ak 0,Ak 0]:=by (repeat' apply Ad)<;>kernel_rfl
@[go_sem] theorem IJ:AZ Tryz.prog 49=some [Ak 0,Ak 0,Ak 0,.val (.string ⟨#[]⟩),.list [] .full,.list [] .full]:=by kernel_rfl
@[go_sem] theorem Qd:AZ Tryz.prog 51=some [Ak 0,.list [] .full,Ak 0,.list [] .full,Ak 0,Ak 0,Ak 0,.val (.string ⟨#[]⟩),.list [] .full,.list [] .full]:=by kernel_rfl
@[go_sem] theorem VX:AZ Tryz.prog 60=some [Ak 0,Ak 0,Ak 0,.val (.string ⟨#[]⟩),.list [] .full,.list [] .full,Ak 0,Ak 0,.list [] .full,.list [] .full]:=by kernel_rfl
@[go_sem] theorem Zce:AZ Tryz.prog 62=some [Ak 0,.val (.string ⟨#[]⟩),.val (.bool false)]:=by kernel_rfl
@[go_sem] theorem Zbt:AZ Tryz.prog 64=some [.val (.string ⟨#[]⟩),.list [] .full]:=by kernel_rfl
@[go_sem] theorem WW:AZ Tryz.prog 83=some [Ak 0,Ak 0,.val (.string ⟨#[]⟩),.list [] .full,.list [] .full]:=by kernel_rfl
@[go_sem] theorem Va:AZ Tryz.prog 85=some [.val (.string ⟨#[]⟩),Ak 0,Ak 0,.val (.string ⟨#[]⟩),.list [] .full,.list [] .full]:=by kernel_rfl
@[go_sem] theorem Zf5:AZ Tryz.prog 9=some [.val (.string ⟨#[]⟩)]:=by kernel_rfl
@[go_sem] theorem Zj4:AZ Tryz.prog 442=some [Ak 0,Ak 0,Ak 0,Ak 0,Ak 0,Ak 0,Ak 0,Ak 0,Ak 0,Ak 0,Ak 0,Ak 0]∧AZ Tryz.prog 45=some [Ak 0,.list [] .full]∧AZ Tryz.prog 5=some [.val (.int .u8 0)]∧AZ Tryz.prog 53=some [Ak 0,Ak 0,Ak 0,.list [] .full,Ak 0,.list [] .full,Ak 0,.list [] .full,Ak 0,Ak 0,Ak 0,.val (.string ⟨#[]⟩),.list [] .full,.list [] .full,Ak 0,.val (.bool false),.val (.bool false),Ak 0,Ak 0,Ak 0,.val (.string ⟨#[]⟩),.list [] .full,.list [] .full]∧AZ Tryz.prog 70=some [Ak 0,Ak 0,.list [] .full,.list [] .full,.list [] .full,.list [] .full,.list [] .full]∧AZ Tryz.prog 75=some [Ak 0,.list [] .full,Ak 0,.val (.string ⟨#[]⟩),.list [] .full,.val (.string ⟨#[]⟩)]∧AZ Tryz.prog 77=some [Ak 0,.list [] .full,.val (.string ⟨#[]⟩),Ak 0,.val (.bool false),Ak 0,Ak 0,Ak 0,.val (.string ⟨#[]⟩),.list [] .full,.list [] .full]:=by (repeat' apply Ad)<;>kernel_rfl
theorem PQ:Tryz.prog.follows .mixedOrders=true:=by kernel_rfl
inductive Vl where
 | mk (kind int scale:Int) (text:ByteArray) (list:List Vl) (fields:List (ByteArray × Vl))
inductive Ty where
 | mk (kind min max scale:Int) (words:List ByteArray) (elem:List Ty) (fields:List (Int × ByteArray × Int × Ty × List Vl))
abbrev Jc:List AV:=[Ak 0,Ak 0,Ak 0,.val (.string ⟨#[]⟩),.list [] .full,.list [] .full]
namespace Vl
def kind:Vl→Int | mk k _ _ _ _ _=>k
def int:Vl→Int | mk _ i _ _ _ _=>i
def scale:Vl→Int | mk _ _ s _ _ _=>s
def text:Vl→ByteArray | mk _ _ _ t _ _=>t
def list:Vl→List Vl | mk _ _ _ _ l _=>l
def fields:Vl→List (ByteArray × Vl) | mk _ _ _ _ _ f=>f
end Vl
mutual
def Vl.size:Vl→Nat
 | .mk _ _ _ _ l f=>1+EJ l+Fv f
def EJ:List Vl→Nat
 | []=>0
 | v::r=>v.size+EJ r
def Fv:List (ByteArray × Vl)→Nat
 | []=>0
 | (_,v)::r=>v.size+Fv r
end
mutual
def Vl.cs:Vl→List AV
 | .mk k i s t l f=>[.val (.int .i64 k),.val (.int .i64 i),.val (.int .i64 s),.val (.string t),.list (DG l) .none,.list (HV f) .none]
def DG:List Vl→List AV
 | []=>[]
 | v::r => .agg v.cs::DG r
def HV:List (ByteArray × Vl)→List AV
 | []=>[]
 | (n,v)::r => .agg (.val (.string n)::v.cs)::HV r
end
mutual
def Ty.size:Ty→Nat
 | .mk _ _ _ _ _ e f=>1+IU e+FR f
def IU:List Ty→Nat
 | []=>0
 | t::r=>t.size+IU r
def FR:List (Int × ByteArray × Int × Ty × List Vl)→Nat
 | []=>0
 | (_,_,_,t,_)::r=>t.size+FR r
end
mutual
def Ty.cs:Ty→List AV
 | .mk k lo hi s w e f=>[.val (.int .i64 k),.val (.int .i64 lo),.val (.int .i64 hi),.val (.int .i64 s),.list (w.map fun x => .val (.string x)) .none,.list (KH e) .none,.list (Ho f) .none]
def KH:List Ty→List AV
 | []=>[]
 | t::r => .agg t.cs::KH r
def Ho:List (Int × ByteArray × Int × Ty × List Vl)→List AV
 | []=>[]
 | (n,s,d,t,l)::r => .agg (.val (.int .i64 n) :: .val (.string s) :: .val (.int .i64 d)::(t.cs++[.list (DG l) .none]))::Ho r
end
theorem Es:∀ l:List Vl,DG l=l.map fun v => .agg v.cs
 | []=>rfl
 | v::r=>by simp [DG,Es r]
theorem LY:∀ l:List (ByteArray × Vl),HV l=l.map fun p => .agg (.val (.string p.1)::p.2.cs)
 | []=>rfl
 | (n,v)::r=>by simp [HV,LY r]
@[go_sem] theorem N3 (l:List Vl):(DG l).length=l.length:=by simp [Es]
@[go_sem] theorem U1 (l:List (ByteArray × Vl)):(HV l).length=l.length:=by simp [LY]
theorem OJ:∀ l:List Ty,KH l=l.map fun v => .agg v.cs
 | []=>rfl
 | v::r=>by simp [KH,OJ r]
theorem MQ:∀ l:List (Int × ByteArray × Int × Ty × List Vl),Ho l=l.map fun p => .agg (Ak p.1 :: .val (.string p.2.1)::Ak p.2.2.1::(p.2.2.2.1.cs++[.list (DG p.2.2.2.2) .none]))
 | []=>rfl
 | (n,s,d,t,l)::r=>by simp [Ho,MQ r]
@[go_sem] theorem Zff (l:List Ty):(KH l).length=l.length:=by simp [OJ]
@[go_sem] theorem Zd7 (l:List (Int × ByteArray × Int × Ty × List Vl)):(Ho l).length=l.length:=by simp [MQ]
theorem Vl.cs_eq (v:Vl):v.cs=[.val (.int .i64 v.kind),.val (.int .i64 v.int),.val (.int .i64 v.scale),.val (.string v.text),.list (DG v.list) .none,.list (HV v.fields) .none]:=by cases v;rfl
@[go_sem] theorem Vl.cs_length (v:Vl):v.cs.length=6:=by cases v;rfl
@[go_sem] theorem Vl.cs_pub (v:Vl):v.cs.map AV.pubCell=v.cs:=by cases v;rfl
mutual
theorem Vl.under (nb nr nl:Nat):∀ v:Vl,∀ x∈v.cs,Under nb nr nl x
 | .mk k i s t l f=>by
  intro x a
  simp only [Vl.cs,List.mem_cons,List.not_mem_nil,or_false] at a
  rcases a with rfl | rfl | rfl | rfl | rfl | rfl
  ·exact .val _
  ·exact .val _
  ·exact .val _
  ·exact .val _
  ·exact .list (HI nb nr nl l) trivial
  ·exact .list (I6 nb nr nl f) trivial
theorem HI (nb nr nl:Nat):∀ l:List Vl,∀ x∈DG l,Under nb nr nl x
 | []=>fun _ h=>by simp [DG] at h
 | v::r=>by
  intro x hx
  simp only [DG,List.mem_cons] at hx
  rcases hx with rfl | hx
  ·exact .agg (Vl.under nb nr nl v)
  ·exact HI nb nr nl r x hx
theorem I6 (nb nr nl:Nat):∀ l:List (ByteArray × Vl),∀ x∈HV l,Under nb nr nl x
 | []=>fun _ h=>by simp [HV] at h
 | (n,v)::r=>by
  intro x hx
  simp only [HV,List.mem_cons] at hx
  rcases hx with rfl | hx
  ·refine .agg fun y hy=>?_
   rcases List.mem_cons.1 hy with rfl | hy
   ·exact .val _
   ·exact Vl.under nb nr nl v y hy
  ·exact I6 nb nr nl r x hx
end
mutual
theorem Ty.under (nb nr nl:Nat):∀ v:Ty,∀ x∈v.cs,Under nb nr nl x
 | .mk k lo hi s w e f=>by
  intro x a
  simp only [Ty.cs,List.mem_cons,List.not_mem_nil,or_false] at a
  rcases a with rfl | rfl | rfl | rfl | rfl | rfl | rfl
  ·exact .val _
  ·exact .val _
  ·exact .val _
  ·exact .val _
  ·refine .list (fun y b=>?_) trivial
   obtain ⟨z,_,rfl⟩:=List.mem_map.1 b
   exact .val _
  ·exact .list (LI nb nr nl e) trivial
  ·exact .list (H7 nb nr nl f) trivial
theorem LI (nb nr nl:Nat):∀ l:List Ty,∀ x∈KH l,Under nb nr nl x
 | []=>fun _ h=>by simp [KH] at h
 | v::r=>by
  intro x hx
  simp only [KH,List.mem_cons] at hx
  rcases hx with rfl | hx
  ·exact .agg (Ty.under nb nr nl v)
  ·exact LI nb nr nl r x hx
theorem H7 (nb nr nl:Nat):∀ l:List (Int × ByteArray × Int × Ty × List Vl),∀ x∈Ho l,Under nb nr nl x
 | []=>fun _ h=>by simp [Ho] at h
 | (n,s,d,t,l)::r=>by
  intro x hx
  simp only [Ho,List.mem_cons] at hx
  rcases hx with rfl | hx
  ·refine .agg fun y hy=>?_
   simp only [List.mem_cons,List.mem_append,List.not_mem_nil,or_false] at hy
   rcases hy with rfl | rfl | rfl | hy | rfl
   ·exact .val _
   ·exact .val _
   ·exact .val _
   ·exact Ty.under nb nr nl t y hy
   ·exact .list (HI nb nr nl l) trivial
  ·exact H7 nb nr nl r x hx
end
@[go_sem] theorem Zmb (nb nr nl:Nat) (v:Vl):Under nb nr nl (.agg v.cs)↔True:=iff_true_intro (.agg (v.under nb nr nl))
@[go_sem] theorem Zkj (nb nr nl:Nat) (v:Ty):Under nb nr nl (.agg v.cs)↔True:=iff_true_intro (.agg (v.under nb nr nl))
@[go_sem] theorem Zh8 (nb nr nl:Nat) (l:List Vl):(∀ x∈DG l,Under nb nr nl x)↔True:=iff_true_intro (HI nb nr nl l)
@[go_sem] theorem Zhm (nb nr nl:Nat) (l:List (ByteArray × Vl)):(∀ x∈HV l,Under nb nr nl x)↔True:=iff_true_intro (I6 nb nr nl l)
@[go_sem] theorem ZhT (nb nr nl:Nat) (l:List Ty):(∀ x∈KH l,Under nb nr nl x)↔True:=iff_true_intro (LI nb nr nl l)
@[go_sem] theorem Zfj (nb nr nl:Nat) (l:List (Int × ByteArray × Int × Ty × List Vl)):(∀ x∈Ho l,Under nb nr nl x)↔True:=iff_true_intro (H7 nb nr nl l)
theorem Ty.cs_eq (t:Ty):∃ k lo hi s w e f,t = .mk k lo hi s w e f:=by cases t;exact ⟨_,_,_,_,_,_,_,rfl⟩
@[go_sem] theorem Ty.cs_length (v:Ty):v.cs.length=7:=by cases v;rfl
@[go_sem] theorem Ty.cs_pub (v:Ty):v.cs.map AV.pubCell=v.cs:=by cases v;rfl
namespace Ty
def kind:Ty→Int | mk k _ _ _ _ _ _=>k
def min:Ty→Int | mk _ m _ _ _ _ _=>m
def max:Ty→Int | mk _ _ m _ _ _ _=>m
def scale:Ty→Int | mk _ _ _ s _ _ _=>s
def words:Ty→List ByteArray | mk _ _ _ _ w _ _=>w
def elem:Ty→List Ty | mk _ _ _ _ _ e _=>e
def fields:Ty→List (Int × ByteArray × Int × Ty × List Vl) | mk _ _ _ _ _ _ f=>f
end Ty
section
variable (v:Vl) (t:Ty) (x d:AV) (l:List AV)
@[go_sem] theorem Vl.g0:v.cs.getD 0 d = .val (.int .i64 v.kind):=by cases v;rfl
@[go_sem] theorem Vl.g1:v.cs.getD 1 d = .val (.int .i64 v.int):=by cases v;rfl
@[go_sem] theorem Vl.g2:v.cs.getD 2 d = .val (.int .i64 v.scale):=by cases v;rfl
@[go_sem] theorem Vl.g3:v.cs.getD 3 d = .val (.string v.text):=by cases v;rfl
@[go_sem] theorem Vl.g4:v.cs.getD 4 d = .list (DG v.list) .none:=by cases v;rfl
@[go_sem] theorem Vl.g5:v.cs.getD 5 d = .list (HV v.fields) .none:=by cases v;rfl
@[go_sem] theorem Vl.take6:v.cs.take 6=v.cs:=by cases v;rfl
@[go_sem] theorem Vl.take6a:(v.cs++l).take 6=v.cs:=by cases v;rfl
@[go_sem] theorem Ty.g0:t.cs.getD 0 d = .val (.int .i64 t.kind):=by cases t;rfl
@[go_sem] theorem Ty.g1:t.cs.getD 1 d = .val (.int .i64 t.min):=by cases t;rfl
@[go_sem] theorem Ty.g2:t.cs.getD 2 d = .val (.int .i64 t.max):=by cases t;rfl
@[go_sem] theorem Ty.g3:t.cs.getD 3 d = .val (.int .i64 t.scale):=by cases t;rfl
@[go_sem] theorem Ty.g4:t.cs.getD 4 d = .list (t.words.map fun x => .val (.string x)) .none:=by cases t;rfl
@[go_sem] theorem Ty.g5:t.cs.getD 5 d = .list (KH t.elem) .none:=by cases t;rfl
@[go_sem] theorem Ty.g6:t.cs.getD 6 d = .list (Ho t.fields) .none:=by cases t;rfl
@[go_sem] theorem Ty.take7:t.cs.take 7=t.cs:=by cases t;rfl
@[go_sem] theorem Ty.a0:(t.cs++l).getD 0 d = .val (.int .i64 t.kind):=by cases t;rfl
@[go_sem] theorem Ty.a1:(t.cs++l).getD 1 d = .val (.int .i64 t.min):=by cases t;rfl
@[go_sem] theorem Ty.a2:(t.cs++l).getD 2 d = .val (.int .i64 t.max):=by cases t;rfl
@[go_sem] theorem Ty.a3:(t.cs++l).getD 3 d = .val (.int .i64 t.scale):=by cases t;rfl
@[go_sem] theorem Ty.a4:(t.cs++l).getD 4 d = .list (t.words.map fun x => .val (.string x)) .none:=by cases t;rfl
@[go_sem] theorem Ty.a5:(t.cs++l).getD 5 d = .list (KH t.elem) .none:=by cases t;rfl
@[go_sem] theorem Ty.a6:(t.cs++l).getD 6 d = .list (Ho t.fields) .none:=by cases t;rfl
@[go_sem] theorem Ty.a7:(t.cs++[x]).getD 7 d=x:=by cases t;rfl
@[go_sem] theorem Ty.take7a:(t.cs++l).take 7=t.cs:=by cases t;rfl
@[go_sem] theorem Ty.take8a:(t.cs++[x]).take 8=t.cs++[x]:=by cases t;rfl
@[go_sem] theorem Ty.drop7a:(t.cs++l).drop 7=l:=by cases t;rfl
attribute [go_sem] List.length_append List.map_append
end
end Go.Proofs.YtcdnijfbfdnjlaaGreatDoor
namespace Go.Proofs.YtcdnijfbfdnjlaaGreatDoor
open Go Go.RowKit Go.Ev
theorem ZgY (t:ByteArray):NB t ⟨#[]⟩=decide (t.size=0):=by
 by_cases h:t.size=0
 ·have:t=⟨#[]⟩:=by
   obtain ⟨⟨l⟩⟩:=t
   simp [ByteArray.size] at h
   subst h;rfl
  subst this
  rfl
 ·simp only [h,decide_false]
  obtain ⟨⟨l⟩⟩:=t
  simp [ByteArray.size] at h
  simp [NB,h]
theorem VV (w0:World) (B:Ao) (Rw:Au) (L:As) (a:Int) :
  ACalls Tryz.prog w0 107 [Ak a] ⟨B,Rw,L⟩ fun r st=>r = .val (.bool false)∧st=⟨B,Rw,L⟩:=by
 refine ACalls.finP (DO (rs:=[.tmp 2]) Tryz.func107 rfl rfl Tryz.ntmps107 (A0 Tryz.func107 rfl (by decide)) (Nat.le_of_ble_eq_true rfl) ?_)
 intro M0 W0 g e f b h
 simp only [Az]
 apply Am;intro K1 c
 apply Av 1 [0]
 rw [Ap];simp +decide only [go_sem]
 (repeat' apply Ad)<;>first | refine c _ _ ?_ | exact cl
 clear c
 apply Am;intro K2 d
 apply Av 1 [2]
 rw [Ap];simp +decide only [go_sem]
 (repeat' apply Ad)<;>first | refine d _ _ ?_ | exact cl
 clear d
 apply BB;simp +decide only [go_sem]
 refine KG b pf pf pf (by simp +decide only [go_sem]) ⟨?_,rfl⟩
 rw [Is]
theorem II (w0:World) (B:Ao) (Rw:Au) (L:As) (a b:Int) :
  ACalls Tryz.prog w0 72 [Ak a,Ak b] ⟨B,Rw,L⟩ fun r st=>r=Ak (if a<b then -1 else if a=b then 0 else 1)∧st=⟨B,Rw,L⟩:=by
 refine ACalls.finP (DO (rs:=[.tmp 4]) Tryz.func72 rfl rfl Tryz.ntmps72 (A0 Tryz.func72 rfl (by decide)) (Nat.le_of_ble_eq_true rfl) ?_)
 intro M0 W0 w t u c v
 simp only [Az]
 apply Am;intro K1 o
 apply Av 1 [0,1]
 rw [Ap];simp +decide only [go_sem]
 (repeat' apply Ad)<;>first | refine o _ _ ?_ | exact cl
 clear o
 apply Am;intro K2 p
 apply Av 2 [0,1,5]
 rw [Ap];simp +decide only [go_sem]
 (repeat' apply Ad)<;>first | refine Lt _ (VV w0 _ Rw L _) ?_ | exact cl
 rw [Ap];simp +decide only [go_sem]
 (repeat' apply Ad)<;>first | refine p _ _ ?_ | exact cl
 clear p
 apply Am;intro K3 q
 apply Av 2 [0,1,5,6]
 rw [Ap];simp +decide only [go_sem]
 (repeat' apply Ad)<;>first | refine Lt _ (VV w0 _ Rw L _) ?_ | exact cl
 rw [Ap];simp +decide only [go_sem]
 (repeat' apply Ad)<;>first | refine q _ _ ?_ | exact cl
 clear q
 apply Am;intro K4 n
 apply Am;intro K5 s
 apply Av 1 [0,1,6,11]
 rw [Ap];simp +decide only [go_sem]
 (repeat' apply Ad)<;>first | refine s _ _ ?_ | exact cl
 clear s
 refine BN _ (by simp +decide only [go_sem]) (by simp +decide only [go_sem];rfl) (fun d=>?_) (fun d=>?_)
 ·simp at d
 skip
 apply C7;simp only [go_sem]
 (repeat' apply Ad)<;>first | refine n _ _ ?_ | exact cl
 clear n
 apply Am;intro K10 e
 apply Am;intro K11 j
 apply Av 1 [0,1,13]
 rw [Ap];simp +decide only [go_sem]
 (repeat' apply Ad)<;>first | refine j _ _ ?_ | exact cl
 clear j
 refine BN _ (by simp +decide only [go_sem]) (by simp +decide only [go_sem];rfl) (fun d=>?_) (fun d=>?_)
 ·simp at d
 try simp at d
 apply C7;simp only [go_sem]
 (repeat' apply Ad)<;>first | refine e _ _ ?_ | exact cl
 clear e
 apply Am;intro K13 m
 apply Am;intro K14 i
 apply Av 1 [0,1,16]
 rw [Ap];simp +decide only [go_sem]
 (repeat' apply Ad)<;>first | refine i _ _ ?_ | exact cl
 clear i
 refine BN _ (by simp +decide only [go_sem]) (by simp +decide only [go_sem];rfl) (fun d=>?_) (fun d=>?_)
 ·try simp at d
  apply Am;intro K15 f
  apply Av 1 [4]
  rw [Ap];simp +decide only [go_sem]
  (repeat' apply Ad)<;>first | refine f _ _ ?_ | exact cl
  clear f
  apply BB;simp +decide only [go_sem]
  refine KG c pf pf pf (by simp +decide only [go_sem]) ⟨?_,rfl⟩
  rw [Is]
  rw [Ab]
 try simp at d
 apply C7;simp only [go_sem]
 (repeat' apply Ad)<;>first | refine m _ _ ?_ | exact cl
 clear m
 apply Am;intro K16 l
 apply Am;intro K17 k
 apply Av 1 [19]
 rw [Ap];simp +decide only [go_sem]
 (repeat' apply Ad)<;>first | refine k _ _ ?_ | exact cl
 clear k
 refine BN _ (by simp +decide only [go_sem]) (by simp +decide only [go_sem];rfl) (fun d=>?_) (fun d=>?_)
 ·try simp at d
  apply Am;intro K18 g
  apply Av 1 [4]
  rw [Ap];simp +decide only [go_sem]
  (repeat' apply Ad)<;>first | refine g _ _ ?_ | exact cl
  clear g
  apply BB;simp +decide only [go_sem]
  refine KG c pf pf pf (by simp +decide only [go_sem]) ⟨?_,rfl⟩
  rw [Is]
  rw [Aa,Aa]
 try simp at d
 apply C7;simp only [go_sem]
 (repeat' apply Ad)<;>first | refine l _ _ ?_ | exact cl
 clear l
 apply Am;intro K19 h
 apply Av 1 [4]
 rw [Ap];simp +decide only [go_sem]
 (repeat' apply Ad)<;>first | refine h _ _ ?_ | exact cl
 clear h
 apply BB;simp +decide only [go_sem]
 refine KG c pf pf pf (by simp +decide only [go_sem]) ⟨?_,rfl⟩
 rw [Is]
 rw [Aa,Ab]
def Jb (c:Nat):Bool:=decide (97≤c)&&decide (c≤122)
def Q3 (c:Nat):Bool:=Jb c||decide (c=95)||(decide (48≤c)&&decide (c≤57))
def ZcF (l:List UInt8):Bool:=decide (1≤l.length∧l.length≤32)&&Jb (l.headD 0).toNat&&l.all fun c=>Q3 c.toNat
def JE (s:ByteArray):Bool:=ZcF s.data.toList
theorem Rh (s:ByteArray) (k:Nat) (h:k<s.size):s.get! k=s.data.toList[k]'(by simpa using h):=by
 rw [Utf8W.get!_of_lt s k h];rfl
theorem Za3 (s:ByteArray) (f:UInt8→Bool) (k:Nat) (h:k<s.size):(s.data.toList.drop k).all f=(f (s.get! k)&&(s.data.toList.drop (k+1)).all f):=by
 rw [List.drop_eq_getElem_cons (by simpa using h),Rh s k h];rfl
theorem ZdD (s:ByteArray) (h:0<s.size):s.data.toList.headD 0=s.get! 0:=by
 rw [Rh s 0 h]
 have b:0<s.data.toList.length:=by simpa using h
 have:∀ (l:List UInt8) (q:0<l.length),l.headD 0=l[0]:=fun l q=>by
  cases l with
  | nil=>simp at q
  | cons a l=>rfl
 exact this _ b
theorem Z1 (s:ByteArray) (k:Nat) (h:k<s.size):(FD s.data.toList).getD k .junk = .val (.int .u8 (s.get! k).toNat):=by
 have a:s.data.toList.length=s.size:=by simp
 rw [Rh s k h]
 simp [FD,a,h,List.getD]
theorem Uh (s:ByteArray):(FD s.data.toList).length=s.size:=by
 have a:s.data.toList.length=s.size:=by simp
 simp [FD,a]
theorem Z6 (c:Nat):Q3 c=decide ((97≤(c:Int)∧(c:Int)≤122)∨(c:Int)=95∨(48≤(c:Int)∧(c:Int)≤57)):=by
 rw [Bool.eq_iff_iff]
 simp [Q3,Jb]
 omega
theorem PD (c:Nat):Jb c=decide (97≤(c:Int)∧(c:Int)≤122):=by
 rw [Bool.eq_iff_iff]
 simp [Jb]
 omega
theorem Q8 (s:ByteArray) (h1:1≤s.size) (h2:s.size≤32):JE s=(Jb (s.get! 0).toNat&&s.data.toList.all fun c=>Q3 c.toNat):=by
 have a:s.data.toList.length=s.size:=by simp
 rw [JE,ZcF,Ag (by omega),ZdD s h1];rfl
theorem Xo (s:ByteArray) (h:¬ (1≤s.size∧s.size≤32)):JE s=false:=by
 have a:s.data.toList.length=s.size:=by simp
 rw [JE,ZcF,Ac];rfl
theorem TE (w0:World) (B:Ao) (Rw:Au) (L:As) (s:ByteArray) (hs:s.size≤maxLen) :
  ACalls Tryz.prog w0 121 [.val (.string s)] ⟨B,Rw,L⟩ fun r st=>r = .val (.bool (JE s))∧st=⟨B,Rw,L⟩:=by
 refine ACalls.finP (DO (rs:=[.tmp 2]) Tryz.func121 rfl rfl Tryz.ntmps121 (A0 Tryz.func121 rfl (by decide)) (Nat.le_of_ble_eq_true rfl) ?_)
 intro M0 W0 Q F J b N
 unfold maxLen at hs
 have K:s.data.toList.length=s.size:=by simp
 have f:=ZgY s
 obtain ⟨d,hd⟩:∃ d,(s.get! 0).toNat=d:=⟨_,rfl⟩
 have a:=Uh s
 simp only [Az]
 apply Am;intro K1 u
 apply Av 1 [0]
 rw [Ap];simp +decide only [go_sem,hd,a,f]
 (repeat' apply Ad)<;>first | refine u _ _ ?_ | exact cl
 clear u
 apply Am;intro K2 v
 apply Am;intro K3 w
 apply Av 1 [0,21]
 rw [Ap];simp +decide only [go_sem,hd,a,f]
 (repeat' apply Ad)<;>first | refine w _ _ ?_ | exact cl
 clear w
 refine BN _ (by simp +decide only [go_sem]) (by simp +decide only [go_sem];rfl) (fun g=>?_) (fun g=>?_)
 ·simp only [Bool.or_eq_true,Bool.or_eq_false_iff,Bool.and_eq_true,Bool.and_eq_false_iff,decide_eq_true_eq,decide_eq_false_iff_not,Bool.not_eq_true',Bool.not_eq_false',Bool.not_eq_eq_eq_not,Bool.not_true,Bool.not_false] at g
  apply Am;intro K4 q
  apply Av 1 [2]
  rw [Ap];simp +decide only [go_sem,hd,a,f]
  (repeat' apply Ad)<;>first | refine q _ _ ?_ | exact cl
  clear q
  apply BB;simp +decide only [go_sem]
  refine KG b pf pf pf (by simp +decide only [go_sem]) ⟨?_,rfl⟩
  rw [Is]
  congr 2
  symm
  by_cases hz:1≤s.size∧s.size≤32
  ·rw [Q8 s hz.1 hz.2,hd,PD,Ac];rfl
  ·exact Xo s hz
 simp only [Bool.or_eq_true,Bool.or_eq_false_iff,Bool.and_eq_true,Bool.and_eq_false_iff,decide_eq_true_eq,decide_eq_false_iff_not,Bool.not_eq_true',Bool.not_eq_false',Bool.not_eq_eq_eq_not,Bool.not_true,Bool.not_false] at g
 have G:1≤s.size∧s.size≤32∧97≤d∧d≤122:=by omega
 clear g
 have h:Jb d=true:=by rw [PD];exact Ag (by omega)
 apply C7;simp only [go_sem]
 (repeat' apply Ad)<;>first | refine v _ _ ?_ | exact cl
 clear v
 apply Am;intro K5 D
 apply Am;intro K6 y
 apply Av 1 [23,24,25]
 rw [Ap];simp +decide only [go_sem,hd,a,f]
 (repeat' apply Ad)<;>first | refine y _ _ ?_ | exact cl
 clear y
 apply Ar
 refine Ax (fun m e st=>∃ k:Nat,k≤s.size∧m=s.size-k∧Jb d=true∧(s.data.toList.all fun c=>Q3 c.toNat)=((s.data.toList.drop k).all fun c=>Q3 c.toNat)∧e=[(23,true,.list (FD s.data.toList) .none),(24,true,Ak s.size),(25,true,Ak k)]∧st=⟨B,Rw,L⟩) s.size ⟨0,by omega,rfl,by assumption,rfl,rfl,rfl⟩ ?_
 rintro m e st ⟨k,O,rfl,H,p,rfl,rfl⟩ KR E
 obtain ⟨c,hc⟩:∃ c,(s.get! k).toNat=c:=⟨_,rfl⟩
 obtain ⟨x,hn1⟩:∃ x,(FD s.data.toList).getD k .junk=x:=⟨_,rfl⟩
 apply Am;intro K7 t
 apply Av 1 [23,24,25,26]
 rw [Ap];simp +decide only [go_sem,hn1,a]
 (repeat' apply Ad)<;>first | refine t _ _ ?_ | exact cl
 clear t
 apply Am;intro K8 z
 refine BN _ (by simp +decide only [go_sem]) (by simp +decide only [go_sem];rfl) (fun g=>?_) (fun g=>?_)
 rotate_left
 ·simp only [Bool.or_eq_true,Bool.or_eq_false_iff,Bool.and_eq_true,Bool.and_eq_false_iff,decide_eq_true_eq,decide_eq_false_iff_not,Bool.not_eq_true',Bool.not_eq_false',Bool.not_eq_eq_eq_not,Bool.not_true,Bool.not_false] at g
  apply Iy;simp +decide only [go_sem,hn1,a]
  (repeat' apply Ad)<;>first | refine D _ _ ?_ | exact cl
  clear D
  apply Am;intro K9 C
  apply Av 1 [2]
  rw [Ap];simp +decide only [go_sem,hn1,a]
  (repeat' apply Ad)<;>first | refine C _ _ ?_ | exact cl
  clear C
  apply BB;simp +decide only [go_sem]
  refine KG b pf pf pf (by simp +decide only [go_sem]) ⟨?_,rfl⟩
  rw [Is]
  have:k=s.size:=by omega
  subst this
  rw [Q8 s (by omega) (by omega),hd,h,p,List.drop_eq_nil_of_le (by omega)];rfl
 simp only [Bool.or_eq_true,Bool.or_eq_false_iff,Bool.and_eq_true,Bool.and_eq_false_iff,decide_eq_true_eq,decide_eq_false_iff_not,Bool.not_eq_true',Bool.not_eq_false',Bool.not_eq_eq_eq_not,Bool.not_true,Bool.not_false] at g
 have i:=Za3 s (fun c=>Q3 c.toNat) k (by omega)
 simp only [hc] at i
 rw [Z6 c] at i
 have hn2:=Z1 s k (by omega)
 rw [hn1,hc] at hn2
 subst hn2
 apply C7;simp only [go_sem]
 (repeat' apply Ad)<;>first | refine z _ _ ?_ | exact cl
 clear z
 apply Am;intro K10 j
 apply Ar
 apply Am;intro K11 n
 apply Av 1 [4,23,24,25]
 rw [Ap];simp +decide only [go_sem,hn1,a]
 (repeat' apply Ad)<;>first | refine n _ _ ?_ | exact cl
 clear n
 apply Am;intro K12 l
 apply Av 1 [23,24,25,46]
 rw [Ap];simp +decide only [go_sem,hn1,a]
 (repeat' apply Ad)<;>first | refine l _ _ ?_ | exact cl
 clear l
 refine BN _ (by simp +decide only [go_sem]) (by simp +decide only [go_sem];rfl) (fun g=>?_) (fun g=>?_)
 ·simp only [Bool.or_eq_true,Bool.or_eq_false_iff,Bool.and_eq_true,Bool.and_eq_false_iff,decide_eq_true_eq,decide_eq_false_iff_not,Bool.not_eq_true',Bool.not_eq_false',Bool.not_eq_eq_eq_not,Bool.not_true,Bool.not_false] at g
  apply Am;intro K13 o
  apply Av 1 [2]
  rw [Ap];simp +decide only [go_sem,hn1,a]
  (repeat' apply Ad)<;>first | refine o _ _ ?_ | exact cl
  clear o
  apply BB;simp +decide only [go_sem]
  refine KG b pf pf pf (by simp +decide only [go_sem]) ⟨?_,rfl⟩
  rw [Is]
  rw [Q8 s (by omega) (by omega),hd,h,p,i,Ac];rfl
 simp only [Bool.or_eq_true,Bool.or_eq_false_iff,Bool.and_eq_true,Bool.and_eq_false_iff,decide_eq_true_eq,decide_eq_false_iff_not,Bool.not_eq_true',Bool.not_eq_false',Bool.not_eq_eq_eq_not,Bool.not_true,Bool.not_false] at g
 apply C7;simp only [go_sem]
 (repeat' apply Ad)<;>first | refine j _ _ ?_ | exact cl
 clear j
 apply Av 1 [23,24,25]
 rw [Ap];simp +decide only [go_sem,hn1,a]
 (repeat' apply Ad)<;>first | refine E (s.size-(k+1)) _ _ ?_ ⟨k+1,?_,rfl,?_,?_,?_,rfl⟩ | exact cl
 ·omega
 ·omega
 ·exact h
 ·rw [p,i,Ag (by omega)];rfl
 ·simp
def Uu (a b:ByteArray):Int:=Lib.compareBytes a.data.toList b.data.toList
theorem V5 (w0:World) (st:St) (a b:ByteArray):ACalls Tryz.prog w0 64 [.val (.string a),.val (.string b)] st fun v s'=>v=Ak (Uu a b)∧s'=st :=
 FX (A0 Tryz.func64 rfl (by decide)) rfl fun M w d h c=>by
  have:=JK (us:=[.string a,.string b]) c
  subst this
  exact (Tryz.strings_Compare a b w).mono fun e i ⟨f,g⟩=>⟨f,g▸Below.refl _ _⟩
theorem Zan (w0:World) (st:St) (hT:Lib.Utf8Tabs 1 2 w0) (s:ByteArray) (hs:s.size≤maxLen):ACalls Tryz.prog w0 115 [.val (.string s)] st fun v s'=>v = .val (.bool (Lib.validD s.data.toList))∧s'=st :=
 FX (A0 Tryz.func115 rfl (by decide)) rfl fun M w b c a=>by
  have:=JK (us:=[.string s]) a
  subst this
  exact Any.utf8_ValidString Tryz.laysValid s w hs (Utf8Tabs_below hT c)
def Df (v:Vl):List Vl:=if v.kind=8∨v.kind=10 then v.list else if v.kind=9 then v.fields.map (·.2) else []
@[go_sem] theorem Zha (l:List Vl):(∀ y∈DG l,y.cells.length=6)↔True:=iff_true_intro (by
 rw [Es];intro y a
 obtain ⟨v,_,rfl⟩:=List.mem_map.1 a
 exact v.cs_length)
@[go_sem] theorem Zmk (l:List Vl):(∀ y∈DG l,y.cells.length=6∧AA y=true)↔True:=iff_true_intro (by
 rw [Es];intro y a
 obtain ⟨v,_,rfl⟩:=List.mem_map.1 a
 exact ⟨v.cs_length,rfl⟩)
@[go_sem] theorem ZkN (l:List Vl):(DG l).map AV.pub=DG l:=by
 rw [Es,List.map_map]
 refine List.map_congr_left fun v _=>?_
 simp only [Function.comp,AV.pub,Vl.cs_pub]
theorem ZaK (l:List Vl) (k:Nat) (h:k<l.length):(DG l).getD k .junk = .agg (l[k]).cs:=by
 simp [Es,List.getD,h]
theorem Z5 (l:List (ByteArray × Vl)) (k:Nat) (h:k<l.length):(HV l).getD k .junk = .agg (.val (.string (l[k]).1)::(l[k]).2.cs):=by
 simp [LY,List.getD,h]
theorem Xp (l:List (ByteArray × Vl)) (k:Nat) (h:k<l.length):DG ((l.take (k+1)).map (·.2))=DG ((l.take k).map (·.2))++[.agg (l[k]).2.cs]:=by
 rw [Es,Es,List.take_succ_eq_append_getElem h,List.map_append,List.map_append];rfl
theorem V0 (l:List (ByteArray × Vl)) (k:Nat) (h:k≤l.length):(DG ((l.take k).map (·.2))).length=k:=by
 rw [N3,List.length_map,List.length_take];omega
theorem Zck (w0:World) (B:Ao) (Rw:Au) (L:As) (v:Vl) (hl:v.list.length≤1000000000000) (hf:v.fields.length≤1000000000000) :
  ACalls Tryz.prog w0 160 [.agg v.cs] ⟨B,Rw,L⟩ fun r st=>r = .list (DG (Df v)) .none∧st=⟨B,Rw,L⟩:=by
 refine ACalls.finP (DO (rs:=[.tmp 2]) Tryz.func160 rfl rfl Tryz.ntmps160 (A0 Tryz.func160 rfl (by decide)) (Nat.le_of_ble_eq_true rfl) ?_)
 intro M0 W0 V K N a U
 have O:=U1 v.fields
 simp only [Az]
 apply Am;intro K1 y
 apply Av 1 [1]
 rw [Ap];simp +decide only [go_sem]
 (repeat' apply Ad)<;>first | refine y _ _ ?_ | exact cl
 clear y
 apply Am;intro K2 C
 apply Am;intro K3 D
 apply Av 1 [1,7]
 rw [Ap];simp +decide only [go_sem]
 (repeat' apply Ad)<;>first | refine D _ _ ?_ | exact cl
 clear D
 apply Ar
 apply Am;intro K4 f
 apply Am;intro K5 F
 apply Av 1 [1,7,8]
 rw [Ap];simp +decide only [go_sem]
 (repeat' apply Ad)<;>first | refine F _ _ ?_ | exact cl
 clear F
 refine BN _ (by simp +decide only [go_sem]) (by simp +decide only [go_sem];rfl) (fun b=>?_) (fun b=>?_)
 -- JOIN
 ·simp only [Bool.or_eq_true,Bool.or_eq_false_iff,Bool.and_eq_true,Bool.and_eq_false_iff,decide_eq_true_eq,decide_eq_false_iff_not,Bool.not_eq_true',Bool.not_eq_false',Bool.not_eq_eq_eq_not,Bool.not_true,Bool.not_false] at b
  apply C7;simp only [go_sem]
  (repeat' apply Ad)<;>first | refine f _ _ ?_ | exact cl
  clear f
  refine BN _ (by simp +decide only [go_sem]) (by simp +decide only [go_sem];rfl) (fun b=>?_) (fun b=>?_)
  ·simp only [Bool.or_eq_true,Bool.or_eq_false_iff,Bool.and_eq_true,Bool.and_eq_false_iff,decide_eq_true_eq,decide_eq_false_iff_not,Bool.not_eq_true',Bool.not_eq_false',Bool.not_eq_eq_eq_not,Bool.not_true,Bool.not_false] at b
   apply Am;intro K6 E
   apply Av 1 [2]
   rw [Ap];simp +decide only [go_sem]
   (repeat' apply Ad)<;>first | refine E _ _ ?_ | exact cl
   clear E
   apply BB;simp +decide only [go_sem]
   refine KG a pf pf pf ?_ ⟨?_,rfl⟩
   ·simp +decide only [go_sem]
   ·simp only [go_sem]
    rw [Df,Ab]
  simp only [Bool.or_eq_true,Bool.or_eq_false_iff,Bool.and_eq_true,Bool.and_eq_false_iff,decide_eq_true_eq,decide_eq_false_iff_not,Bool.not_eq_true',Bool.not_eq_false',Bool.not_eq_eq_eq_not,Bool.not_true,Bool.not_false] at b
  omega
 simp only [Bool.or_eq_true,Bool.or_eq_false_iff,Bool.and_eq_true,Bool.and_eq_false_iff,decide_eq_true_eq,decide_eq_false_iff_not,Bool.not_eq_true',Bool.not_eq_false',Bool.not_eq_eq_eq_not,Bool.not_true,Bool.not_false] at b
 apply Av 1 [1,7,8]
 rw [Ap];simp +decide only [go_sem]
 (repeat' apply Ad)<;>first | refine f _ _ ?_ | exact cl
 clear f
 refine BN _ (by simp +decide only [go_sem]) (by simp +decide only [go_sem];rfl) (fun b=>?_) (fun b=>?_)
 ·simp only [Bool.or_eq_true,Bool.or_eq_false_iff,Bool.and_eq_true,Bool.and_eq_false_iff,decide_eq_true_eq,decide_eq_false_iff_not,Bool.not_eq_true',Bool.not_eq_false',Bool.not_eq_eq_eq_not,Bool.not_true,Bool.not_false] at b
  apply Am;intro K17 s
  apply Av 1 [2]
  rw [Ap];simp +decide only [go_sem]
  (repeat' apply Ad)<;>first | refine s _ _ ?_ | exact cl
  clear s
  apply BB;simp +decide only [go_sem]
  refine KG a pf pf pf ?_ ⟨?_,rfl⟩
  ·simp +decide only [go_sem]
  ·simp only [go_sem]
   rw [Df,Ab]
 simp only [Bool.or_eq_true,Bool.or_eq_false_iff,Bool.and_eq_true,Bool.and_eq_false_iff,decide_eq_true_eq,decide_eq_false_iff_not,Bool.not_eq_true',Bool.not_eq_false',Bool.not_eq_eq_eq_not,Bool.not_true,Bool.not_false] at b
 apply Am;intro K18 l
 apply Av 1 [1,13]
 rw [Ap];simp +decide only [go_sem]
 (repeat' apply Ad)<;>first | refine l _ _ ?_ | exact cl
 clear l
 refine BN _ (by simp +decide only [go_sem]) (by simp +decide only [go_sem];rfl) (fun b=>?_) (fun b=>?_)
 ·simp only [Bool.or_eq_true,Bool.or_eq_false_iff,Bool.and_eq_true,Bool.and_eq_false_iff,decide_eq_true_eq,decide_eq_false_iff_not,Bool.not_eq_true',Bool.not_eq_false',Bool.not_eq_eq_eq_not,Bool.not_true,Bool.not_false] at b
  apply Am;intro K19 p
  apply Av 1 [1,3]
  rw [Ap];simp +decide only [go_sem]
  (repeat' apply Ad)<;>first | refine p _ _ ?_ | exact cl
  clear p
  apply Am;intro K20 q
  apply Am;intro K21 g
  apply Av 1 [3,16,17,18]
  rw [Ap];simp +decide only [go_sem]
  (repeat' apply Ad)<;>first | refine g _ _ ?_ | exact cl
  clear g
  apply Ar
  refine Ax (fun m e st=>∃ (k:Nat) (o:Ev.Own) (r:Au) (X:Ao),k≤v.fields.length∧m=v.fields.length-k∧Grow Rw 6 (DG ((v.fields.take k).map (·.2))) o r ∧
   e=[(3,true,.list (DG ((v.fields.take k).map (·.2))) o),(16,true,.list (HV v.fields) .none),(17,true,Ak v.fields.length),(18,true,Ak k)]∧st=⟨B++X,Rw++r,L⟩) v.fields.length ⟨0,.full,[],[v.cs],by omega,rfl,.nil _ _,rfl,by simp⟩ ?_
  rintro m e st ⟨k,o,r,X,Q,rfl,J,rfl,rfl⟩ KR G
  obtain ⟨x,hx⟩:∃ x,(HV v.fields).getD k .junk=x:=⟨_,rfl⟩
  have c:=R7 (P:=Tryz.prog) Ny (by rw [IJ];rfl) (by decide) J
  have d:=V0 v.fields k Q
  apply Am;intro K22 i
  apply Av 1 [3,16,17,18,19]
  rw [Ap];simp +decide only [go_sem,hx,c,d]
  (repeat' apply Ad)<;>first | refine i _ _ ?_ | exact cl
  clear i
  apply Am;intro K23 h
  refine BN _ (by simp +decide only [go_sem]) (by simp +decide only [go_sem];rfl) (fun b=>?_) (fun b=>?_)
  rotate_left
  ·simp only [Bool.or_eq_true,Bool.or_eq_false_iff,Bool.and_eq_true,Bool.and_eq_false_iff,decide_eq_true_eq,decide_eq_false_iff_not,Bool.not_eq_true',Bool.not_eq_false',Bool.not_eq_eq_eq_not,Bool.not_true,Bool.not_false] at b
   apply Iy;simp +decide only [go_sem,hx,c,d]
   (repeat' apply Ad)<;>first | refine q _ _ ?_ | exact cl
   clear q
   apply Am;intro K24 u
   apply Av 1 [2]
   rw [Ap];simp +decide only [go_sem,hx,c,d]
   (repeat' apply Ad)<;>first | refine u _ _ ?_ | exact cl
   clear u
   apply BB;simp +decide only [go_sem]
   refine KG a pf pf pf ?_ ⟨?_,rfl⟩
   ·simp +decide only [go_sem]
   ·simp only [go_sem]
    rw [Df,Aa,Ab,List.take_of_length_le (by omega)]
  simp only [Bool.or_eq_true,Bool.or_eq_false_iff,Bool.and_eq_true,Bool.and_eq_false_iff,decide_eq_true_eq,decide_eq_false_iff_not,Bool.not_eq_true',Bool.not_eq_false',Bool.not_eq_eq_eq_not,Bool.not_true,Bool.not_false] at b
  have w:k<v.fields.length:=by omega
  have hx2:=Z5 v.fields k w
  rw [hx] at hx2
  subst hx2
  have H:=Xp v.fields k w
  have z:=V0 v.fields (k+1) (by omega)
  apply C7;simp only [go_sem]
  (repeat' apply Ad)<;>first | refine h _ _ ?_ | exact cl
  clear h
  apply Am;intro K25 n
  apply Ar
  apply Am;intro K26 j
  apply Av 1 [3,5,16,17,18]
  rw [Ap];simp +decide only [go_sem,hx,c,d]
  (repeat' apply Ad)<;>first | refine j _ _ ?_ | exact cl
  clear j
  apply Av 1 [3,16,17,18]
  rw [Ap];simp +decide only [go_sem,hx,c,d]
  (repeat' apply Ad)<;>first | refine n _ _ ?_ | exact cl
  clear n
  apply Av 1 [3,16,17,18]
  rw [Ap];simp +decide only [go_sem,hx,c,d]
  (repeat' apply Ad)<;>first | refine G (v.fields.length-(k+1)) _ _ ?_ ⟨k+1,.row Rw.length,[.grow (k+1) 6],_,?_,rfl,.more _ _ _ _ z,?_,rfl⟩ | exact cl
  ·omega
  ·omega
  ·rw [H];simp
 simp only [Bool.or_eq_true,Bool.or_eq_false_iff,Bool.and_eq_true,Bool.and_eq_false_iff,decide_eq_true_eq,decide_eq_false_iff_not,Bool.not_eq_true',Bool.not_eq_false',Bool.not_eq_eq_eq_not,Bool.not_true,Bool.not_false] at b
 apply C7;simp only [go_sem]
 (repeat' apply Ad)<;>first | refine C _ _ ?_ | exact cl
 clear C
 apply Am;intro K27 t
 apply Av 1 [2]
 rw [Ap];simp +decide only [go_sem]
 (repeat' apply Ad)<;>first | refine t _ _ ?_ | exact cl
 clear t
 apply BB;simp +decide only [go_sem]
 refine KG a pf pf pf ?_ ⟨?_,rfl⟩
 ·simp +decide only [go_sem]
 ·simp only [go_sem]
  rw [Df,Aa,Aa];rfl
mutual
def Ha (lv:Nat):Vl→List (Nat × Vl)
 | .mk k i s t l f=>(lv,.mk k i s t l f)::(if k=8∨k=10 then Zg (lv+1) l else if k=9 then Zj (lv+1) f else [])
def Zg (lv:Nat):List Vl→List (Nat × Vl)
 | []=>[]
 | v::r=>Ha lv v++Zg lv r
def Zj (lv:Nat):List (ByteArray × Vl)→List (Nat × Vl)
 | []=>[]
 | (_,v)::r=>Ha lv v++Zj lv r
end
theorem W6 (lv:Nat):∀ l,Zg lv l=l.flatMap (Ha lv)
 | []=>rfl
 | v::r=>by simp [Zg,W6 lv r]
theorem W3 (lv:Nat):∀ l,Zj lv l=(l.map (·.2)).flatMap (Ha lv)
 | []=>rfl
 | (_,v)::r=>by simp [Zj,W3 lv r]
theorem P3 (lv:Nat) (v:Vl):Ha lv v=(lv,v)::(Df v).flatMap (Ha (lv+1)):=by
 obtain ⟨k,i,s,t,l,f⟩:=v
 simp only [Ha,Df,Vl.kind,Vl.list,Vl.fields,W6,W3]
 by_cases h1:k=8∨k=10
 ·simp only [h1,if_true]
 ·by_cases h2:k=9
  ·subst h2;simp
  ·simp only [h1,h2,if_false,List.flatMap_nil]
theorem Ua {α β:Type} (f:α→List β) (l:List α) (q:Nat) (h:q<l.length):((l.take (q+1)).flatMap f).length=((l.take q).flatMap f).length+(f l[q]).length:=by
 rw [List.take_succ_eq_append_getElem h,List.flatMap_append,List.length_append];simp
theorem WG {α β:Type} (f:α→List β) (l:List α) (q:Nat) (h:q<l.length) (j:Nat) (x:β) (hx:(f l[q])[j]? = some x):(l.flatMap f)[((l.take q).flatMap f).length+j]? = some x:=by
 have e:l=l.take q++l[q]::l.drop (q+1):=by rw [←List.drop_eq_getElem_cons h,List.take_append_drop]
 have a:l.flatMap f=(l.take q).flatMap f++(f l[q]++(l.drop (q+1)).flatMap f):=by
  conv=>lhs;rw [e]
  rw [List.flatMap_append,List.flatMap_cons]
 rw [a,List.getElem?_append_right (by omega),Nat.add_sub_cancel_left,List.getElem?_append_left (Aj.1 hx).1,hx]
theorem J8:∀ (l:List Vl) (v:Vl),v∈l→v.size≤EJ l
 | [],_,h=>by simp at h
 | a::r,v,h=>by
  rcases List.mem_cons.1 h with rfl | h
  ·simp [EJ]
  ·have:=J8 r v h
   simp [EJ];omega
theorem J9:∀ (l:List (ByteArray × Vl)) (p:ByteArray × Vl),p∈l→p.2.size≤Fv l
 | [],_,h=>by simp at h
 | (n,a)::r,p,h=>by
  rcases List.mem_cons.1 h with rfl | h
  ·simp [Fv]
  ·have:=J9 r p h
   simp [Fv];omega
theorem Vl.size_pos (v:Vl):0<v.size:=by cases v;simp [Vl.size];omega
theorem Nl:∀ l:List Vl,l.length≤EJ l
 | []=>Nat.le_refl _
 | v::r=>by have:=Nl r;have:=v.size_pos;simp [EJ];omega
theorem J2:∀ l:List (ByteArray × Vl),l.length≤Fv l
 | []=>Nat.le_refl _
 | (n,v)::r=>by have:=J2 r;have:=v.size_pos;simp [Fv];omega
theorem Vl.size_eq (v:Vl):v.size=1+EJ v.list+Fv v.fields:=by cases v;simp [Vl.size,Vl.list,Vl.fields]
theorem Zap (v x:Vl) (h:x∈Df v):x.size<v.size:=by
 have e:=v.size_eq
 unfold Df at h
 split at h
 ·have:=J8 _ _ h;omega
 ·split at h
  ·obtain ⟨p,a,rfl⟩:=List.mem_map.1 h
   have:=J9 _ _ a;omega
  ·simp at h
theorem OT (v:Vl):v.list.length<v.size∧v.fields.length<v.size∧(Df v).length<v.size:=by
 have e:=v.size_eq
 have a:=Nl v.list
 have b:=J2 v.fields
 refine ⟨by omega,by omega,?_⟩
 unfold Df
 split
 ·omega
 ·split
  ·simp;omega
  ·simp;omega
mutual
def Vl.wide:Vl→Bool
 | .mk _ _ _ _ l f=>decide (l.length≤1000000000000)&&decide (f.length≤1000000000000)&&QI l&&Ri f
def QI:List Vl→Bool
 | []=>true
 | v::r=>v.wide&&QI r
def Ri:List (ByteArray × Vl)→Bool
 | []=>true
 | (_,v)::r=>v.wide&&Ri r
end
theorem Q1:∀ l,QI l=true↔∀ v∈l,v.wide=true
 | []=>by simp [QI]
 | v::r=>by simp [QI,Q1 r]
theorem Qm:∀ l,Ri l=true↔∀ p∈l,p.2.wide=true
 | []=>by simp [Ri]
 | (n,v)::r=>by simp [Ri,Qm r]
theorem Vl.wide_iff (v:Vl):v.wide=true↔v.list.length≤1000000000000∧v.fields.length≤1000000000000∧(∀ x∈v.list,x.wide=true)∧∀ p∈v.fields,p.2.wide=true:=by
 cases v;simp only [Vl.wide,Bool.and_eq_true,decide_eq_true_eq,Q1,Qm,Vl.list,Vl.fields,and_assoc]
theorem SG {v x:Vl} (h:v.wide=true) (hx:x∈Df v):x.wide=true:=by
 obtain ⟨_,_,a,b⟩:=v.wide_iff.1 h
 unfold Df at hx
 split at hx
 ·exact a x hx
 ·split at hx
  ·obtain ⟨p,c,rfl⟩:=List.mem_map.1 hx
   exact b p c
  ·simp at hx
theorem H6:∀ (k:Nat) (v:Vl),v.size≤k→v.size≤1000000000000→v.wide=true
 | 0,v,h,_=>by have:=v.size_pos;omega
 | k+1,v,h,h2=>by
  have e:=v.size_eq
  obtain ⟨a,b,_⟩:=OT v
  refine v.wide_iff.2 ⟨by omega,by omega,fun x d=>?_,fun p c=>?_⟩
  ·have:=J8 _ _ d;exact H6 k x (by omega) (by omega)
  ·have:=J9 _ _ c;exact H6 k p.2 (by omega) (by omega)
mutual
def Vl.depth:Vl→Nat
 | .mk _ _ _ _ l f=>1+max (Jj l) (Ja f)
def Jj:List Vl→Nat
 | []=>0
 | t::r=>max t.depth (Jj r)
def Ja:List (ByteArray × Vl)→Nat
 | []=>0
 | (_,t)::r=>max t.depth (Ja r)
end
theorem Qc:∀ (l:List Vl) (d:Nat),Jj l≤d↔∀ v∈l,v.depth≤d
 | [],d=>by simp [Jj]
 | v::r,d=>by simp [Jj,Nat.max_le,Qc r d]
theorem Qn:∀ (l:List (ByteArray × Vl)) (d:Nat),Ja l≤d↔∀ v∈l,v.2.depth≤d
 | [],d=>by simp [Ja]
 | (_,t)::r,d=>by simp [Ja,Nat.max_le,Qn r d]
theorem Vl.depth_eq (v:Vl):v.depth=1+Max.max (Jj v.list) (Ja v.fields):=by cases v;simp [Vl.depth,Vl.list,Vl.fields]
theorem XQ {v x:Vl} (h:x∈Df v):x.depth<v.depth:=by
 have e:=v.depth_eq
 unfold Df at h
 split at h
 ·have:=(Qc v.list _).1 (Nat.le_refl _) x h;omega
 ·split at h
  ·obtain ⟨p,a,rfl⟩:=List.mem_map.1 h
   have:=(Qn v.fields _).1 (Nat.le_refl _) p a;omega
  ·simp at h
mutual
theorem Vl.depth_size:∀ v:Vl,v.depth≤v.size
 | .mk _ _ _ _ l f=>by have:=NV l;have:=NU f;simp only [Vl.depth,Vl.size];omega
theorem NV:∀ l:List Vl,Jj l≤EJ l
 | []=>Nat.le_refl _
 | v::r=>by have:=v.depth_size;have:=NV r;simp only [Jj,EJ];omega
theorem NU:∀ l:List (ByteArray × Vl),Ja l≤Fv l
 | []=>Nat.le_refl _
 | (_,v)::r=>by have:=v.depth_size;have:=NU r;simp only [Ja,Fv];omega
end
def YO (p:Nat × Vl):List AV:=[Ak p.1,.agg p.2.cs]
def XZ (w0:World) (items:Ao) (k:Nat) (J:Nat→St→Prop) (Jx:St→Prop):Prop :=
 ∀ i SB SR SL x XB XL,J i ⟨SB,SR,SL⟩→items[i]? = some x→Nb Tryz.prog w0 k x ⟨SB++XB,SR,SL++XL⟩ fun r s'=>∃ TB TR TL b,r = .val (.bool b)∧s'=⟨TB++XB,TR,TL++XL⟩∧TB.length=SB.length∧SR.length≤TR.length∧TL.length=SL.length∧(b=true→J (i+1) ⟨TB,TR,TL⟩)∧(b=false→Jx ⟨TB,TR,TL⟩)
def Xv (w0:World) (items:Ao) (k:Nat) (J:Nat→St→Prop) (Jx:St→Prop) (v:Vl):Prop :=
 ∀ (lv i:Nat) (lvi:Int) SB SR SL XB XL,lv+v.depth≤4611686018427387904→v.wide=true→J i ⟨SB,SR,SL⟩→lvi=lv→(∀ j x,(Ha lv v)[j]? = some x→items[i+j]? = some (YO x)) →
  ACalls Tryz.prog w0 124 [.agg v.cs,Ak lvi,.yld k] ⟨SB++XB,SR,SL++XL⟩ fun r s'=>∃ TB TR TL XB' b,r = .val (.bool b)∧s'=⟨TB++(XB++XB'),TR,TL++XL⟩∧TB.length=SB.length∧SR.length≤TR.length∧TL.length=SL.length∧(b=true→J (i+(Ha lv v).length) ⟨TB,TR,TL⟩)∧(b=false→Jx ⟨TB,TR,TL⟩)
theorem XV (w0:World) (items:Ao) (k:Nat) (J:Nat→St→Prop) (Jx:St→Prop) (hY:XZ w0 items k J Jx) (v:Vl) (ih:∀ x,x.size<v.size→Xv w0 items k J Jx x):Xv w0 items k J Jx v:=by
 intro d i af SB SR SL XB XL ag g h0 hle s
 subst hle
 obtain ⟨u,z,_⟩:=v.wide_iff.1 g
 have Y:(Df v).length≤1000000000000:=by
  unfold Df
  split
  ·exact u
  ·split
   ·simpa using z
   ·simp
 refine DO (rs:=[.tmp 6]) Tryz.func124 rfl rfl Tryz.ntmps124 (A0 Tryz.func124 rfl (by decide)) (Nat.le_of_ble_eq_true rfl) ?_
 intro M0 W0 hN ae ai O hu
 obtain ⟨ah,aj,ab⟩:=OT v
 have f:=P3 d v
 have c:=N3 (Df v)
 obtain ⟨ps,hpe⟩:∃ ps,Df v=ps:=⟨_,rfl⟩
 have G:items[i]? = some (YO (d,v)):=by
  have:=s 0 (d,v) (by rw [f];rfl)
  simpa using this
 simp only [Az]
 apply Am;intro K1 D
 apply Av 1 [1,2,3]
 rw [Ap];simp +decide only [go_sem]
 (repeat' apply Ad)<;>first | refine D _ _ ?_ | exact cl
 clear D
 apply Am;intro K2 E
 apply Am;intro K3 F
 apply Av 2 [1,2,3,13]
 rw [Ap];simp +decide only [go_sem]
 (repeat' apply Ad)<;>first | refine WC _ (fun _=>hY i SB SR SL _ (XB++[v.cs]) XL h0 G) (fun r s' hp _=>?_) | exact cl
 obtain ⟨TB,TR,TL,b,rfl,rfl,l1,l2,l3,aa,hp2⟩:=hp rfl
 rw [←l1]
 rw [Ap];simp +decide only [go_sem]
 (repeat' apply Ad)<;>first | refine F _ _ ?_ | exact cl
 clear F
 refine BN _ (by simp +decide only [go_sem]) (by simp +decide only [go_sem];rfl) (fun hb=>?_) (fun hb=>?_)
 ·simp only [Bool.not_eq_true'] at hb
  apply Am;intro K4 t
  apply Av 1 [6]
  rw [Ap];simp +decide only [go_sem]
  (repeat' apply Ad)<;>first | refine t _ _ ?_ | exact cl
  clear t
  apply BB;simp +decide only [go_sem]
  exact ⟨TB,TR,TL,[v.cs],false,rfl,rfl,l1,l2,l3,fun h=>(by cases h),fun _=>hp2 hb⟩
 simp only [Bool.not_eq_false'] at hb
 apply C7;simp only [go_sem]
 (repeat' apply Ad)<;>first | refine E _ _ ?_ | exact cl
 clear E
 apply Am;intro K5 N
 apply Am;intro K6 H
 apply Av 2 [1,2,15,16,17]
 rw [Ap];simp +decide only [go_sem]
 (repeat' apply Ad)<;>first | refine Lt _ (Zck w0 _ TR _ v u z) ?_ | exact cl
 rw [hpe] at c ab Y f ⊢
 rw [Ap];simp +decide only [go_sem]
 (repeat' apply Ad)<;>first | refine H _ _ ?_ | exact cl
 clear H
 apply Ar
 refine Ax (fun m e st=>∃ (q:Nat) (UB:Ao) (UR:Au) (UL:As) (XB':Ao),q≤ps.length∧m=ps.length-q∧J (i+1+((ps.take q).flatMap (Ha (d+1))).length) ⟨UB,UR,UL⟩∧UB.length=SB.length∧SR.length≤UR.length∧UL.length=SL.length∧e=[(1,true,Ak d),(2,true,.yld k),(15,true,.list (DG ps) .none),(16,true,Ak ps.length),(17,true,Ak q)]∧st=⟨UB++(XB++XB'),UR,UL++XL⟩) ps.length ⟨0,TB,TR,TL,[v.cs],by omega,rfl,by simpa using aa hb,l1,l2,l3,rfl,by simp⟩ ?_
 rintro m e st ⟨q,UB,UR,UL,XB',hq,rfl,V,m1,m2,m3,rfl,rfl⟩ KR U
 obtain ⟨x,hx⟩:∃ x,(DG ps).getD q .junk=x:=⟨_,rfl⟩
 apply Am;intro K7 C
 apply Av 1 [1,2,15,16,17,18]
 rw [Ap];simp +decide only [go_sem,hx,c]
 (repeat' apply Ad)<;>first | refine C _ _ ?_ | exact cl
 clear C
 apply Am;intro K8 K
 refine BN _ (by simp +decide only [go_sem]) (by simp +decide only [go_sem];rfl) (fun hb=>?_) (fun hb=>?_)
 rotate_left
 ·simp only [Bool.or_eq_true,Bool.or_eq_false_iff,Bool.and_eq_true,Bool.and_eq_false_iff,decide_eq_true_eq,decide_eq_false_iff_not,Bool.not_eq_true',Bool.not_eq_false',Bool.not_eq_eq_eq_not,Bool.not_true,Bool.not_false] at hb
  apply Iy;simp +decide only [go_sem,hx,c]
  (repeat' apply Ad)<;>first | refine N _ _ ?_ | exact cl
  clear N
  apply Am;intro K9 y
  apply Av 1 [6]
  rw [Ap];simp +decide only [go_sem,hx,c]
  (repeat' apply Ad)<;>first | refine y _ _ ?_ | exact cl
  clear y
  apply BB;simp +decide only [go_sem]
  refine ⟨UB,UR,UL,XB',true,rfl,rfl,m1,m2,m3,fun _=>?_,fun h=>(by cases h)⟩
  rw [List.take_of_length_le (by omega)] at V
  rw [f,List.length_cons,show i+((ps.flatMap (Ha (d+1))).length+1)=i+1+(ps.flatMap (Ha (d+1))).length by omega]
  exact V
 simp only [Bool.or_eq_true,Bool.or_eq_false_iff,Bool.and_eq_true,Bool.and_eq_false_iff,decide_eq_true_eq,decide_eq_false_iff_not,Bool.not_eq_true',Bool.not_eq_false',Bool.not_eq_eq_eq_not,Bool.not_true,Bool.not_false] at hb
 have a:q<ps.length:=by omega
 have hx2:=ZaK ps q a
 rw [hx] at hx2
 subst hx2
 have ad:=Ua (Ha (d+1)) ps q a
 have w:∀ j x,(Ha (d+1) (ps[q]'a))[j]? = some x→items[i+1+((ps.take q).flatMap (Ha (d+1))).length+j]? = some (YO x):=fun j x Q=>by
  have h1:=WG (Ha (d+1)) ps q a j x Q
  have h2:=s (((ps.take q).flatMap (Ha (d+1))).length+j+1) x (by rw [f,List.getElem?_cons_succ,h1])
  rw [show i+1+((ps.take q).flatMap (Ha (d+1))).length+j=i+(((ps.take q).flatMap (Ha (d+1))).length+j+1) by omega]
  exact h2
 apply C7;simp only [go_sem]
 (repeat' apply Ad)<;>first | refine K _ _ ?_ | exact cl
 clear K
 apply Am;intro K10 l
 apply Ar
 apply Am;intro K11 o
 apply Av 1 [1,2,8,15,16,17]
 rw [Ap];simp +decide only [go_sem,hx,c]
 (repeat' apply Ad)<;>first | refine o _ _ ?_ | exact cl
 clear o
 apply Am;intro K12 n
 apply Av 2 [1,2,15,16,17,26]
 rw [Ap];simp +decide only [go_sem,hx,c]
 (repeat' apply Ad)<;>first | refine Qa _ (ih (ps[q]'a) (Zap v _ (by rw [hpe];exact List.getElem_mem a)) (d+1) _ _ UB UR UL (XB++(XB'++[(ps[q]'a).cs])) XL (by have:=XQ (v:=v) (x:=ps[q]'a) (by rw [hpe];exact List.getElem_mem a);omega) (SG g (by rw [hpe];exact List.getElem_mem a)) V (by omega) w) ?_ | exact cl
 rintro r s' ⟨VB,VR,VL,XB2,b2,rfl,rfl,n1,n2,n3,Z,np2⟩
 rw [Ap];simp +decide only [go_sem,hx,c]
 (repeat' apply Ad)<;>first | refine n _ _ ?_ | exact cl
 clear n
 refine BN _ (by simp +decide only [go_sem]) (by simp +decide only [go_sem];rfl) (fun hb=>?_) (fun hb=>?_)
 ·simp only [Bool.not_eq_true'] at hb
  apply Am;intro K13 p
  apply Av 1 [6]
  rw [Ap];simp +decide only [go_sem,hx,c]
  (repeat' apply Ad)<;>first | refine p _ _ ?_ | exact cl
  clear p
  apply BB;simp +decide only [go_sem]
  exact ⟨VB,VR,VL,XB'++([(ps[q]'a).cs]++XB2),false,rfl,by simp,by omega,by omega,by omega,fun h=>(by cases h),fun _=>np2 hb⟩
 simp only [Bool.not_eq_false'] at hb
 apply C7;simp only [go_sem]
 (repeat' apply Ad)<;>first | refine l _ _ ?_ | exact cl
 clear l
 apply Av 1 [1,2,15,16,17]
 rw [Ap];simp +decide only [go_sem,hx,c]
 (repeat' apply Ad)<;>first | refine U (ps.length-(q+1)) _ _ ?_ ⟨q+1,VB,VR,VL,XB'++([(ps[q]'a).cs]++XB2),?_,rfl,?_,?_,?_,?_,?_,?_⟩ | exact cl
 ·omega
 ·omega
 ·rw [ad];have:=Z hb;rwa [Nat.add_assoc (i+1)] at this
 ·omega
 ·omega
 ·omega
 ·simp
 ·simp
theorem WR (w0:World) (items:Ao) (k:Nat) (J:Nat→St→Prop) (Jx:St→Prop) (hY:XZ w0 items k J Jx):∀ (n:Nat) (v:Vl),v.size≤n→Xv w0 items k J Jx v
 | 0,v,h=>by have:=v.size_pos;omega
 | n+1,v,h=>XV w0 items k J Jx hY v fun x a=>WR w0 items k J Jx hY n x (by omega)
def IY (v:Vl):List (List AV):=(Ha 1 v).map YO
theorem Sj (w0:World) (v:Vl) (hv:v.depth<4611686018427387904∧v.wide=true) (l:Nat):ZlJ Tryz.prog w0 123 [.box l 0] (IY v) (fun st=>st.boxes[l]? = some v.cs):=by
 intro k J Jx G H U u
 have C:XZ w0 (IY v) k J (fun s=>Jx s):=by
  intro i SB SR SL x XB XL E o
  have:=H i ⟨SB,SR,SL⟩ x ⟨XB,[],XL⟩ rfl E o
  simp only [St.ext,List.append_nil] at this
  intro M w e D z
  obtain ⟨F,d,q,f,e1,t⟩:=this M w e D z
  refine ⟨F,d,q,f,e1,fun n=>(t n).mono ?_⟩
  intro en Y Q
  refine Q.mono ?_
  rintro r s ⟨⟨TB,TR,TL⟩,rfl,⟨q1,q2,q3⟩,hp⟩
  rcases hp with ⟨rfl,hp⟩ | ⟨rfl,hp⟩
  ·exact ⟨TB,TR,TL,true,rfl,rfl,q1,q2,q3,fun _=>hp,fun h=>(by cases h)⟩
  ·exact ⟨TB,TR,TL,false,rfl,rfl,q1,q2,q3,fun h=>(by cases h),fun _=>hp⟩
 obtain ⟨a,K⟩:=G _ _ u
 obtain ⟨SB,SR,SL⟩:=U
 have N:l<SB.length:=(Aj.1 a).1
 have e1:Dn ⟨SB,SR,SL⟩ (.box l 0)=true:=by simp [Dn,N]
 have t:Bi ⟨SB,SR,SL⟩ (.box l 0)=v.cs:=by
  simp only at a
  simp [Bi,List.getD,a]
 have c:=WR w0 (IY v) k J Jx C v.size v (Nat.le_refl _) 1 0 1 SB SR SL [] [] (by omega) hv.2 u rfl (fun j x o=>by simp [IY,o])
 simp only [List.append_nil,List.nil_append,Nat.zero_add] at c
 refine DO (rs:=[]) Tryz.func123 rfl rfl Tryz.ntmps123 (A0 Tryz.func123 rfl (by decide)) (Nat.le_of_ble_eq_true rfl) ?_
 intro M0 W0 Z y O g V
 simp only [Az]
 apply Av 2 []
 rw [Ap];simp +decide only [go_sem,e1,t]
 (repeat' apply Ad)<;>first | refine Qa _ c ?_ | exact cl
 rintro r s ⟨TB,TR,TL,XB',b,rfl,rfl,q1,q2,q3,p,m⟩
 rw [Ap];simp +decide only [go_sem]
 refine ⟨⟨TB,TR,TL⟩,⟨XB',[],[]⟩,rfl,by simp [St.ext],?_⟩
 cases b with
 | true=>exact .inl (by have:=p rfl;simpa [IY] using this)
 | false=>exact .inr (m rfl)
theorem Su (v:Vl):(IY v).length=(Ha 1 v).length:=by simp [IY]
theorem Xt (v:Vl) (i:Nat) (x:List AV) (h:(IY v)[i]? = some x):∃ p,(Ha 1 v)[i]? = some p∧x=[Ak p.1,.agg p.2.cs]∧i<(Ha 1 v).length:=by
 simp only [IY,List.getElem?_map,Option.map_eq_some_iff] at h
 obtain ⟨p,a,rfl⟩:=h
 exact ⟨p,a,rfl,(Aj.1 a).1⟩
theorem XM (v:Vl) (x:List AV) (h:x∈IY v):x.length=2:=by
 obtain ⟨p,_,rfl⟩:=List.mem_map.1 h
 rfl
theorem VT (w0:World) (B:Ao) (Rw:Au) (L:As) (v:Vl) :
  ACalls Tryz.prog w0 76 [.agg v.cs] ⟨B,Rw,L⟩ fun r st=>r = .clo 123 [.box B.length 0]∧st=⟨B++[v.cs],Rw,L⟩:=by
 refine DO (rs:=[.tmp 2]) Tryz.func76 rfl rfl Tryz.ntmps76 (A0 Tryz.func76 rfl (by decide)) (Nat.le_of_ble_eq_true rfl) ?_
 intro M0 W0 f d e c g
 simp only [Az]
 apply Am;intro K1 a
 apply Av 1 [1]
 rw [Ap];simp +decide only [go_sem]
 (repeat' apply Ad)<;>first | refine a _ _ ?_ | exact cl
 clear a
 apply Am;intro K2 b
 apply Av 1 [2]
 rw [Ap];simp +decide only [go_sem]
 (repeat' apply Ad)<;>first | refine b _ _ ?_ | exact cl
 clear b
 apply BB;simp +decide only [go_sem]
 skip
def Q4:List AV:=[.val .nilFunc,.clo 108 [],.clo 110 [],.clo 111 [],.clo 113 [],.clo 116 [],.clo 117 [],.clo 118 [],.clo 119 [],.clo 120 [],.clo 122 []]
theorem Zc1 (w0:World) (B:Ao) (Rw:Au) (L:As)  :
  ACalls Tryz.prog w0 75 [] ⟨B,Rw,L⟩ fun r st=>r = .agg Q4∧st=⟨B,Rw,L⟩:=by
 refine ACalls.finP (DO (rs:=[.cell 0 149]) Tryz.func75 rfl rfl Tryz.ntmps75 (A0 Tryz.func75 rfl (by decide)) (Nat.le_of_ble_eq_true rfl) ?_)
 intro M0 W0 f d e a g
 simp only [Az]
 apply Am;intro K1 b
 apply Av 1 [0]
 rw [Ap];simp +decide only [go_sem,Pj,fillOk,IK,BJ,List.getElem?_cons_zero,List.getElem?_cons_succ,List.nil_append,List.cons_append]
 (repeat' apply Ad)<;>first | refine b _ _ ?_ | exact cl
 clear b
 apply Am;intro K2 c
 apply Av 1 [0]
 rw [Ap];simp +decide only [go_sem,Pj,fillOk,IK,BJ,List.getElem?_cons_zero,List.getElem?_cons_succ,List.nil_append,List.cons_append]
 (repeat' apply Ad)<;>first | refine c _ _ ?_ | exact cl
 clear c
 apply BB;simp +decide only [go_sem]
 refine KG a pf pf pf (by simp +decide only [go_sem]) ⟨?_,rfl⟩
 rfl
inductive Ex where
 | mk (op int:Int) (text:ByteArray) (value:List Vl) (args:List Ex)
namespace Ex
def op:Ex→Int | mk o _ _ _ _=>o
def int:Ex→Int | mk _ i _ _ _=>i
def text:Ex→ByteArray | mk _ _ t _ _=>t
def value:Ex→List Vl | mk _ _ _ v _=>v
def args:Ex→List Ex | mk _ _ _ _ a=>a
end Ex
mutual
def Ex.size:Ex→Nat
 | .mk _ _ _ _ a=>1+Zdv a
def Zdv:List Ex→Nat
 | []=>0
 | e::r=>e.size+Zdv r
end
mutual
def Ex.cs:Ex→List AV
 | .mk o i t v a=>[.val (.int .i64 o),.val (.int .i64 i),.val (.string t),.list (DG v) .none,.list (Ll a) .none]
def Ll:List Ex→List AV
 | []=>[]
 | e::r => .agg e.cs::Ll r
end
theorem LZ:∀ l:List Ex,Ll l=l.map fun v => .agg v.cs
 | []=>rfl
 | v::r=>by simp [Ll,LZ r]
@[go_sem] theorem ZgV (l:List Ex):(Ll l).length=l.length:=by simp [LZ]
mutual
theorem Ex.under (nb nr nl:Nat):∀ v:Ex,∀ x∈v.cs,Under nb nr nl x
 | .mk o i t v a=>by
  intro x b
  simp only [Ex.cs,List.mem_cons,List.not_mem_nil,or_false] at b
  rcases b with rfl | rfl | rfl | rfl | rfl
  ·exact .val _
  ·exact .val _
  ·exact .val _
  ·exact .list (HI nb nr nl v) trivial
  ·exact .list (LE nb nr nl a) trivial
theorem LE (nb nr nl:Nat):∀ l:List Ex,∀ x∈Ll l,Under nb nr nl x
 | []=>fun _ h=>by simp [Ll] at h
 | v::r=>by
  intro x hx
  simp only [Ll,List.mem_cons] at hx
  rcases hx with rfl | hx
  ·exact .agg (Ex.under nb nr nl v)
  ·exact LE nb nr nl r x hx
end
@[go_sem] theorem Zkl (nb nr nl:Nat) (v:Ex):Under nb nr nl (.agg v.cs)↔True:=iff_true_intro (.agg (v.under nb nr nl))
@[go_sem] theorem ZhC (nb nr nl:Nat) (l:List Ex):(∀ x∈Ll l,Under nb nr nl x)↔True:=iff_true_intro (LE nb nr nl l)
@[go_sem] theorem Ex.cs_length (v:Ex):v.cs.length=5:=by cases v;rfl
@[go_sem] theorem Ex.cs_pub (v:Ex):v.cs.map AV.pubCell=v.cs:=by cases v;rfl
section
variable (v:Ex) (d:AV) (l:List AV)
@[go_sem] theorem Ex.g0:v.cs.getD 0 d = .val (.int .i64 v.op):=by cases v;rfl
@[go_sem] theorem Ex.g1:v.cs.getD 1 d = .val (.int .i64 v.int):=by cases v;rfl
@[go_sem] theorem Ex.g2:v.cs.getD 2 d = .val (.string v.text):=by cases v;rfl
@[go_sem] theorem Ex.g3:v.cs.getD 3 d = .list (DG v.value) .none:=by cases v;rfl
@[go_sem] theorem Ex.g4:v.cs.getD 4 d = .list (Ll v.args) .none:=by cases v;rfl
@[go_sem] theorem Ex.take5:v.cs.take 5=v.cs:=by cases v;rfl
@[go_sem] theorem Ex.take5a:(v.cs++l).take 5=v.cs:=by cases v;rfl
end
end Go.Proofs.YtcdnijfbfdnjlaaGreatDoor
