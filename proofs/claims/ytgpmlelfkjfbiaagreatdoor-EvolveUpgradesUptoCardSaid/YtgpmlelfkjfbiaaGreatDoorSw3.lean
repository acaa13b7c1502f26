/-
  Part 3 of the proof: rules and walks that the claim's last text uses.
-/
import Derived.Carry
import Derived.ChangeOld
import Derived.ChangeSlices
import Derived.Deep.DeepHandedRow
import Derived.Deep.DeepWitnessRowRef
import Derived.Lib.AppendZeros
import Derived.Lib.Bytealg
import Derived.Lib.LaidIn
import Derived.Lib.LaidU8T
import Derived.PinnedBridge
import Derived.ProofKit
import Derived.SevenTiedAt
import Derived.Shelf.SlSortCmp.NoneTotal
import Derived.Shelf.SlSortCmp.WholeK
import Derived.Shelf.SlicesE.Clone
import Derived.SizedLaws
import Derived.Sort.Lot0
import Derived.Test.YtgpmlelfkjfbiaaGreatDoorCards
import Derived.Test.YtgpmlelfkjfbiaaGreatDoorProg
import Derived.Test.YtgpmlelfkjfbiaaGreatDoorRows
import Derived.Test.YtgpmlelfkjfbiaaGreatDoorTie
import Derived.Test.YtgpmlelfkjfbiaaGreatDoorSw2
set_option linter.unusedSimpArgs false
set_option linter.unusedVariables false
set_option maxRecDepth 100000
set_option maxHeartbeats 4000000
namespace Go.Ev
open Go Go.RowKit
section
universe u v
variable {α:Type u} {β:Type v} {r:β}
theorem Zab {c:Prop} [Decidable c] {x:Option β} (h:(if c then x else none)=some r):c∧x=some r:=by
 by_cases q:c
 ·
  rw [if_pos q] at h;exact ⟨q,h⟩
 ·
  rw [if_neg q] at h;cases h
theorem bind_some {o:Option α} {f:α→Option β} (h:o.bind f=some r):∃ x,o=some x∧f x=some r:=by
 cases o with
 | none=>cases h
 | some x=>exact ⟨x,rfl,h⟩
theorem Za9 {b:Bool} {x y:β} (h:(if b=true then x else y)=r) (hb:b=true):x=r:=by rwa [if_pos hb] at h
theorem Zba {b:Bool} {x y:β} (h:(if b=true then x else y)=r) (hb:b=false):y=r:=by rwa [if_neg (by simp [hb])] at h
def idx (xs:List α) (i:Int):Option α:=if 0≤i then xs[i.toNat]? else none
theorem Zan {xs:List α} {i:Int} {x:α} (h:idx xs i=some x):0≤i∧i<xs.length∧xs[i.toNat]? = some x:=by
 unfold idx at h
 obtain ⟨h1,h2⟩:=Zab h
 have:=(List.getElem?_eq_some_iff.1 h2).1
 exact ⟨h1,by omega,h2⟩
theorem ZBT {xs:List α} {i:Nat} (h:i<xs.length):idx xs (i:Int)=some xs[i]:=by simp [idx,h]
theorem Zap {f:α→AV} {xs:List α} {i:Nat} {x:α} (h:xs[i]? = some x):(xs.map f).getD i .junk=f x:=by simp [List.getD,h]
end
abbrev I64 (n:Int):Prop := -9223372036854775808≤n∧n≤9223372036854775807
theorem Zb1 {nb nr nl nb' nr' nl':Nat} {x:AV} (h1:nb≤nb') (h2:nr≤nr') (h3:nl≤nl') (h:Under nb nr nl x):Under nb' nr' nl' x:=by
 induction h with
 | val v=>exact .val v
 | list h ho ih=>exact .list ih (by rename_i o;cases o<;>first | trivial | exact Nat.lt_of_lt_of_le ho h2)
 | elem h ih=>exact .elem ih
 | box h=>exact .box (by omega)
 | clo h ih=>exact .clo ih
 | agg h ih=>exact .agg ih
 | tup h ih=>exact .tup ih
 | yld h=>exact .yld (by omega)
 | vec h=>exact .vec (by omega)
 | vel h=>exact .vel (by omega)
def OwnsAt (lo:Nat) (ho:Own) (rows:List RowA) (x:Nat × Nat × Own):Prop:=x.2.2 = .full∨∃ id,x.2.2 = .row id∧(lo≤id∨ho = .row id)∧rows[id]? = some (.grow x.2.1 x.1)
inductive VO where
 | nil
 | row (id ver:Nat)
def hdr:VO→Nat→AV
 | .nil,_ => .list [] .seed
 | .row id ver,n => .vec id ver 0 n
abbrev VE:=VO × Nat × List AV
def VAt (lo:Nat) (rows:List RowA) (x:VE):Prop:=(x.1 = .nil∧x.2.2=[])∨∃ id ver,x.1 = .row id ver∧lo≤id∧rows[id]? = some (.vec ver x.2.1 x.2.2)
def ZzR (v:List VE) (i:Nat):Prop:=∀ x∈v,∀ ver,x.1 ≠ .row i ver
theorem Zmu (i:Nat):ZzR [] i:=fun _ h=>(nomatch h)
structure Owns (Rw rows:List RowA) (l:List (Nat × Nat × Own)) (ho:Own := .none) (v:List VE:=[]):Prop where
 len:Rw.length≤rows.length
 keep:∀ i,i<Rw.length→ho ≠ .row i→rows[i]? = Rw[i]?
 calm:∀ i r,rows[i]? = some r→(Rw.length≤i∨ho = .row i)→ZzR v i→r.cells=[]
 each:∀ x∈l,OwnsAt Rw.length ho rows x
 apart:l.Pairwise fun x y=>∀ id,x.2.2 = .row id→y.2.2 ≠ .row id
 veach:∀ x∈v,VAt Rw.length rows x
 vapart:v.Pairwise fun x y=>∀ id a b,x.1 = .row id a→y.1 ≠ .row id b
section
variable {Rw rows:List RowA} {l:List (Nat × Nat × Own)} {ho:Own} {v:List VE}
theorem Owns.none (Rw:List RowA):Owns Rw Rw []:=by
 refine ⟨Nat.le_refl _,fun _ _ _=>rfl,fun i r h q _=>?_,by simp,.nil,by simp,.nil⟩
 have:=(List.getElem?_eq_some_iff.1 h).1
 rcases q with q | q
 ·
  omega
 ·
  cases q
theorem Owns.pre (h:Owns Rw rows l .none v):Rw <+: rows:=by
 rw [List.prefix_iff_getElem?]
 intro i hi
 rw [h.keep i hi (fun q=>by cases q),List.getElem?_eq_getElem hi]
theorem Owns.sub {l':List (Nat × Nat × Own)} (h:Owns Rw rows l ho v) (hs:l'.Sublist l):Owns Rw rows l' ho v :=
 ⟨h.len,h.keep,h.calm,fun x hx=>h.each x (hs.subset hx),h.apart.sublist hs,h.veach,h.vapart⟩
theorem Owns.full (h:Owns Rw rows l ho v) (sz n:Nat):Owns Rw rows ((sz,n,.full)::l) ho v :=
 ⟨h.len,h.keep,h.calm,fun x hx=>by
  rcases List.mem_cons.1 hx with rfl | hx
  ·
   exact .inl rfl
  ·
   exact h.each x hx,List.pairwise_cons.2 ⟨fun _ _ id q=>(nomatch q),h.apart⟩,h.veach,h.vapart⟩
theorem VAt.up {lo:Nat} {x:VE} (h:VAt lo rows x) (r:List RowA):VAt lo (rows++r) x:=by
 rcases h with h | ⟨id,ver,h1,h2,h3⟩
 ·
  exact .inl h
 ·
  exact .inr ⟨id,ver,h1,h2,by rw [List.getElem?_append_left (List.getElem?_eq_some_iff.1 h3).1];exact h3⟩
theorem VAt.set {lo:Nat} {x:VE} (h:VAt lo rows x) {i:Nat} (hi:∀ ver,x.1 ≠ .row i ver) (r:RowA):VAt lo (rows.set i r) x:=by
 rcases h with h | ⟨id,ver,h1,h2,h3⟩
 ·
  exact .inl h
 ·
  exact .inr ⟨id,ver,h1,h2,by rw [List.getElem?_set_ne (fun (e:i=id)=>hi ver (by rw [e];exact h1))];exact h3⟩
theorem Owns.make (h:Owns Rw rows l ho v) (sz n:Nat):Owns Rw (rows++[.grow n sz]) ((sz,n,.row rows.length)::l) ho v:=by
 have hl:=h.len
 refine ⟨by simp;omega,fun i hi hn=>?_,fun i r hr q qv=>?_,fun x hx=>?_,List.pairwise_cons.2 ⟨fun y hy id q k=>?_,h.apart⟩,fun x hx=>(h.veach x hx).up _,h.vapart⟩
 ·
  rw [List.getElem?_append_left (by omega)];exact h.keep i hi hn
 ·
  by_cases hi:i<rows.length
  ·
   rw [List.getElem?_append_left hi] at hr;exact h.calm i r hr q qv
  ·
   rw [List.getElem?_append_right (by omega)] at hr
   have:=List.mem_of_getElem? hr
   simp only [List.mem_singleton] at this;subst this;rfl
 ·
  rcases List.mem_cons.1 hx with rfl | hx
  ·
   exact .inr ⟨_,rfl,.inl hl,by simp⟩
  ·
   rcases h.each x hx with q | ⟨id,q1,q2,q3⟩
   ·
    exact .inl q
   ·
    exact .inr ⟨id,q1,q2,by rw [List.getElem?_append_left (List.getElem?_eq_some_iff.1 q3).1];exact q3⟩
 ·
  rcases h.each y hy with q' | ⟨id',q1,q2,q3⟩
  ·
   rw [q'] at k;cases k
  ·
   rw [q1] at k;cases k;cases q
   exact absurd (List.getElem?_eq_some_iff.1 q3).1 (Nat.lt_irrefl _)
theorem Owns.unders (h:Owns Rw rows l ho v):∀ x∈l,x.2.2.under rows.length:=fun x hx=>by
 rcases h.each x hx with q | ⟨id,q1,q2,q3⟩
 ·
  rw [q];trivial
 ·
  rw [q1];exact (List.getElem?_eq_some_iff.1 q3).1
theorem Owns.of_eq {l':List (Nat × Nat × Own)} (h:Owns Rw rows l ho v) (he:l=l'):Owns Rw rows l' ho v:=he▸h
theorem Owns.swap {l':List (Nat × Nat × Own)} (h:Owns Rw rows l ho v) (hp:l.Perm l'):Owns Rw rows l' ho v :=
 ⟨h.len,h.keep,h.calm,fun x hx=>h.each x (hp.mem_iff.2 hx),(hp.pairwise_iff (R:=fun x y:Nat × Nat × Own=>∀ id,x.2.2 = .row id→y.2.2 ≠ .row id) (fun q id a b=>q id b a)).1 h.apart,h.veach,h.vapart⟩
theorem Owns.grow_off (h:Owns Rw rows l ho v) {sz n id:Nat} (hx:(sz,n,Own.row id)∈l):ZzR v id:=by
 intro x hv a e
 rcases h.each _ hx with q | ⟨id',q1,q2,q3⟩
 ·
  cases q
 ·
  cases q1
  rcases h.veach x hv with w | ⟨id2,ver2,w1,w2,w3⟩
  ·
   rw [w.1] at e;cases e
  ·
   rw [w1] at e;cases e
   rw [w3] at q3;cases q3
end
theorem Zja {Rw rows:List RowA} (h:Rw <+: rows) {id:Nat} (hi:Rw.length≤id) (x:RowA):Rw <+: rows.set id x:=by
 obtain ⟨t,rfl⟩:=h
 rw [List.set_append_right _ _ hi]
 exact List.prefix_append _ _
theorem Owns.more {Rw rows:List RowA} {l:List (Nat × Nat × Own)} {ho:Own} {v:List VE} {sz n id:Nat} (h:Owns Rw rows ((sz,n,.row id)::l) ho v) (m:Nat):Owns Rw (rows.set id (.grow m sz)) ((sz,m,.row id)::l) ho v:=by
 have a:=h.grow_off (List.mem_cons_self ..)
 obtain ⟨h0,h1,h2,h3,h4,h5,h6⟩:=h
 obtain ⟨hid,hrow⟩:(Rw.length≤id∨ho = .row id)∧rows[id]? = some (.grow n sz):=by
  rcases h3 _ (List.mem_cons_self ..) with q | ⟨id',q1,q2,q3⟩
  ·
   cases q
  ·
   cases q1;exact ⟨q2,q3⟩
 have b:=(List.getElem?_eq_some_iff.1 hrow).1
 obtain ⟨p1,p2⟩:=List.pairwise_cons.1 h4
 refine ⟨by simpa using h0,fun i hi hn=>?_,fun i r hr q qv=>?_,fun x hx=>?_,List.pairwise_cons.2 ⟨fun y hy=>p1 y hy,p2⟩,fun x hx=>(h5 x hx).set (a x hx) _,h6⟩
 ·
  have:id≠i:=by
   rintro rfl
   rcases hid with q | q
   ·
    omega
   ·
    exact hn q
  rw [List.getElem?_set_ne this];exact h1 i hi hn
 ·
  by_cases e:id=i
  ·
   subst e
   rw [List.getElem?_set_self b] at hr
   cases hr;rfl
  ·
   rw [List.getElem?_set_ne e] at hr;exact h2 i r hr q qv
 ·
  rcases List.mem_cons.1 hx with rfl | hx
  ·
   exact .inr ⟨id,rfl,hid,by simp [b]⟩
  ·
   rcases h3 x (List.mem_cons_of_mem _ hx) with q | ⟨id',q1,q2,q3⟩
   ·
    exact .inl q
   ·
    have:id'≠id:=fun e=>p1 x hx id rfl (e▸q1)
    exact .inr ⟨id',q1,q2,by rw [List.getElem?_set_ne (Ne.symm this)];exact q3⟩
theorem Owns.inV {Rw rows:List RowA} {l:List (Nat × Nat × Own)} {ho:Own} {v:List VE} (h:Owns Rw rows l ho v) {i:Nat} {r:RowA} (hr:rows[i]? = some r) (hi:¬ ZzR v i):∃ x∈v,r.cells=x.2.2∧Rw.length≤i:=by
 simp only [ZzR,ne_eq,Classical.not_forall,Classical.not_not] at hi
 obtain ⟨x,hx,a,e⟩:=hi
 rcases h.veach x hx with w | ⟨id,ver',w1,w2,w3⟩
 ·
  rw [w.1] at e;cases e
 ·
  rw [w1] at e;cases e
  rw [w3] at hr;cases hr
  exact ⟨x,hx,rfl,w2⟩
theorem Owns.rowsCalm {Rw rows:List RowA} {l:List (Nat × Nat × Own)} {ho:Own} {v:List VE} (h:Owns Rw rows l ho v) {nb nb' nl:Nat} (hb:nb≤nb') (hc:∀ r∈Rw,∀ x∈r.cells,Under nb Rw.length nl x) (hv:∀ x∈v,∀ y∈x.2.2,Under nb' rows.length nl y:=by intro x hx;cases hx):∀ r∈rows,∀ x∈r.cells,Under nb' rows.length nl x:=fun r hr x hx=>by
 obtain ⟨i,hi,rfl⟩:=List.mem_iff_getElem.1 hr
 have hg:rows[i]? = some rows[i]:=List.getElem?_eq_getElem hi
 by_cases qv:ZzR v i
 case neg =>
  obtain ⟨y,hy,e,_⟩:=h.inV hg qv
  rw [e] at hx
  exact hv y hy x hx
 by_cases q:Rw.length≤i∨ho = .row i
 ·
  rw [h.calm i _ hg q qv] at hx;cases hx
 ·
  have a:i<Rw.length:=by omega
  have:=h.keep i a (fun e=>q (.inr e))
  rw [hg,List.getElem?_eq_getElem a] at this
  rw [Option.some.inj this] at hx
  exact Zb1 hb h.len (Nat.le_refl _) (hc _ (List.getElem_mem a) x hx)
theorem Owns.call {Rw rows rows':List RowA} {l:List (Nat × Nat × Own)} {ho o o':Own} {v:List VE} {sz n n':Nat} (h:Owns Rw rows ((sz,n,o)::l) ho v) (hc:Owns rows rows' [(sz,n',o')] o):Owns Rw rows' ((sz,n',o')::l) ho v:=by
 have hx:=h.each _ (List.mem_cons_self ..)
 have b:∀ i,o = .row i→ZzR v i:=fun i e=>h.grow_off (sz:=sz) (n:=n) (by rw [←e];exact List.mem_cons_self ..)
 obtain ⟨p1,p2⟩:=List.pairwise_cons.1 h.apart
 have own:∀ i,o = .row i→(Rw.length≤i∨ho = .row i)∧i<rows.length:=fun i e=>by
  rcases hx with q | ⟨id,q1,q2,q3⟩
  ·
   simp only at q;rw [e] at q;cases q
  ·
   simp only at q1;rw [e] at q1;cases q1
   exact ⟨q2,(List.getElem?_eq_some_iff.1 q3).1⟩
 have l1:=h.len
 have l2:=hc.len
 have a:=hc.each _ (List.mem_cons_self ..)
 refine ⟨by omega,fun i hi hn=>?_,fun i r hr q qv=>?_,fun x hxm=>?_,List.pairwise_cons.2 ⟨fun y hy id e=>?_,p2⟩,fun x hx=>?_,h.vapart⟩
 ·
  have:o ≠ .row i:=fun e=>by
   rcases (own i e).1 with q | q
   ·
    omega
   ·
    exact hn q
  rw [hc.keep i (by omega) this];exact h.keep i hi hn
 ·
  by_cases e:rows.length≤i∨o = .row i
  ·
   exact hc.calm i r hr e (Zmu i)
  ·
   rw [hc.keep i (by omega) (fun k=>e (.inr k))] at hr
   exact h.calm i r hr q qv
 ·
  rcases List.mem_cons.1 hxm with rfl | hxm
  ·
   rcases a with q | ⟨id,q1,q2,q3⟩
   ·
    exact .inl q
   ·
    refine .inr ⟨id,q1,?_,q3⟩
    rcases q2 with q2 | q2
    ·
     exact .inl (by omega)
    ·
     exact (own id q2).1
  ·
   rcases h.each x (List.mem_cons_of_mem _ hxm) with q | ⟨id,q1,q2,q3⟩
   ·
    exact .inl q
   ·
    refine .inr ⟨id,q1,q2,?_⟩
    rw [hc.keep id (List.getElem?_eq_some_iff.1 q3).1 (fun e=>p1 x hxm id e q1)]
    exact q3
 ·
  intro k
  rcases a with q | ⟨id',q1,q2,q3⟩
  ·
   simp only at q e;rw [q] at e;cases e
  ·
   simp only at q1 e
   rw [q1] at e;cases e
   rcases q2 with q2 | q2
   ·
    rcases h.each y (List.mem_cons_of_mem _ hy) with w | ⟨id,w1,w2,w3⟩
    ·
     rw [w] at k;cases k
    ·
     rw [w1] at k;cases k
     have:=(List.getElem?_eq_some_iff.1 w3).1
     omega
   ·
    exact p1 y hy _ q2 k
 ·
  rcases h.veach x hx with w | ⟨id,ver,w1,w2,w3⟩
  ·
   exact .inl w
  ·
   refine .inr ⟨id,ver,w1,w2,?_⟩
   rw [hc.keep id (List.getElem?_eq_some_iff.1 w3).1 (fun e=>b id e x hx ver w1)]
   exact w3
theorem Owns.append {P:Program} {t el:TypeId} {sz by8 n:Nat} {ag:Bool} {Rw rows:List RowA} {l:List (Nat × Nat × Own)} {o ho:Own} {v:List VE} (h:Owns Rw rows ((sz,n,o)::l) ho v) (he:elT P t=some (el,sz,ag,by8)) (hz:(ZeE P el).isSome=true) (hs:0<sz) (m:Nat)
  (hb:(n+m)*by8≤140737488355328) (hb2:n+m≤4611686018427387904):∃ o' rows',Owns Rw rows' ((sz,n+m,o')::l) ho v ∧
   ∀ (xs ys:List AV) (B:List (List AV)) (L:List LoopA) (o2:Own),xs.length=n→ys.length=m→(∀ y∈xs,y.cells.length=sz) →
    Zbh P ⟨B,rows,L⟩ t (.list xs o) (.list ys o2)=((∀ y∈ys,y.cells.length=sz∧ZbS y=true),.list (xs++ys.map AV.pub) o',⟨B,rows',L⟩):=by
 have a:∀ (ys:List AV),ys.length=m→Zb8 P el sz by8 n ys=(∀ y∈ys,y.cells.length=sz∧ZbS y=true):=by
  intro ys hy
  simp only [Zb8,hs,hz,hy,hb,hb2,true_and]
 rcases h.each _ (List.mem_cons_self ..) with q | ⟨id,q1,q2,q3⟩
 ·
  simp only at q;subst q
  have h':=h.sub (List.sublist_cons_self _ _)
  by_cases hm:m=0
  ·
   subst hm
   refine ⟨.full,rows,h'.full _ _,fun xs ys B L o2 h1 h2 h3=>?_⟩
   have:ys=[]:=List.length_eq_zero_iff.1 h2
   subst this
   simp [Zbh,he,ZaN,Zb5,hs]
  ·
   refine ⟨.row rows.length,rows++[.grow (n+m) sz],h'.make _ _,fun xs ys B L o2 h1 h2 h3=>?_⟩
   simp only [Zbh,he,ZaN,Zb5]
   rw [if_neg (by omega),h1,a ys h2,h2]
   simp only [true_and,Prod.mk.injEq,eq_iff_iff,and_true]
   exact ⟨fun q=>q.1,fun q=>⟨q,h3⟩⟩
 ·
  simp only at q1;subst q1
  refine ⟨.row id,_,h.more (n+m),fun xs ys B L o2 h1 h2 h3=>?_⟩
  simp only [Zbh,he,ZaN,Zb5]
  rw [h1,a ys h2,h2]
  simp only [true_and,Prod.mk.injEq,eq_iff_iff,and_true]
  exact ⟨fun q=>q.1,fun q=>⟨q,h3,q3⟩⟩
theorem ZpR {α:Type} {xs:List α} {i:Nat} {x:α} (h:xs[i]? = some x):xs.drop i=x::xs.drop (i+1):=by
 obtain ⟨h1,rfl⟩:=List.getElem?_eq_some_iff.1 h
 exact List.drop_eq_getElem_cons h1
theorem ZaK {M1:Mem} {B bs bs' XB:List (List AV)} {Rw rows rows':List RowA} {L XL lp:List LoopA} {la:LoopA} {l l':List (Nat × Nat × Own)} {oh:Own} (hra:RoundAt M1 ((St.push ⟨B++bs,rows,L⟩ la).ext ⟨XB,[],XL⟩)) (ho:Owns Rw rows l oh) (ho':Owns Rw rows' l' oh) (hlen:bs'.length=bs.length) (hr:rows.length≤rows'.length)
  (hlp:lp=(L++[la])++XL) (hbs:∀ cs∈bs',∀ x∈cs,Under (B.length+bs.length+XB.length) rows'.length lp.length x):Calm ((B++bs).length+XB.length) rows'.length lp.length ⟨(B++bs')++XB,rows',lp⟩:=by
 subst hlp
 have hc:=hra.calm
 simp only [St.ext,St.push,List.append_nil] at hc
 have e:((B++bs)++XB).length=(B++bs).length+XB.length:=List.length_append
 rw [e] at hc
 refine ⟨fun r h x hx=>?_,fun cs h x hx=>?_,fun a ha k x hx ht=>Zb1 (Nat.le_refl _) hr (Nat.le_refl _) (hc.loops a ha k x hx ht)⟩
 ·
  obtain ⟨i,hi,rfl⟩:=List.mem_iff_getElem.1 h
  have hg:rows'[i]? = some rows'[i]:=List.getElem?_eq_getElem hi
  by_cases q:Rw.length≤i∨oh = .row i
  ·
   rw [ho'.calm i _ hg q (Zmu i)] at hx;cases hx
  ·
   have b:i<Rw.length:=by omega
   have e1:=ho'.keep i b (fun e=>q (.inr e))
   have e2:=ho.keep i b (fun e=>q (.inr e))
   rw [hg,←e2] at e1
   exact Zb1 (Nat.le_refl _) hr (Nat.le_refl _) (hc.rows _ (List.mem_of_getElem? e1.symm) x hx)
 ·
  rcases List.mem_append.1 h with h | h
  ·
   rcases List.mem_append.1 h with h | h
   ·
    exact Zb1 (Nat.le_refl _) hr (Nat.le_refl _) (hc.boxes cs (by simp [h]) x hx)
   ·
    have:=hbs cs h x hx
    rwa [List.length_append]
  ·
   exact Zb1 (Nat.le_refl _) hr (Nat.le_refl _) (hc.boxes cs (by simp [h]) x hx)
section
variable {P:Program} {w0:World} {n:Nat} {e:Env} {st:St} {M0:Mem} {W0:World} {ro:Option Nat} {Q:AQ} {c:Code}
theorem ZmP (l i:Nat) {cs:List AV} {x:AV} (hl:st.boxes[l]? = some cs) (hi:cs[i]? = some x) (h1:x.one=true) (h:awp P w0 n M0 W0 ro c Q e { st with boxes:=st.boxes.set l (cs.set i x.pubCell) }):awp P w0 n M0 W0 ro c Q e st :=
 Zk8 _ _ (fun M _ w hr=>⟨M,.refl _ _ _,hr.st.setBox hl hi (by rw [AV.one_pubCell];exact h1) (fun v hv=>hv.pubCell),hr.size,hr.env⟩) h
theorem RelSt.pubBox {M:Mem} {w:World} (h:RelSt w0 M st w) {l:Nat} {cs:List AV} (hl:st.boxes[l]? = some cs):RelSt w0 M { st with boxes:=st.boxes.set l (cs.map AV.pubCell) } w:=by
 have b:l<st.boxes.length:=(List.getElem?_eq_some_iff.1 hl).1
 refine ⟨h.below,by simp [h.N],h.NR,h.top,h.inj,fun l' a hl'=>?_,h.row,h.rowinj,h.loop⟩
 by_cases q:l'=l
 ·
  subst q
  rw [List.getElem?_set_self b] at hl'
  cases hl'
  obtain ⟨a1,a2,c,ty,a3,a4,a5,a6⟩:=h.box l' cs hl
  refine ⟨a1,a2,c,ty,a3,by simp [a4],fun z hz=>?_,fun j h1 h2=>?_⟩
  ·
   obtain ⟨y,hy,rfl⟩:=List.mem_map.1 hz
   rw [AV.one_pubCell];exact a5 y hy
  ·
   simp only [List.getElem_map]
   exact (a6 j h1 (by simpa using h2)).pubCell
 ·
  rw [List.getElem?_set_ne (Ne.symm q)] at hl'
  exact h.box l' a hl'
theorem Zh7 (l:Nat) {cs cs':List AV} (hl:st.boxes[l]? = some cs) (he:cs.map AV.pubCell=cs') (h:awp P w0 n M0 W0 ro c Q e { st with boxes:=st.boxes.set l cs' }):awp P w0 n M0 W0 ro c Q e st:=by
 subst he
 exact Zk8 _ _ (fun M _ w hr=>⟨M,.refl _ _ _,hr.st.pubBox hl,hr.size,hr.env⟩) h
theorem Zq7 {a:AV} {xs:List AV} (h:a.pub = .list xs .none):∃ o,a = .list xs o:=by
 cases a<;>simp only [AV.pub,reduceCtorEq] at h
 ·
  cases h;exact ⟨_,rfl⟩
theorem Zgl (l i:Nat) {cs:List AV} {a:AV} {xs:List AV} (hl:st.boxes[l]? = some cs) (hi:cs[i]? = some a) (ha:a.pub = .list xs .none) (h:awp P w0 n M0 W0 ro c Q e { st with boxes:=st.boxes.set l (cs.set i (.list xs .none)) }):awp P w0 n M0 W0 ro c Q e st:=by
 obtain ⟨o,rfl⟩:=Zq7 ha
 exact ZmP l i hl hi rfl h
theorem ZbC {nb nr nl:Nat} {f:FuncId} {cs:List AV} (h:Under nb nr nl (.clo f cs)):∀ nb' nr' nl',nb≤nb'→nr≤nr'→nl≤nl'→∀ x∈cs,Under nb' nr' nl' x :=
 fun _ _ _ h1 h2 h3 x hx=>Zb1 h1 h2 h3 (ZnM.1 h x hx)
theorem Znp {B0 B bs X:List (List AV)} {Rw rows:List RowA} {L l':List LoopA} {l:List (Nat × Nat × Own)} {oh:Own} {v:List VE} (hN:M0.N=B0.length) (hNR:M0.NR=Rw.length) (hNL:M0.NL=L.length) (hB:B.length=B0.length) (hc:Calm B0.length Rw.length L.length ⟨B,Rw,L⟩) (ho:Owns Rw rows l oh v)
  (hbs:∀ cs∈bs,∀ x∈cs,Under (B0.length+bs.length) rows.length L.length x) (he:Zlc (B0.length+bs.length) rows.length L.length e)
  (h:awp P w0 n M0 W0 ro c Q e ⟨B++bs,rows,L⟩) (hv:∀ x∈v,∀ y∈x.2.2,Under (B0.length+bs.length) rows.length L.length y:=by intro x hx;cases hx):awp P w0 n M0 W0 ro c Q e ⟨B++(bs++X),rows,L++l'⟩:=by
 rw [←hB] at hN hc hbs he hv
 clear hB B0
 have hl:=ho.len
 have e1:St.cut ⟨B++(bs++X),rows,L++l'⟩ (B.length+bs.length) rows.length L.length=⟨B++bs,rows,L⟩:=by
  simp only [St.cut,List.take_length,←List.append_assoc]
  rw [List.take_left' (by simp),List.take_left' rfl]
 refine Zpr (B.length+bs.length) rows.length L.length (by simp) (Nat.le_refl _) (by simp) (by omega) (by omega) (by omega) ?_ he (by rw [e1];exact h)
 rw [e1]
 refine ⟨fun r hr x hx=>?_,fun cs hcs x hx=>?_,fun la a k x hx ht=>?_⟩
 ·
  exact ho.rowsCalm (by omega) hc.rows hv r hr x hx
 ·
  rcases List.mem_append.1 hcs with hcs | hcs
  ·
   exact Zb1 (by omega) (by omega) (Nat.le_refl _) (hc.boxes cs hcs x hx)
  ·
   exact hbs cs hcs x hx
 ·
  exact Zb1 (by omega) (by omega) (Nat.le_refl _) (hc.loops la a k x hx ht)
theorem ZaD {B0 B bs X:List (List AV)} {Rw rows:List RowA} {L:List LoopA} {l:List (Nat × Nat × Own)} {oh:Own} {v:List VE} (hN:M0.N=B0.length) (hNR:M0.NR=Rw.length) (hNL:M0.NL=L.length) (hB:B.length=B0.length) (hc:Calm B0.length Rw.length L.length ⟨B,Rw,L⟩) (ho:Owns Rw rows l oh v)
  (hbs:∀ cs∈bs,∀ x∈cs,Under (B0.length+bs.length) rows.length L.length x) (he:Zlc (B0.length+bs.length) rows.length L.length e)
  (h:awp P w0 n M0 W0 ro c Q e ⟨B++bs,rows,L⟩) (hv:∀ x∈v,∀ y∈x.2.2,Under (B0.length+bs.length) rows.length L.length y:=by intro x hx;cases hx):awp P w0 n M0 W0 ro c Q e ⟨B++(bs++X),rows,L⟩:=by
 rw [←hB] at hN hc hbs he hv
 clear hB B0
 have hl:=ho.len
 have e1:St.cut ⟨B++(bs++X),rows,L⟩ (B.length+bs.length) rows.length L.length=⟨B++bs,rows,L⟩:=by
  simp only [St.cut,List.take_length,←List.append_assoc]
  rw [List.take_left' (by simp)]
 refine Zpr (B.length+bs.length) rows.length L.length (by simp) (Nat.le_refl _) (Nat.le_refl _) (by omega) (by omega) (by omega) ?_ he (by rw [e1];exact h)
 rw [e1]
 refine ⟨fun r hr x hx=>?_,fun cs hcs x hx=>?_,fun la a k x hx ht=>?_⟩
 ·
  exact ho.rowsCalm (by omega) hc.rows hv r hr x hx
 ·
  rcases List.mem_append.1 hcs with hcs | hcs
  ·
   exact Zb1 (by omega) (by omega) (Nat.le_refl _) (hc.boxes cs hcs x hx)
  ·
   exact hbs cs hcs x hx
 ·
  exact Zb1 (by omega) (by omega) (Nat.le_refl _) (hc.loops la a k x hx ht)
end
section
variable {P:Program} {w0:World} {st:St}
theorem ZeR {c d:Bool} {f:FuncId} {cs args args':List AV} {k:AV→St→Prop} (v:AV)
  (h:ACalls P w0 f args' st fun r s=>r=v∧s=st) (he:args++cs=args') (hk:k v st):Zlg P w0 c d (.clo f cs) args st k := .inl ⟨v,fun _=>by
 show ACalls P w0 f (args++cs) st _
 rw [he];exact h,hk⟩
theorem Zau {d:Bool} {fv:AV} {args:List AV} {k:AV→St→Prop} (h:k .junk st):Zlg P w0 false d fv args st k := .inl ⟨.junk,fun q=>(nomatch q),h⟩
theorem Zfz {B B' X:List (List AV)} {Rw rows:List RowA} {L:List LoopA} {Post:AV→St→Prop} {v:AV} (hc:Calm B.length Rw.length L.length ⟨B',Rw,L⟩) (hB:B'.length=B.length) (h2:Rw <+: rows) (hu:Under B.length Rw.length L.length v.pubA) (hp:Post v.pubA ⟨B',Rw,L⟩) :
  Go.Ev.finP ⟨B,Rw,L⟩ Post v ⟨B'++X,rows,L⟩:=by
 obtain ⟨r,rfl⟩:=h2
 have e:St.cut ⟨B'++X,Rw++r,L⟩ B.length Rw.length L.length=⟨B',Rw,L⟩:=by simp [St.cut,←hB]
 exact ⟨by simp [hB],by simp,by simp,by simp only [e];exact hc,hu,by simp only [e];exact hp⟩
end
theorem Zc2 {B B':List (List AV)} {Rw rows:List RowA} {L:List LoopA} {Post:AV→St→Prop} {v:AV} (hc:Calm B.length Rw.length L.length ⟨B',Rw,L⟩) (hB:B'.length=B.length) (h2:Rw <+: rows) (hu:Under B.length Rw.length L.length v.pubA) (hp:Post v.pubA ⟨B',Rw,L⟩) :
  Go.Ev.finP ⟨B,Rw,L⟩ Post v ⟨B',rows,L⟩:=by
 have:=Zfz (X:=[]) hc hB h2 hu hp
 rwa [List.append_nil] at this
theorem Zah {nb nr nl:Nat} {B:List (List AV)} {Rw:List RowA} {L:List LoopA} {l:Nat} {cs:List AV} (h:Calm nb nr nl ⟨B,Rw,L⟩) (hc:∀ x∈cs,Under nb nr nl x):Calm nb nr nl ⟨B.set l cs,Rw,L⟩ :=
 ⟨h.rows,fun ds hd x hx=>by
  rcases List.mem_or_eq_of_mem_set hd with hd | rfl
  ·
   exact h.boxes ds hd x hx
  ·
   exact hc x hx,h.loops⟩
theorem ZC2 {B B' X:List (List AV)} {Rw rows:List RowA} {L l:List LoopA} {Post:AV→St→Prop} {v:AV} (hc:Calm B.length Rw.length L.length ⟨B',Rw,L⟩) (hB:B'.length=B.length) (h2:Rw <+: rows) (hu:Under B.length Rw.length L.length v.pubA) (hp:Post v.pubA ⟨B',Rw,L⟩) :
  Go.Ev.finP ⟨B,Rw,L⟩ Post v ⟨B'++X,rows,L++l⟩:=by
 obtain ⟨r,rfl⟩:=h2
 have e:St.cut ⟨B'++X,Rw++r,L++l⟩ B.length Rw.length L.length=⟨B',Rw,L⟩:=by simp [St.cut,←hB]
 exact ⟨by simp [hB],by simp,by simp,by simp only [e];exact hc,hu,by simp only [e];exact hp⟩
theorem Zag {B:List (List AV)} {l:Nat} {cs:List AV} (h:B[l]? = some cs) :
  (∀ X R L o,Zds ⟨B++X,R,L⟩ (.box l o)=true)∧(∀ R L o,Zds ⟨B,R,L⟩ (.box l o)=true)∧(∀ X R L o,Za7 ⟨B++X,R,L⟩ (.box l o)=cs)∧(∀ R L o,Za7 ⟨B,R,L⟩ (.box l o)=cs) ∧
  (∀ X,(B++X)[l]? = some cs)∧B[l]? = some cs∧(∀ X,(B++X).getD l []=cs)∧B.getD l []=cs∧(∀ X c,(B++X).set l c=B.set l c++X) ∧
  (∀ X R L o c,Zds ⟨B.set l c++X,R,L⟩ (.box l o)=true)∧(∀ R L o c,Zds ⟨B.set l c,R,L⟩ (.box l o)=true)∧(∀ X R L o c,Za7 ⟨B.set l c++X,R,L⟩ (.box l o)=c)∧(∀ R L o c,Za7 ⟨B.set l c,R,L⟩ (.box l o)=c) ∧
  (∀ X c,(B.set l c++X)[l]? = some c)∧(∀ c,(B.set l c)[l]? = some c)∧(∀ X c,(B.set l c++X).getD l []=c)∧(∀ c,(B.set l c).getD l []=c)∧(∀ X c d,(B.set l c++X).set l d=B.set l d++X)∧(∀ c d,(B.set l c).set l d=B.set l d)∧B.set l cs=B:=by
 have hl:=(List.getElem?_eq_some_iff.1 h).1
 have e1:∀ X,(B++X)[l]? = some cs:=fun X=>by rw [List.getElem?_append_left hl];exact h
 have e2:∀ X c,(B.set l c++X)[l]? = some c:=fun X c=>by rw [List.getElem?_append_left (by simpa using hl)];simp [hl]
 have e3:∀ c,(B.set l c)[l]? = some c:=fun c=>by simp [hl]
 refine ⟨?_,?_,?_,?_,e1,h,?_,?_,?_,?_,?_,?_,?_,e2,e3,?_,?_,?_,?_,?_⟩
 ·
  intro X R L o;simp [Zds];omega
 ·
  intro R L o;simp [Zds,hl]
 ·
  intro X R L o;simp only [Za7,List.getD_eq_getElem?_getD,e1,Option.getD_some]
 ·
  intro R L o;simp only [Za7,List.getD_eq_getElem?_getD,h,Option.getD_some]
 ·
  intro X;rw [List.getD_eq_getElem?_getD,e1];rfl
 ·
  rw [List.getD_eq_getElem?_getD,h];rfl
 ·
  intro X c;exact List.set_append_left _ _ hl
 ·
  intro X R L o c;simp [Zds];omega
 ·
  intro R L o c;simp [Zds,hl]
 ·
  intro X R L o c;simp only [Za7,List.getD_eq_getElem?_getD,e2,Option.getD_some]
 ·
  intro R L o c;simp only [Za7,List.getD_eq_getElem?_getD,e3,Option.getD_some]
 ·
  intro X c;rw [List.getD_eq_getElem?_getD,e2];rfl
 ·
  intro c;rw [List.getD_eq_getElem?_getD,e3];rfl
 ·
  intro X c d;rw [List.set_append_left _ _ (by simpa using hl),List.set_set]
 ·
  intro c d;exact List.set_set ..
 ·
  obtain ⟨h1,rfl⟩:=List.getElem?_eq_some_iff.1 h;exact List.set_getElem_self _
@[go_sem] theorem ZAH (B X:List (List AV)) (R:List RowA) (L:List LoopA) (i k o:Nat) (c:List AV):Zds ⟨B.set i c++X,R,L⟩ (.box (B.length+k) o)=decide (k<X.length):=by simp [Zds]
@[go_sem] theorem Zz7 (B X:List (List AV)) (R:List RowA) (L:List LoopA) (i o:Nat) (c:List AV):Zds ⟨B.set i c++X,R,L⟩ (.box B.length o)=decide (0<X.length):=by simp [Zds]
@[go_sem] theorem Zqi (B X:List (List AV)) (i k:Nat) (c:List AV):(B.set i c++X).getD (B.length+k) []=X.getD k []:=by
 have:=ZsP (B.set i c) X k
 rwa [List.length_set] at this
@[go_sem] theorem ZoX (B X:List (List AV)) (i:Nat) (c:List AV):(B.set i c++X).getD B.length []=X.getD 0 []:=by
 have:=ZqO (B.set i c) X
 rwa [List.length_set] at this
@[go_sem] theorem Zyq (B X:List (List AV)) (R:List RowA) (L:List LoopA) (i k o:Nat) (c:List AV):Za7 ⟨B.set i c++X,R,L⟩ (.box (B.length+k) o)=X.getD k []:=Zqi B X i k c
@[go_sem] theorem ZwH (B X:List (List AV)) (R:List RowA) (L:List LoopA) (i o:Nat) (c:List AV):Za7 ⟨B.set i c++X,R,L⟩ (.box B.length o)=X.getD 0 []:=ZoX B X i c
@[go_sem] theorem ZxS (B X:List (List AV)) (i k:Nat) (c x:List AV):(B.set i c++X).set (B.length+k) x=B.set i c++X.set k x:=by
 have:=ZAi (B.set i c) X k x
 rwa [List.length_set] at this
@[go_sem] theorem ZgF (B X:List (List AV)) (i k:Nat) (c:List AV):(B.set i c++X)[B.length+k]? = X[k]? := by
 rw [List.getElem?_append_right (by simp),List.length_set,Nat.add_sub_cancel_left]
@[go_sem] theorem Zfg (B X:List (List AV)) (i:Nat) (c:List AV):(B.set i c++X)[B.length]? = X[0]? := by
 rw [List.getElem?_append_right (by simp),List.length_set,Nat.sub_self]
attribute [go_sem] List.length_set
theorem ZcE {α:Type} {B B':List α} {l:Nat} {c:α} (h:B <+: B') (hl:B[l]? = some c):B'[l]? = some c:=by
 obtain ⟨t,rfl⟩:=h
 rw [List.getElem?_append_left (List.getElem?_eq_some_iff.1 hl).1];exact hl
theorem Ze0 {α:Type} {f:α→List AV} (sz:Nat) (hf:∀ x,(f x).length=sz):∀ {xs:List α} {i:Nat} {x:α},xs[i]? = some x→((xs.flatMap f).drop (i*sz)).take sz=f x
 | [],i,x,h=>by simp at h
 | y::ys,0,x,h=>by
  simp only [List.getElem?_cons_zero,Option.some.injEq] at h
  subst h
  simp [List.flatMap_cons,←hf y]
 | y::ys,i+1,x,h=>by
  simp only [List.getElem?_cons_succ] at h
  rw [List.flatMap_cons,Nat.succ_mul,Nat.add_comm,List.drop_append,hf y,Nat.add_sub_cancel_left,List.drop_eq_nil_of_le (by rw [hf y];omega),List.nil_append]
  exact Ze0 sz hf h
@[go_sem] theorem ZAO (l:List AV):Zc9 l 0 []=l:=by simp [Zc9]
@[go_sem] theorem ZyA (a x:AV) (l xs:List AV):Zc9 (a::l) 0 (x::xs)=x::Zc9 l 0 xs:=by simp [Zc9]
@[go_sem] theorem ZzK (a:AV) (l xs:List AV) (n:Nat):Zc9 (a::l) (n+1) xs=a::Zc9 l n xs:=by simp [Zc9,Nat.succ_add]
@[go_sem] theorem Zgx (B l:List (List AV)) (k:Nat):(B++l)[B.length+k]? = l[k]? := by rw [List.getElem?_append_right (by omega),Nat.add_sub_cancel_left]
@[go_sem] theorem Zey (B l:List (List AV)):(B++l)[B.length]? = l[0]? := by rw [List.getElem?_append_right (by omega),Nat.sub_self]
theorem Owns.enter {Rw rows:List RowA} {l:List (Nat × Nat × Own)} {ho o:Own} {v:List VE} {sz n:Nat} (h:Owns Rw rows ((sz,n,o)::l) ho v):Owns rows rows [(sz,n,o)] o:=by
 have hx:=h.each _ (List.mem_cons_self ..)
 refine ⟨Nat.le_refl _,fun _ _ _=>rfl,fun i r hr q _=>?_,fun x hm=>?_,by simp,by simp,.nil⟩
 ·
  rcases q with q | q
  ·
   have:=(List.getElem?_eq_some_iff.1 hr).1;omega
  ·
   rcases hx with w | ⟨id,w1,w2,w3⟩
   ·
    simp only at w;rw [q] at w;cases w
   ·
    simp only at w1 w3;rw [q] at w1;cases w1
    rw [hr] at w3;rw [Option.some.inj w3];rfl
 ·
  rw [List.mem_singleton.1 hm]
  rcases hx with w | ⟨id,w1,w2,w3⟩
  ·
   exact .inl w
  ·
   exact .inr ⟨id,w1,.inr w1,w3⟩
theorem Zep {nb nr nr' nl:Nat} {st:St} (h:Calm nb nr nl st) (hr:nr≤nr'):Calm nb nr' nl st :=
 ⟨fun r a x b=>Zb1 (Nat.le_refl _) hr (Nat.le_refl _) (h.rows r a x b),fun cs a x b=>Zb1 (Nat.le_refl _) hr (Nat.le_refl _) (h.boxes cs a x b),fun la a k x b c=>Zb1 (Nat.le_refl _) hr (Nat.le_refl _) (h.loops la a k x b c)⟩
section
variable {P:Program} {w0:World} {f:FuncId} {st:St}
def finG (st:St) (Post:AV→St→Prop) (r:AV) (s:St):Prop :=
 st.boxes.length≤s.boxes.length∧st.rows.length≤s.rows.length∧st.loops.length≤s.loops.length∧Calm st.boxes.length s.rows.length st.loops.length (s.cut st.boxes.length s.rows.length st.loops.length) ∧
  Under st.boxes.length s.rows.length st.loops.length r.pubA∧Post r.pubA (s.cut st.boxes.length s.rows.length st.loops.length)
theorem ACalls.finG {args:List AV} {Post:AV→St→Prop} (h:ACalls P w0 f args st (finG st Post)):ACalls P w0 f args st Post:=by
 refine ⟨h.1,fun M w b a c=>(h.2 M w b a c).mono ?_⟩
 rintro en w' ⟨v,M',r,d,h1,⟨b1,b2,b3,b4,b5,b6⟩,h3,h4,h5⟩
 exact ⟨v,M'.cut st.boxes.length d.rows.length st.loops.length,r.pubA,_,h1,b6,h3.cut (by have:=a.N;omega) (by have:=a.NR;omega) (by have:=a.loop.NL;omega) (by rw [h4.loop.NL];exact b3),h4.cut b1 (Nat.le_refl _) b3 b4,h5.pubA.cut b5⟩
theorem ZDa {B B' X:List (List AV)} {R0 rows:List RowA} {L l:List LoopA} {Post:AV→St→Prop} {v:AV} {ow:List (Nat × Nat × Own)} {oh:Own} (ho:Owns R0 rows ow oh) (hc:Calm B.length rows.length L.length ⟨B',R0,L⟩) (hB:B'.length=B.length) (hu:Under B.length rows.length L.length v.pubA) (hp:Post v.pubA ⟨B',rows,L⟩) :
  Go.Ev.finG ⟨B,R0,L⟩ Post v ⟨B'++X,rows,L++l⟩:=by
 have e:St.cut ⟨B'++X,rows,L++l⟩ B.length rows.length L.length=⟨B',rows,L⟩:=by simp [St.cut,←hB]
 refine ⟨by simp [hB],ho.len,by simp,?_,hu,by simp only [e];exact hp⟩
 simp only [e]
 refine ⟨fun r hr x hx=>?_,hc.boxes,hc.loops⟩
 obtain ⟨i,hi,rfl⟩:=List.mem_iff_getElem.1 hr
 have hg:rows[i]? = some rows[i]:=List.getElem?_eq_getElem hi
 by_cases q:R0.length≤i∨oh = .row i
 ·
  rw [ho.calm i _ hg q (Zmu i)] at hx;cases hx
 ·
  have a:i<R0.length:=by omega
  have:=ho.keep i a (fun e=>q (.inr e))
  rw [hg,List.getElem?_eq_getElem a] at this
  rw [Option.some.inj this] at hx
  exact hc.rows _ (List.getElem_mem a) x hx
end
theorem ZoS {B B' X:List (List AV)} {R0 rows:List RowA} {L:List LoopA} {Post:AV→St→Prop} {v:AV} {ow:List (Nat × Nat × Own)} {oh:Own} (ho:Owns R0 rows ow oh) (hc:Calm B.length rows.length L.length ⟨B',R0,L⟩) (hB:B'.length=B.length) (hu:Under B.length rows.length L.length v.pubA) (hp:Post v.pubA ⟨B',rows,L⟩) :
  Go.Ev.finG ⟨B,R0,L⟩ Post v ⟨B'++X,rows,L⟩:=by
 have:=ZDa (X:=X) (l:=[]) ho hc hB hu hp
 rwa [List.append_nil] at this
section
variable {P:Program} {w0:World} {n:Nat} {e:Env} {st:St} {M0:Mem} {W0:World} {ro:Option Nat} {Q:AQ} {c:Code}
theorem Zgm {B0 B bs X:List (List AV)} {Rw rows:List RowA} {L:List LoopA} {l:List (Nat × Nat × Own)} {oh:Own} (hN:M0.N=B0.length) (hNR:M0.NR=Rw.length) (hNL:M0.NL=L.length) (hB:B.length=B0.length) (hc:Calm B0.length rows.length L.length ⟨B,Rw,L⟩) (ho:Owns Rw rows l oh)
  (hbs:∀ cs∈bs,∀ x∈cs,Under (B0.length+bs.length) rows.length L.length x) (he:Zlc (B0.length+bs.length) rows.length L.length e)
  (h:awp P w0 n M0 W0 ro c Q e ⟨B++bs,rows,L⟩):awp P w0 n M0 W0 ro c Q e ⟨B++(bs++X),rows,L⟩:=by
 rw [←hB] at hN hc hbs he
 clear hB B0
 have hl:=ho.len
 have e1:St.cut ⟨B++(bs++X),rows,L⟩ (B.length+bs.length) rows.length L.length=⟨B++bs,rows,L⟩:=by
  simp only [St.cut,List.take_length,←List.append_assoc]
  rw [List.take_left' (by simp)]
 refine Zpr (B.length+bs.length) rows.length L.length (by simp) (Nat.le_refl _) (Nat.le_refl _) (by omega) (by omega) (by omega) ?_ he (by rw [e1];exact h)
 rw [e1]
 refine ⟨fun r hr x hx=>?_,fun cs hcs x hx=>?_,fun la b k x hx ht=>?_⟩
 ·
  obtain ⟨i,hi,rfl⟩:=List.mem_iff_getElem.1 hr
  have hg:rows[i]? = some rows[i]:=List.getElem?_eq_getElem hi
  by_cases q:Rw.length≤i∨oh = .row i
  ·
   rw [ho.calm i _ hg q (Zmu i)] at hx;cases hx
  ·
   have a:i<Rw.length:=by omega
   have:=ho.keep i a (fun e=>q (.inr e))
   rw [hg,List.getElem?_eq_getElem a] at this
   rw [Option.some.inj this] at hx
   exact Zb1 (by omega) (Nat.le_refl _) (Nat.le_refl _) (hc.rows _ (List.getElem_mem a) x hx)
 ·
  rcases List.mem_append.1 hcs with hcs | hcs
  ·
   exact Zb1 (by omega) (Nat.le_refl _) (Nat.le_refl _) (hc.boxes cs hcs x hx)
  ·
   exact hbs cs hcs x hx
 ·
  exact Zb1 (by omega) (Nat.le_refl _) (Nat.le_refl _) (hc.loops la b k x hx ht)
end
def Zrq (acc:List Nat) (o:Oper):Nat:=o.after.toList.foldl (fun m e=>if Region.binds .any e then m ||| 2 ^ e.on ||| acc.getD e.on 0 else m) 0
def Ziq:List Oper→List Nat→List Nat
 | [],acc=>acc
 | o::os,acc=>Ziq os (acc++[Zrq acc o])
def Zsj (ms:List Nat) (i j:Nat):Bool:=(ms.getD i 0).testBit j
theorem ZsL (acc:List Nat) (j:Nat):∀ (es:List Edge) (m:Nat),(es.foldl (fun m e=>if Region.binds .any e then m ||| 2 ^ e.on ||| acc.getD e.on 0 else m) m).testBit j=true→m.testBit j=true∨∃ e∈es,Region.binds .any e=true∧(e.on=j∨Zsj acc e.on j=true)
 | [],m,h => .inl h
 | e::es,m,h=>by
  simp only [List.foldl_cons] at h
  rcases ZsL acc j es _ h with h | ⟨e',h1,h2⟩
  ·
   by_cases c:Region.binds .any e=true
   ·
    rw [if_pos c] at h
    simp only [Nat.testBit_or,Bool.or_eq_true,Nat.testBit_two_pow,decide_eq_true_eq] at h
    rcases h with (h | h) | h
    ·
     exact .inl h
    ·
     exact .inr ⟨e,List.mem_cons_self .., c,.inl h⟩
    ·
     exact .inr ⟨e,List.mem_cons_self .., c,.inr h⟩
   ·
    rw [if_neg c] at h;exact .inl h
  ·
   exact .inr ⟨e',List.mem_cons_of_mem _ h1,h2⟩
theorem Zov (acc acc':List Nat):∀ (es:List Edge) (m:Nat),(∀ e∈es,Region.binds .any e=true→acc.getD e.on 0=acc'.getD e.on 0) →
  es.foldl (fun m e=>if Region.binds .any e then m ||| 2 ^ e.on ||| acc.getD e.on 0 else m) m=es.foldl (fun m e=>if Region.binds .any e then m ||| 2 ^ e.on ||| acc'.getD e.on 0 else m) m
 | [],_,_=>rfl
 | e::es,m,h=>by
  simp only [List.foldl_cons]
  have:(if Region.binds .any e=true then m ||| 2 ^ e.on ||| acc.getD e.on 0 else m)=if Region.binds .any e=true then m ||| 2 ^ e.on ||| acc'.getD e.on 0 else m:=by
   by_cases c:Region.binds .any e=true
   ·
    rw [if_pos c,if_pos c,h e (List.mem_cons_self ..) c]
   ·
    rw [if_neg c,if_neg c]
  rw [this]
  exact Zov acc acc' es _ fun e' h'=>h e' (List.mem_cons_of_mem _ h')
theorem ZmD:∀ (os:List Oper) (acc:List Nat) (i:Nat),i<acc.length→(Ziq os acc).getD i 0=acc.getD i 0
 | [],_,_,_=>rfl
 | o::os,acc,i,h=>by
  rw [Ziq,ZmD os _ i (by simp;omega),List.getD_eq_getElem?_getD,List.getElem?_append_left h,List.getD_eq_getElem?_getD]
theorem ZsK:∀ (os:List Oper) (acc:List Nat) (k:Nat) (o:Oper),os[k]? = some o→(∀ (k:Nat) (o:Oper),os[k]? = some o→∀ e∈o.after,Region.binds .any e=true→e.on<acc.length+k)→(Ziq os acc).getD (acc.length+k) 0=Zrq (Ziq os acc) o
 | [],_,_,_,h,_=>by simp at h
 | o'::os,acc,0,o,h,hb=>by
  simp only [List.getElem?_cons_zero,Option.some.injEq] at h
  subst h
  rw [Ziq,ZmD os _ _ (by simp)]
  have e1:(acc++[Zrq acc o']).getD (acc.length+0) 0=Zrq acc o':=by simp [List.getD_eq_getElem?_getD]
  rw [e1]
  refine Zov _ _ _ _ fun e he a=>?_
  have:=hb 0 o' rfl e (by simpa using he) a
  rw [ZmD os _ _ (by simp;omega),List.getD_eq_getElem?_getD,List.getD_eq_getElem?_getD,List.getElem?_append_left (by omega)]
 | o'::os,acc,k+1,o,h,hb=>by
  rw [Ziq]
  have:=ZsK os (acc++[Zrq acc o']) k o (by simpa using h) (fun k o h e he a=>by
   have:=hb (k+1) o (by simpa using h) e he a
   simp;omega)
  rw [List.length_append,List.length_singleton,Nat.add_assoc,Nat.add_comm 1 k] at this
  exact this
def Znm (ef:List Nat) (ms:List Nat) (i j:Nat):Bool :=
 if ef.contains i then ef.contains j||Zsj ms i j else if ef.contains j then Zsj ms j i else decide (j<i)&&Zsj ms i j
def ZpA (ef:List Nat) (ms:List Nat) (i j:Nat):Bool :=
 if ef.contains i then ef.contains j||Zsj ms i j else ef.contains j&&Zsj ms j i
def Zrw (l:List Oper) (ef:List Nat):Bool:=(ef.all fun i=>decide (i<l.length)) &&
 (List.range l.length).all fun i=>match l[i]? with
  | some o=>(o.after.toList.all fun e => !Region.binds .any e||decide (e.on<i))&&(List.range l.length).all fun j=>match l[j]? with
   | some p=>match p.dst with
    | some s=>(decide (i=j)||o.dst != some s||ZpA ef (Ziq l []) i j)&&(!(Zqs l o).contains s||Znm ef (Ziq l []) i j)
    | none=>true
   | none=>true
  | none=>true
theorem Zd1 {l:List Oper} {ef:List Nat} (hB:Zrw l ef=true) {i:Nat} {o:Oper} (ho:l[i]? = some o) :
  (∀ e∈o.after,Region.binds .any e=true→e.on<i)∧∀ j p s,l[j]? = some p→p.dst=some s→(o.dst=some s→i=j∨ZpA ef (Ziq l []) i j=true)∧(s∈Zqs l o→Znm ef (Ziq l []) i j=true):=by
 have h1:=List.all_eq_true.1 (Bool.and_eq_true_iff.1 hB).2 i (List.mem_range.2 (List.getElem?_eq_some_iff.1 ho).1)
 simp only [ho,Bool.and_eq_true] at h1
 refine ⟨fun e he hb=>?_,fun j p s hp hs=>?_⟩
 ·
  have:=List.all_eq_true.1 h1.1 e (by simpa using he)
  simpa [hb] using this
 ·
  have h2:=List.all_eq_true.1 h1.2 j (List.mem_range.2 (List.getElem?_eq_some_iff.1 hp).1)
  simp only [hp,hs,Bool.and_eq_true,Bool.or_eq_true,decide_eq_true_eq,bne_iff_ne,Bool.not_eq_true'] at h2
  refine ⟨fun hd=>?_,fun hm=>?_⟩
  ·
   rcases h2.1 with (h | h) | h
   ·
    exact .inl h
   ·
    exact absurd hd h
   ·
    exact .inr h
  ·
   rcases h2.2 with h3 | h3
   ·
    have:(Zqs l o).contains s=true:=by simpa using hm
    rw [h3] at this;cases this
   ·
    exact h3
theorem ZoB {l:List Oper} {ef:List Nat} (hB:Zrw l ef=true) {listed:Array Bool} (closed:∀ (j:Nat) (oj:Oper),l[j]? = some oj→listed.getD j false=true→∀ e∈oj.after,Region.binds .any e=true→listed.getD e.on false=true) (j:Nat) :
  ∀ (i:Nat) (o:Oper),l[i]? = some o→(∀ e∈o.after,Region.binds .any e=true→listed.getD e.on false=true)→Zsj (Ziq l []) i j=true→listed.getD j false=true:=by
 intro i
 induction i using Nat.strongRecOn with
 | _ i ih =>
  intro o ho ha a
  have hm:=ZsK l [] i o ho (fun k o h e he hb=>by have:=(Zd1 hB h).1 e he hb;simpa using this)
  simp only [List.length_nil,Nat.zero_add] at hm
  unfold Zsj at a
  rw [hm] at a
  rcases ZsL _ _ _ _ a with h | ⟨e,h1,h2,h3⟩
  ·
   simp at h
  ·
   have he:e∈o.after:=by simpa using h1
   have b:=ha e he h2
   have c:=(Zd1 hB ho).1 e he h2
   rcases h3 with rfl | h3
   ·
    exact b
   ·
    have d:=(List.getElem?_eq_some_iff.1 ho).1
    exact ih e.on c _ (List.getElem?_eq_getElem (by omega)) (closed e.on _ (List.getElem?_eq_getElem (by omega)) b) h3
def Zef (ef:List Nat):Nat→List Oper→List Oper
 | _,[]=>[]
 | i,o::os=>(if ef.contains i then { o with dst:=none,op := .move (.const (.bool true)),guard:=none } else o)::Zef ef (i+1) os
theorem Zny (ef:List Nat):∀ (l:List Oper) (k i:Nat),(Zef ef k l)[i]? = (l[i]?).map fun o=>if ef.contains (k+i) then { o with dst:=none,op := .move (.const (.bool true)),guard:=none } else o
 | [],_,_=>by simp [Zef]
 | o::os,k,0=>by simp [Zef]
 | o::os,k,i+1=>by simp only [Zef,List.getElem?_cons_succ];rw [Zny ef os (k+1) i,Nat.add_assoc,Nat.add_comm 1 i]
theorem Zhe (ef:List Nat):∀ (l:List Oper) (k:Nat),(Zef ef k l).length=l.length
 | [],_=>rfl
 | o::os,k=>by simp [Zef,Zhe ef os]
section
variable {P:Program} {w0:World} {n:Nat}
def Zdp (P:Program) (w0:World) (ev:Env) (s:St) (o:Oper) (v:AV) (s':St):Prop :=
 match o.op with
 | .call ⟨.value f,args,_⟩=>ZaT ev true f∧(∀ x∈args.toList,ZaT ev true x)∧Zl1 P w0 (Zav ev f) (args.toList.map fun x=>argP ev (Zav ev x)) s fun r t=>r=v∧t=s'
 | op=>(Zcl P ev true s op).1∧(Zcl P ev true s op).2.1=v∧(Zcl P ev true s op).2.2=s'
theorem ZqM {ev:Env} {s s':St} {o:Oper} {v:AV} (hc:¬ Zi1 o.op=true):Zdp P w0 ev s o v s'=((Zcl P ev true s o.op).1∧(Zcl P ev true s o.op).2.1=v∧(Zcl P ev true s o.op).2.2=s'):=by
 obtain ⟨g,op,c,e,a,b⟩:=o
 cases op with
 | call cc =>
  obtain ⟨callee,d,ts⟩:=cc
  cases callee with
  | value f=>exact absurd rfl hc
  | _=>rfl
 | _=>rfl
def ZvR (P:Program) (w0:World) (ev:Env) (s:St) (o:Oper) (Post:AV→St→Prop):Prop :=
 (Zi1 o.op=true∧match o.op with
  | .call ⟨.value f,args,_⟩=>ZaT ev true f∧(∀ x∈args.toList,ZaT ev true x)∧Zl1 P w0 (Zav ev f) (args.toList.map fun x=>argP ev (Zav ev x)) s Post
  | _=>False)∨∃ v s',Zdp P w0 ev s o v s'∧∀ r t,r=v∧t=s'→Post r t
theorem Zre {M:Mem} {ev:Env} {s s':St} {a:Act} {w:World} (h:Rel w0 n M ev s a w) (ro:Option Nat) (m:Nat) {o:Oper} {v:AV} (hv:Zdp P w0 ev s o v s')
  (Q:Exit→Act→World→Prop) (K:Act→World→Prop) (hK:∀ u w' M',Ext w0 M w M' w'→RelSt w0 M' s' w'→R w0 M' w' u v→K (a.put o.dst u) w'):o.wpIn (FW ro) m P a w K Q:=by
 by_cases hc:Zi1 o.op=true
 ·
  obtain ⟨dst,op,e,i,c,d⟩:=o
  cases op<;>try cases hc
  rename_i cc
  obtain ⟨callee,g,ts⟩:=cc
  cases callee<;>try cases hc
  rename_i f
  obtain ⟨b1,b2,b3⟩:=hv
  refine ZhM h ro m b1 b2 b3 Q _ (fun r t hp u w' M' hx b hu=>?_)
  obtain ⟨rfl,rfl⟩:=hp
  exact hK u w' M' hx b hu
 ·
  rw [ZqM hc] at hv
  obtain ⟨b1,b2,b3⟩:=hv
  refine ZmG h ro m o b1 Q _ (fun u w' M' hx b hu=>?_)
  rw [b3] at b
  rw [b2] at hu
  exact hK u w' M' hx b hu
theorem Zsq {M:Mem} {ev:Env} {s:St} {a:Act} {w:World} (h:Rel w0 n M ev s a w) (ro:Option Nat) (m:Nat) {o:Oper} {Post:AV→St→Prop} (hv:ZvR P w0 ev s o Post)
  (Q:Exit→Act→World→Prop) (K:Act→World→Prop) (hK:∀ v s' u w' M',Post v s'→Ext w0 M w M' w'→RelSt w0 M' s' w'→R w0 M' w' u v→K (a.put o.dst u) w'):o.wpIn (FW ro) m P a w K Q:=by
 rcases hv with ⟨hc,hv⟩ | ⟨v,s',hv,hp⟩
 ·
  obtain ⟨dst,op,e,i,c,d⟩:=o
  cases op<;>try cases hc
  rename_i cc
  obtain ⟨callee,g,ts⟩:=cc
  cases callee<;>try cases hc
  rename_i f
  obtain ⟨b1,b2,b3⟩:=hv
  exact ZhM h ro m b1 b2 b3 Q _ (fun r t hp u w' M' hx b hu=>hK r t u w' M' hp hx b hu)
 ·
  exact Zre h ro m hv Q K fun u w' M' hx b hu=>hK v s' u w' M' (hp _ _ ⟨rfl,rfl⟩) hx b hu
def Good (P:Program) (w0:World) (n:Nat) (l:List Oper) (ef:List Nat) (F:St→Prop) (T:Env→St→Prop):Nat→List Nat→Env→St→Prop
 | 0,_,_,_=>False
 | k+1,dn,ev,s=>F s∧((ef.all fun i=>dn.contains i)=true→T ev s)∧∀ i∈ef,dn.contains i=false→(ef.all fun j => !Zsj (Ziq l []) i j||dn.contains j)=true →
   ∃ o,l[i]? = some o∧o.guard=none∧ZkL n o.dst∧∃ Post:AV→St→Prop,ZvR P w0 (ZfA true l o ev) s o Post∧∀ v s',Post v s'→Good P w0 n l ef F T k (i::dn) (ZnV ev o.dst true v) s'
structure AInv (w0:World) (n:Nat) (l:List Oper) (ef:List Nat) (e e1:Env) (M1:Mem) (w1:World) (ds:List Deferred) (dn:List Nat) (ev:Env) (s:St) (listed:Array Bool) (a:Act) (w:World) (M:Mem):Prop where
 size:listed.size=l.length
 closed:∀ (j:Nat) (oj:Oper),l[j]? = some oj→listed.getD j false=true→∀ e∈oj.after,Region.binds .any e=true→listed.getD e.on false=true
 eff:∀ i∈ef,(listed.getD i false=true↔i∈dn)
 sub:∀ i∈dn,i∈ef
 rel:RelSt w0 M s w
 tmps:a.tmps.size=n
 defers:a.defers=ds
 ext:Ext w0 M1 w1 M w
 evn:∀ t,(∀ j∈dn,∀ o,l[j]? = some o→o.dst≠some t)→ZfS ev t=ZfS e1 t
 done:∀ t x,(∃ j∈dn,∃ o,l[j]? = some o∧o.dst=some t)→ZfS ev t=some x→entryOk w0 M w (a.tmps.getD t undef) x
 new:∀ t x,(∀ j∈dn,∀ o,l[j]? = some o→o.dst≠some t)→(∃ i o,i ∉ ef∧l[i]? = some o∧o.dst=some t∧listed.getD i false=true)→ZfS e1 t=some x→entryOk w0 M w (a.tmps.getD t undef) x
 old:∀ t x,(∀ i o,l[i]? = some o→o.dst=some t→listed.getD i false=false)→ZfS e t=some x→entryOk w0 M w (a.tmps.getD t undef) x
theorem ZrG {l:List Oper} {ef:List Nat} {e e1:Env} {F:St→Prop} {T:Env→St→Prop} {M1:Mem} {w1:World} {ds:List Deferred} {ro:Option Nat} {m:Nat} {Q:Exit→Act→World→Prop} (hB:Zrw l ef=true)
  (hF:∀ s,F s→∃ c,evK P w0 n true l (fun e' s'=>e'=e1∧s'=s) c (Zef ef 0 l) e s)
  (hT:∀ ev s M a w,T ev s→Rel w0 n M ev s a w→Ext w0 M1 w1 M w→a.defers=ds→Q .normal a w) :
  ∀ fuel listed a w M k dn ev s,fuel=listed.toList.count false→Good P w0 n l ef F T k dn ev s→AInv w0 n l ef e e1 M1 w1 ds dn ev s listed a w M→wpAnyIn (FW ro) m P .any l.toArray Q fuel listed a w:=by
 -- what the y of the operations apart from the effects tells
 have y:∀ s,F s→∃ E C V,Trail P w0 n l (Zef ef 0 l) e s E C V∧E l.length=e1:=by
  intro s hs
  obtain ⟨c,hc⟩:=hF s hs
  obtain ⟨E,C,V,h1,h2,_⟩:=Zpq c _ _ hc
  rw [Zhe] at h2
  exact ⟨E,C,V,h1,h2⟩
 have ar:∀ {i:Nat} {o:Oper},i ∉ ef→l[i]? = some o→(Zef ef 0 l)[i]? = some o:=by
  intro i o hi ho
  rw [Zny,ho]
  simp [hi]
 have aa:∀ {i:Nat} {o:Oper} {t:Nat},(Zef ef 0 l)[i]? = some o→o.dst=some t→i ∉ ef∧l[i]? = some o:=by
  intro i o t hi hd
  rw [Zny] at hi
  cases hl:l[i]? with
  | none=>simp [hl] at hi
  | some p =>
   rw [hl] at hi
   simp only [Option.map_some,Nat.zero_add,Option.some.injEq] at hi
   by_cases c:i∈ef
   ·
    simp [c] at hi
    subst hi
    cases hd
   ·
    simp [c] at hi
    subst hi
    exact ⟨c,rfl⟩
 have ak:∀ (i j:Nat) (o p:Oper) (t:Nat),(Zef ef 0 l)[i]? = some o→(Zef ef 0 l)[j]? = some p→o.dst=some t→p.dst=some t→i=j:=by
  intro i j o p t hi hj h1 h2
  obtain ⟨a1,a2⟩:=aa hi h1
  obtain ⟨b1,b2⟩:=aa hj h2
  rcases ((Zd1 hB a2).2 j p t b2 h2).1 h1 with h | h
  ·
   exact h
  ·
   simp [ZpA,a1,b1] at h
 have ai:∀ s,F s→∀ t,(∀ i o,i ∉ ef→l[i]? = some o→o.dst≠some t)→ZfS e1 t=ZfS e t:=by
  intro s hs t ht
  obtain ⟨E,C,V,T',he⟩:=y s hs
  have:=(ZjK T' ak t l.length (by rw [Zhe];exact Nat.le_refl _)).1 fun i o _ hi hd=>by
   obtain ⟨a1,a2⟩:=aa hi hd
   exact ht i o a1 a2 hd
  rw [he] at this
  exact this
 intro fuel
 induction fuel with
 | zero =>
  intro listed a w M k dn ev s hf hg inv
  have g:∀ j,j<l.length→listed.getD j false=true:=by
   intro j hj
   cases hq:listed.getD j false with
   | true=>rfl
   | false =>
    exfalso
    have a0:j<listed.size:=by rw [inv.size];omega
    have:false∈listed.toList:=by
     have e1:listed[j]=false:=by simpa [a0] using hq
     rw [←e1];simp
    have:=List.count_pos_iff.2 this
    omega
  cases k with
  | zero=>exact hg.elim
  | succ k =>
  obtain ⟨g1,g2,_⟩:=hg
  have a4:(ef.all fun i=>dn.contains i)=true:=by
   refine List.all_eq_true.2 fun i hi=>?_
   have c:i<l.length:=by simpa using List.all_eq_true.1 (Bool.and_eq_true_iff.1 hB).1 i hi
   simpa using (inv.eff i hi).1 (g i c)
  refine ⟨?_,hT ev s M a w (g2 a4) ⟨inv.rel,inv.tmps,fun t x hx=>?_⟩ inv.ext inv.defers⟩
  ·
   refine List.eq_nil_iff_forall_not_mem.2 fun i hi=>?_
   obtain ⟨af,o,ho,_⟩:=mem_ready.1 hi
   have ho':l[i]? = some o:=by simpa using ho
   have:=g i (List.getElem?_eq_some_iff.1 ho').1
   obtain ⟨q1,q2⟩:=Zum af
   obtain ⟨q3,q4⟩:=ZuH this
   rw [q2] at q4;cases q4
  ·
   by_cases A:∃ j∈dn,∃ o,l[j]? = some o∧o.dst=some t
   ·
    exact inv.done t x A hx
   ·
    have A':∀ j∈dn,∀ o,l[j]? = some o→o.dst≠some t:=fun j hj o ho hd=>A ⟨j,hj,o,ho,hd⟩
    rw [inv.evn t A'] at hx
    by_cases Bf:∃ i o,i ∉ ef∧l[i]? = some o∧o.dst=some t
    ·
     obtain ⟨i,o,b1,b2,b3⟩:=Bf
     exact inv.new t x A' ⟨i,o,b1,b2,b3,g i (List.getElem?_eq_some_iff.1 b2).1⟩ hx
    ·
     rw [ai s g1 t fun i o b1 b2 b3=>Bf ⟨i,o,b1,b2,b3⟩] at hx
     refine inv.old t x (fun i o ho hd=>?_) hx
     by_cases c:i∈ef
     ·
      exact absurd hd (A' i ((inv.eff i c).1 (g i (List.getElem?_eq_some_iff.1 ho).1)) o ho)
     ·
      exact absurd ⟨i,o,c,ho,hd⟩ Bf
 | succ fuel ih =>
  intro listed a w M k dn ev s hf hg inv
  cases k with
  | zero=>exact hg.elim
  | succ k =>
  obtain ⟨g1,g2,g3⟩:=hg
  have ao:∃ j,j<l.length∧listed.getD j false=false∧∀ i,i<j→listed.getD i false=true:=by
   refine Znd fun g=>?_
   have:0<listed.toList.count false:=by omega
   have hm:=List.count_pos_iff.1 this
   obtain ⟨i,hi,he⟩:=List.mem_iff_getElem.1 hm
   have b:i<listed.size:=by simpa using hi
   have:=g i (by rw [←inv.size];exact b)
   simp only [Array.getD_eq_getD_getElem?,Array.getElem?_eq_getElem b,Option.getD_some] at this
   rw [Array.getElem_toList] at he
   rw [he] at this;cases this
  obtain ⟨k0,a3,bb,a9⟩:=ao
  have ba:k0<listed.size:=by rw [inv.size];omega
  have ay:l[k0]? = some l[k0]:=List.getElem?_eq_getElem a3
  have ae:k0∈Region.ready .any l.toArray listed :=
   mem_ready.2 ⟨by simpa [ba] using bb,l[k0],by simp,fun ed he hb=>a9 _ ((Zd1 hB ay).1 ed he hb)⟩
  refine ⟨fun h0=>absurd ae (by rw [h0];simp),fun i hi=>?_⟩
  obtain ⟨af,o,ho,ah⟩:=mem_ready.1 hi
  have ho':l[i]? = some o:=by simpa using ho
  have aq:i<l.length:=(List.getElem?_eq_some_iff.1 ho').1
  have b:i<listed.size:=by rw [inv.size];omega
  have aj:listed.getD i false=false:=by simpa [b] using af
  have ad:∀ j,Zsj (Ziq l []) i j=true→listed.getD j false=true:=fun j hj=>ZoB hB inv.closed j i o ho' ah hj
  have ag:fuel=(listed.setIfInBounds i true).toList.count false:=by
   have aw:listed[i]=false:=by simpa [b] using af
   have bc:0<listed.toList.count false:=List.count_pos_iff.2 (by rw [←aw];simp)
   rw [Array.toList_setIfInBounds,List.count_set (by simpa using b)]
   simp only [Array.getElem_toList,aw]
   rw [if_pos (show (false == false)=true from rfl),if_neg (show ¬ (true == false)=true by decide)]
   omega
  have r:∀ (j:Nat) (oj:Oper),l[j]? = some oj→(listed.setIfInBounds i true).getD j false=true→∀ ed∈oj.after,Region.binds .any ed=true→(listed.setIfInBounds i true).getD ed.on false=true:=by
   intro j oj hj hl ed he hb
   rw [Zdq b] at hl ⊢
   split
   ·
    rfl
   ·
    by_cases c:i=j
    ·
     subst c
     rw [ho'] at hj;cases hj
     exact ah ed he hb
    ·
     rw [if_neg c] at hl
     exact inv.closed j oj hj hl ed he hb
  unfold wpOpIn
  simp only [ho]
  by_cases hie:i∈ef
  ·
   -- an effect
   have a6:dn.contains i=false:=by
    cases hq:dn.contains i with
    | false=>rfl
    | true=>have:=(inv.eff i hie).2 (by simpa using hq);rw [aj] at this;cases this
   obtain ⟨o2,q1,q2,q3,Post,q4,a5⟩:=g3 i hie a6 (by
    refine List.all_eq_true.2 fun j hj=>?_
    cases hq:Zsj (Ziq l []) i j with
    | false=>rfl
    | true=>simpa using (inv.eff j hj).1 (ad j hq))
   rw [ho'] at q1;cases q1
   have ab:Rel w0 n M (ZfA true l o ev) s a w:=by
    refine ⟨inv.rel,inv.tmps,fun t x hs=>?_⟩
    simp only [ZfA,if_true] at hs
    have hm:=Zjc _ _ _ _ hs
    have hx:=ZgN _ _ _ _ hs
    by_cases A:∃ j∈dn,∃ o,l[j]? = some o∧o.dst=some t
    ·
     exact inv.done t x A hx
    ·
     have A':∀ j∈dn,∀ o,l[j]? = some o→o.dst≠some t:=fun j hj o ho hd=>A ⟨j,hj,o,ho,hd⟩
     rw [inv.evn t A'] at hx
     by_cases Bf:∃ i o,i ∉ ef∧l[i]? = some o∧o.dst=some t
     ·
      obtain ⟨j,p,b1,b2,b3⟩:=Bf
      have hl:=((Zd1 hB ho').2 j p t b2 b3).2 hm
      have:Zsj (Ziq l []) i j=true:=by simpa [Znm,hie,b1] using hl
      exact inv.new t x A' ⟨j,p,b1,b2,b3,ad j this⟩ hx
     ·
      rw [ai s g1 t fun i o b1 b2 b3=>Bf ⟨i,o,b1,b2,b3⟩] at hx
      refine inv.old t x (fun j p hp hd=>?_) hx
      by_cases c:j∈ef
      ·
       cases hq:listed.getD j false with
       | false=>rfl
       | true=>exact absurd hd (A' j ((inv.eff j c).1 hq) p hp)
      ·
       exact absurd ⟨j,p,c,hp,hd⟩ Bf
   have hw:Region.wanted o (yielded l.toArray a.tmps)=true:=by simp [Region.wanted,q2]
   rw [hw,if_pos rfl]
   refine Zsq ab ro m q4 Q _ fun v s' u w' M' au hx am hu=>?_
   have q5:=a5 v s' au
   have keep:∀ t x,o.dst≠some t→entryOk w0 M w (a.tmps.getD t undef) x→entryOk w0 M' w' ((a.put o.dst u).tmps.getD t undef) x:=by
    intro t x f h1
    rw [ZiA a o.dst u t (by rw [inv.tmps];exact q3),if_neg f]
    exact h1.mono hx
   refine ih _ _ _ M' k (i::dn) _ s' ag q5 ⟨by simp [inv.size],r,fun j hj=>?_,fun j hj=>?_,am,by rw [Zms];exact inv.tmps,by rw [ZhB];exact inv.defers,inv.ext.trans hx,fun t ht=>?_,fun t x hA hx'=>?_,fun t x hA hN hx'=>?_,fun t x hO hx'=>?_⟩
   ·
    rw [Zdq b]
    by_cases c:i=j
    ·
     subst c;simp
    ·
     rw [if_neg c,inv.eff j hj];simp [Ne.symm c]
   ·
    rcases List.mem_cons.1 hj with rfl | hj
    ·
     exact hie
    ·
     exact inv.sub j hj
   ·
    have f:=ht i (List.mem_cons_self ..) o ho'
    have:ZfS (ZnV ev o.dst true v) t=ZfS ev t:=by
     cases hd:o.dst with
     | none=>rfl
     | some d=>rw [hd] at f;simp only [ZnV,ZfS];rw [if_neg (fun h=>f (by rw [h]))]
    rw [this]
    exact inv.evn t fun j hj=>ht j (List.mem_cons_of_mem _ hj)
   ·
    by_cases c:o.dst=some t
    ·
     rw [c] at hx'
     simp only [ZnV,ZfS,if_true,Option.some.injEq] at hx'
     subst hx'
     rw [ZiA a o.dst u t (by rw [inv.tmps];exact q3),if_pos c]
     simpa only [entryOk,if_true] using hu
    ·
     have:ZfS (ZnV ev o.dst true v) t=ZfS ev t:=by
      cases hd:o.dst with
      | none=>rfl
      | some d=>rw [hd] at c;simp only [ZnV,ZfS];rw [if_neg (fun h=>c (by rw [h]))]
     rw [this] at hx'
     refine keep t x c (inv.done t x ?_ hx')
     obtain ⟨j,hj,p,hp,hd⟩:=hA
     rcases List.mem_cons.1 hj with rfl | hj
     ·
      rw [ho'] at hp;cases hp;exact absurd hd c
     ·
      exact ⟨j,hj,p,hp,hd⟩
   ·
    have f:=hA i (List.mem_cons_self ..) o ho'
    refine keep t x f (inv.new t x (fun j hj=>hA j (List.mem_cons_of_mem _ hj)) ?_ hx')
    obtain ⟨j,p,b1,b2,b3,b4⟩:=hN
    rw [Zdq b] at b4
    by_cases c:i=j
    ·
     subst c;exact absurd hie b1
    ·
     rw [if_neg c] at b4;exact ⟨j,p,b1,b2,b3,b4⟩
   ·
    have f:o.dst≠some t:=fun hd=>by
     have:=hO i o ho' hd
     rw [Zdq b,if_pos rfl] at this;cases this
    refine keep t x f (inv.old t x (fun j p hp hd=>?_) hx')
    have:=hO j p hp hd
    rw [Zdq b] at this
    by_cases c:i=j
    ·
     rw [if_pos c] at this;cases this
    ·
     rwa [if_neg c] at this
  ·
   -- one of the others
   obtain ⟨E,C,V,T',he⟩:=y s g1
   have ax:=ar hie ho'
   obtain ⟨t1,t2,t3,t4,t5⟩:=T'.step i o ax
   have q:∀ t j,j≤l.length→_:=fun t j hj=>ZjK T' ak t j (by rw [Zhe];exact hj)
   have z:∀ j∈dn,∀ p,l[j]? = some p→Zsj (Ziq l []) j i=true→False:=by
    intro j hj p hp a7
    have az:=(inv.eff j (inv.sub j hj)).2 hj
    have:=ZoB hB inv.closed i j p hp (inv.closed j p hp az) a7
    rw [aj] at this;cases this
   have ab:Rel w0 n M (ZfA true l o (E i)) s a w:=by
    refine ⟨inv.rel,inv.tmps,fun t x hs=>?_⟩
    simp only [ZfA,if_true] at hs
    have hm:=Zjc _ _ _ _ hs
    have hx:=ZgN _ _ _ _ hs
    have A':∀ j∈dn,∀ p,l[j]? = some p→p.dst≠some t:=by
     intro j hj p hp hd
     have hl:=((Zd1 hB ho').2 j p t hp hd).2 hm
     have hje:=inv.sub j hj
     exact z j hj p hp (by simpa [Znm,hie,hje] using hl)
    by_cases Bf:∃ i o,i ∉ ef∧l[i]? = some o∧o.dst=some t
    ·
     obtain ⟨j,p,b1,b2,b3⟩:=Bf
     have hl:=((Zd1 hB ho').2 j p t b2 b3).2 hm
     have av:j<i∧Zsj (Ziq l []) i j=true:=by simpa [Znm,hie,b1] using hl
     have e2:=(q t i (Nat.le_of_lt aq)).2 j p av.1 (ar b1 b2) b3
     have e3:=(q t l.length (Nat.le_refl _)).2 j p (by omega) (ar b1 b2) b3
     rw [e2] at hx
     rw [he] at e3
     exact inv.new t x A' ⟨j,p,b1,b2,b3,ad j av.2⟩ (e3.trans hx)
    ·
     have:=(q t i (Nat.le_of_lt aq)).1 fun j p _ hj hd=>by
      obtain ⟨a1,a2⟩:=aa hj hd
      exact Bf ⟨j,p,a1,a2,hd⟩
     rw [this] at hx
     refine inv.old t x (fun j p hp hd=>?_) hx
     by_cases c:j∈ef
     ·
      cases hq:listed.getD j false with
      | false=>rfl
      | true=>exact absurd hd (A' j ((inv.eff j c).1 hq) p hp)
     ·
      exact absurd ⟨j,p,c,hp,hd⟩ Bf
   refine Znc ab ro m t2 (by rw [t4];exact t5) Q _ fun u w' M' hx am hu=>?_
   rw [t4] at hu
   have keep:∀ t x,o.dst≠some t→entryOk w0 M w (a.tmps.getD t undef) x→entryOk w0 M' w' ((a.put o.dst u).tmps.getD t undef) x:=by
    intro t x f h1
    rw [ZiA a o.dst u t (by rw [inv.tmps];exact t3),if_neg f]
    exact h1.mono hx
   have a8:∀ t,o.dst=some t→∀ j∈dn,∀ p,l[j]? = some p→p.dst≠some t:=by
    intro t hd j hj p hp ap
    have hje:=inv.sub j hj
    rcases ((Zd1 hB ho').2 j p t hp ap).1 hd with h | h
    ·
     subst h;exact hie hje
    ·
     exact z j hj p hp (by simpa [ZpA,hie,hje] using h)
   refine ih _ _ _ M' (k+1) dn ev s ag ⟨g1,g2,g3⟩ ⟨by simp [inv.size],r,fun j hj=>?_,inv.sub,am,by rw [Zms];exact inv.tmps,by rw [ZhB];exact inv.defers,inv.ext.trans hx,inv.evn,fun t x hA hx'=>?_,fun t x hA hN hx'=>?_,fun t x hO hx'=>?_⟩
   ·
    rw [Zdq b,if_neg (fun (h:i=j)=>hie (h▸hj))]
    exact inv.eff j hj
   ·
    refine keep t x (fun hd=>?_) (inv.done t x hA hx')
    obtain ⟨j,hj,p,hp,ap⟩:=hA
    exact a8 t hd j hj p hp ap
   ·
    by_cases c:o.dst=some t
    ·
     rw [ZiA a o.dst u t (by rw [inv.tmps];exact t3),if_pos c]
     have e3:=(q t l.length (Nat.le_refl _)).2 i o aq ax c
     rw [he,hx'] at e3
     cases e3
     exact hu
    ·
     refine keep t x c (inv.new t x hA ?_ hx')
     obtain ⟨j,p,b1,b2,b3,b4⟩:=hN
     rw [Zdq b] at b4
     by_cases c':i=j
     ·
      subst c';rw [ho'] at b2;cases b2;exact absurd b3 c
     ·
      rw [if_neg c'] at b4;exact ⟨j,p,b1,b2,b3,b4⟩
   ·
    have f:o.dst≠some t:=fun hd=>by
     have:=hO i o ho' hd
     rw [Zdq b,if_pos rfl] at this;cases this
    refine keep t x f (inv.old t x (fun j p hp hd=>?_) hx')
    have:=hO j p hp hd
    rw [Zdq b] at this
    by_cases c:i=j
    ·
     rw [if_pos c] at this;cases this
    ·
     rwa [if_neg c] at this
def Conv (w0:World) (n nb:Nat) (e:Env) (s:St) (e':Env) (s':St):Prop:=∀ M a w,Rel w0 n M e s a w→∃ M',(∀ Ms ws,Ms.N=nb→Ext w0 Ms ws M w→Ext w0 Ms ws M' w)∧Rel w0 n M' e' s' a w
theorem ZfH {M0:Mem} {W0:World} {ro:Option Nat} {Q:AQ} {e:Env} {st:St} (hm:P.follows .mixedOrders=true) (ef:List Nat) (L:List Nat) {id:Nat} {l:List Oper} (hB:Zrw l ef=true) (F:St→Prop) (k nb:Nat) {e1 e2:Env} {s2:St} (hnb:st.boxes.length=nb)
  (hF:∀ s,F s→∃ c,evK P w0 n true l (fun e' s'=>e'=e1∧s'=s) c (Zef ef 0 l) e s) (hG:Good P w0 n l ef F (fun ev s=>Conv w0 n nb ev s e2 s2) k [] e1 st) (hQ:Q .normal (Zdg L e2) s2):awp P w0 n M0 W0 ro (.region id l.toArray true) Q e st:=by
 intro m M a w hr
 obtain ⟨d1,d2⟩:=hr.rel.st.drew
 refine wpIn_region_any hm (ZrG (e:=e) (e1:=e1) (M1:=M) (w1:=w) (ds:=a.defers) hB hF (fun ev s M' a' w' hc b hx hd=>?_) _ _ a _ M k [] e1 st ?_ hG ?_)
 ·
  obtain ⟨M2,x2,r2⟩:=hc M' a' w' b
  have x3:=x2 M w (hr.rel.st.N.trans hnb) hx
  refine ⟨M2,_,_,⟨r2.sub (ZaW L _),hr.ext.trans x3,?_⟩,hQ⟩
  rw [hd]
  exact hr.marks.later x3 hr.rel.st
 ·
  simp
 ·
  have hnl:∀ j,(Array.replicate l.toArray.size false).getD j false=false:=fun j=>by
   by_cases c:j<l.length
   ·
    simp [Array.getD_eq_getD_getElem?,c]
   ·
    simp [Array.getD_eq_getD_getElem?,c]
  exact ⟨by simp,fun j _ _ hl=>(by rw [hnl] at hl;cases hl),fun i _=>(by rw [hnl];simp),fun _ h=>(nomatch h),d1,hr.rel.size,rfl,d2,fun _ _=>rfl,fun _ _ ⟨_,h,_⟩=>(nomatch h),
   fun _ _ _ ⟨i,_,_,_,_,h⟩=>(by rw [hnl] at h;cases h),fun t x _ hs=>(hr.rel.env t x hs).mono d2⟩
theorem ZbQ (L:List Nat) {nb:Nat} {e e':Env} {s:St} (h:Zdg L e=e'):Conv w0 n nb e s e' s:=fun M _ w hr=>⟨M,fun _ _ _ h=>h,by rw [←h];exact hr.sub (ZaW L e)⟩
def ZCa (l:List Oper) (ef dn:List Nat):List Nat:=ef.filter fun i => !dn.contains i&&ef.all fun j => !Zsj (Ziq l []) i j||dn.contains j
theorem Good.mk {l:List Oper} {ef dn:List Nat} {F:St→Prop} {T:Env→St→Prop} {k:Nat} {ev:Env} {s:St} (rs:List Nat) (hr:ZCa l ef dn=rs) (hF:F s) (hT:(ef.all fun i=>dn.contains i)=true→T ev s)
  (h:∀ i∈rs,∃ o,l[i]? = some o∧o.guard=none∧ZkL n o.dst∧∃ Post:AV→St→Prop,ZvR P w0 (ZfA true l o ev) s o Post∧∀ v s',Post v s'→Good P w0 n l ef F T k (i::dn) (ZnV ev o.dst true v) s'):Good P w0 n l ef F T (k+1) dn ev s :=
 ⟨hF,hT,fun i hi hd ha=>h i (by rw [←hr];exact List.mem_filter.2 ⟨hi,by rw [hd,ha];rfl⟩)⟩
theorem Zbu {l:List Oper} {ef dn:List Nat} {F:St→Prop} {T:Env→St→Prop} {k i:Nat} {ev:Env} {s:St} {o:Oper} {v:AV} {s':St} (ho:l[i]? = some o) (hg:o.guard=none) (hd:ZkL n o.dst) (hs:Zdp P w0 (ZfA true l o ev) s o v s')
  (hk:Good P w0 n l ef F T k (i::dn) (ZnV ev o.dst true v) s'):∃ o,l[i]? = some o∧o.guard=none∧ZkL n o.dst∧∃ Post:AV→St→Prop,ZvR P w0 (ZfA true l o ev) s o Post∧∀ v s',Post v s'→Good P w0 n l ef F T k (i::dn) (ZnV ev o.dst true v) s' :=
 ⟨o,ho,hg,hd,fun r t=>r=v∧t=s',.inr ⟨v,s',hs,fun _ _ h=>h⟩,by rintro _ _ ⟨rfl,rfl⟩;exact hk⟩
theorem ZgM {l:List Oper} {ef dn:List Nat} {F:St→Prop} {T:Env→St→Prop} {k i:Nat} {ev:Env} {s:St} {o:Oper} {f:Operand} {args:Array Operand} {ts:Array TypeId} {Post:AV→St→Prop} (ho:l[i]? = some o) (hg:o.guard=none) (hd:ZkL n o.dst) (hop:o.op = .call ⟨.value f,args,ts⟩)
  (h1:ZaT (ZfA true l o ev) true f) (h2:∀ x∈args.toList,ZaT (ZfA true l o ev) true x) (h3:Zl1 P w0 (Zav (ZfA true l o ev) f) (args.toList.map fun x=>argP (ZfA true l o ev) (Zav (ZfA true l o ev) x)) s Post)
  (hk:∀ v s',Post v s'→Good P w0 n l ef F T k (i::dn) (ZnV ev o.dst true v) s'):∃ o,l[i]? = some o∧o.guard=none∧ZkL n o.dst∧∃ Post:AV→St→Prop,ZvR P w0 (ZfA true l o ev) s o Post∧∀ v s',Post v s'→Good P w0 n l ef F T k (i::dn) (ZnV ev o.dst true v) s' :=
 ⟨o,ho,hg,hd,Post,.inl ⟨by rw [hop];rfl,by rw [hop];exact ⟨h1,h2,h3⟩⟩,hk⟩
end
def Tg {α:Type} (_:α):Prop:=True
theorem tg {α:Type} {a:α}:Tg a:=trivial
theorem cl {p:Prop} (h:p:=by first | (intros;omega) | (intros;simp_all;done) | (intros;simp only [Bool.or_eq_false_iff,Bool.or_eq_true,Bool.and_eq_true,Bool.and_eq_false_iff,decide_eq_true_eq,decide_eq_false_iff_not,bne_iff_ne] at *; omega)):p:=h
theorem ev {p:Prop} (h:p:=by simp +decide only [go_sem,Nat.reduceAdd]):p:=h
theorem ef {p F:Prop} (f:F) (h:F→p:=by intro hs;first | rfl | (simp +decide only [go_sem,Nat.reduceAdd,hs];done)):p:=h f
theorem en {p F:Prop} (f:F) (h:F→p:=by intro hs;first | (simp +decide only [go_sem,Nat.reduceAdd,hs];done) | (simp +decide only [go_sem,Nat.reduceAdd,hs];rfl)):p:=h f
theorem ow {p:Prop} (h:p:=by (simp +decide only [go_sem,Nat.reduceAdd,Zlc])<;>(try (repeat' apply And.intro))<;>first | omega | assumption):p:=h
theorem Zw9:(0:Nat)=0:=rfl
section
variable {P:Program} {w0:World} {n:Nat} {M0:Mem} {W0:World} {ro:Option Nat} {e:Env} {st:St} {Q:AQ}
theorem ZiE {c:Nat} {L:List Nat} (tc:Tg c) (tL:Tg L) {id:Nat} {l:List Oper} (h:evK P w0 n false l (fun e' st'=>Q .normal (Zdg L e') st') c l e st):awp P w0 n M0 W0 ro (.region id l.toArray false) Q e st:=Zaf c L h
theorem Ztd {L:List Nat} (t:Tg L) {c:Code} (h:awp P w0 n M0 W0 ro c Q (Zdg L e) st):awp P w0 n M0 W0 ro c Q e st:=ZcR _ h (ZaW _ _)
theorem Zld {h c1 c2:Nat} {L:List Nat} (tt:Tg (h,c1,c2,L)) (hm:P.follows .mixedOrders=true) {id:Nat} {l:List Oper} (hB:ZuW l h=true)
  (hev:evK P w0 n true l (fun e1 s1=>evK P w0 n false l (fun e2 s2=>Q .normal (Zdg L e2) s2) c2 (l.drop h) e1 s1) c1 (l.take h) e st):awp P w0 n M0 W0 ro (.region id l.toArray true) Q e st:=Zxb hm h c1 c2 L hB hev
theorem ZfX {c d:Bool} {fv:AV} {args:List AV} {k:AV→St→Prop} (h:Zlg P w0 c d fv args st k):Zlg P w0 c d fv args st k:=h
theorem cnd {β:Type} {F:Prop} {b:Bool} {X Y r:β} (h:(if b=true then X else Y)=r) (f:F) {c:Operand} {x y:Code} (ht:(b=true∧F)→X=r→awp P w0 n M0 W0 ro x Q e st) (hf:(b=false∧F)→Y=r→awp P w0 n M0 W0 ro y Q e st)
  (hc:ZaT e true c:=by simp +decide only [go_sem,Nat.reduceAdd]) (hb:F→Zav e c = .val (.bool b):=by intro hs;first | (simp +decide only [go_sem,Nat.reduceAdd,hs];done) | (simp +decide only [go_sem,Nat.reduceAdd,hs];rfl)):awp P w0 n M0 W0 ro (.cond c x y) Q e st :=
 ZaQ b hc (hb f) (fun q=>ht ⟨q,f⟩ (Za9 h q)) (fun q=>hf ⟨q,f⟩ (Zba h q))
theorem td {B0 B bs X:List (List AV)} {Rw rows:List RowA} {L:List LoopA} {l:List (Nat × Nat × Own)} {c:Code} (hN:M0.N=B0.length) (hNR:M0.NR=Rw.length) (hNL:M0.NL=L.length) (hc:Calm B0.length Rw.length L.length ⟨B,Rw,L⟩) (ho:Owns Rw rows l)
  (h:awp P w0 n M0 W0 ro c Q e ⟨B++bs,rows,L⟩) (hB:B.length=B0.length:=by first | rfl | simp only [List.length_set])
  (hbs:∀ cs∈bs,∀ x∈cs,Under (B0.length+bs.length) rows.length L.length x:=by (simp +decide only [go_sem,Nat.reduceAdd])<;>(try (repeat' apply And.intro))<;>first | omega | assumption)
  (he:Zlc (B0.length+bs.length) rows.length L.length e:=by (simp +decide only [go_sem,Nat.reduceAdd,Zlc])<;>(try (repeat' apply And.intro))<;>first | omega | assumption):awp P w0 n M0 W0 ro c Q e ⟨B++(bs++X),rows,L⟩ :=
 ZaD hN hNR hNL hB hc ho hbs he h
end
section
variable {P:Program} {w0:World} {n:Nat} {M0:Mem} {W0:World} {ro:Option Nat} {e:Env} {st:St} {Q:AQ}
theorem Zto (t:TypeId) (hn:n≤1000000) {c:Code} (h:awp P w0 n M0 W0 ro c Q ((1000000+t,false,.junk)::e) st):awp P w0 n M0 W0 ro c Q e st :=
 Zk8 _ _ (fun M a w hr=>⟨M,.refl _ _ _,hr.st,hr.size,fun s x hs=>by
  simp only [ZfS] at hs
  by_cases q:1000000+t=s
  ·
   rw [if_pos q] at hs
   cases hs
   have h1:1000000≤s:=by rw [←q];exact Nat.le_add_right _ _
   simp only [entryOk,Bool.false_eq_true,if_false]
   rw [Array.getD_eq_getD_getElem?,Array.getElem?_eq_none (by rw [hr.size];omega)]
   rfl
  ·
   rw [if_neg q] at hs
   exact hr.env s x hs⟩) h
end
theorem rg {F p q:Prop} (L:List Nat) (f:F) (k:q) (h:Tg L→F→q→p:=by
  intro tL hs hq
  apply Zaa;intro K hK
  refine ZiE (c:=1) tg tL ?_
  rw [Zae];simp +decide only [go_sem,Nat.reduceAdd,hs]
  first | (refine hK _ _ ?_;exact hq) | ((repeat' apply And.intro)<;>first | (refine hK _ _ ?_;exact hq) | (clear hq;exact cl))):p:=h tg f k
theorem rc {F p q:Prop} (c:Nat) (L:List Nat) (f:F) (k:q) (h:Tg c→Tg L→F→q→p:=by
  intro tc tL hs hq
  apply Zaa;intro K hK
  refine ZiE tc tL ?_
  rw [Zae];simp +decide only [go_sem,Nat.reduceAdd,hs]
  first | (refine ZfX ?_;revert K;exact hq) | ((repeat' apply And.intro)<;>first | (refine ZfX ?_;revert K;exact hq) | (clear hq;exact cl))):p:=h tg tg f k
theorem nc {F p q:Prop} (f:F) (k:q) (h:F→q→p:=by
  intro hs hq
  rw [Zae];simp +decide only [go_sem,Nat.reduceAdd,hs]
  first | (refine ZfX ?_;exact hq) | ((repeat' apply And.intro)<;>first | (refine ZfX ?_;exact hq) | (clear hq;exact cl))):p:=h f k
theorem ne {F p q:Prop} (f:F) {K:Env→St→Prop} {A:Env→St→Prop} (hK:∀ e s,A e s→K e s) (k:q) (h:F→(∀ e s,A e s→K e s)→q→p:=by
  intro hs hK hq
  rw [Zae];simp +decide only [go_sem,Nat.reduceAdd,hs]
  first | (refine hK _ _ ?_;exact hq) | ((repeat' apply And.intro)<;>first | (refine hK _ _ ?_;exact hq) | (clear hq;exact cl))):p:=h f hK k
theorem dg {F p q:Prop} (m c1 c2:Nat) (L:List Nat) (f:F) {P:Program} (hm:P.follows .mixedOrders=true) (k:q) (h:Tg (m,c1,c2,L)→F→P.follows .mixedOrders=true→q→p:=by
  intro tt hs hm hq
  apply Zaa;intro K hK
  refine Zld tt hm (by kernel_rfl) ?_
  rw [Zae];simp +decide only [go_sem,Nat.reduceAdd,hs]
  (repeat' with_reducible apply And.intro)<;>first | (rw [Zae];simp +decide only [go_sem,Nat.reduceAdd,hs]) | (clear hq;exact cl)
  first | (refine hK _ _ ?_;exact hq) | ((repeat' apply And.intro)<;>first | (refine hK _ _ ?_;exact hq) | (clear hq;exact cl))):p:=h tg f hm k
theorem sk {F p q:Prop} (L:List Nat) (f:F) {A K:Env→St→Prop} (hK:∀ e s,A e s→K e s) (k:q) (h:Tg L→F→(∀ e s,A e s→K e s)→q→p:=by
  intro tL hs hK hq
  refine Ztd tL ?_
  apply Za4;simp +decide only [go_sem,Nat.reduceAdd]
  first | (refine hK _ _ ?_;exact hq) | ((repeat' apply And.intro)<;>first | (refine hK _ _ ?_;exact hq) | (clear hq;exact cl))):p:=h tg f hK k
theorem sx {F p q:Prop} (L:List Nat) (f:F) {A K:Env→St→Prop} (hK:∀ e s,A e s→K e s) (k:q) (h:Tg L→F→(∀ e s,A e s→K e s)→q→p:=by
  intro tL hs hK hq
  refine Ztd tL ?_
  apply Ziw;simp +decide only [go_sem,Nat.reduceAdd]
  first | (refine hK _ _ ?_;exact hq) | ((repeat' apply And.intro)<;>first | (refine hK _ _ ?_;exact hq) | (clear hq;exact cl))):p:=h tg f hK k
theorem rl {F p q:Prop} (L:List Nat) (f:F) {A K:Env→St→Prop} (hK:∀ e s,A e s→K e s) (k:q) (h:Tg L→F→(∀ e s,A e s→K e s)→q→p:=by
  intro tL hs hK hq
  refine ZiE (c:=1) tg tL ?_
  rw [Zae];simp +decide only [go_sem,Nat.reduceAdd,hs]
  first | (refine hK _ _ ?_;exact hq) | ((repeat' apply And.intro)<;>first | (refine hK _ _ ?_;exact hq) | (clear hq;exact cl))):p:=h tg f hK k
theorem rk {F p q:Prop} (c:Nat) (L:List Nat) (f:F) (k:q) (h:Tg c→Tg L→F→q→p:=by
  intro tc tL hs hq
  refine ZiE tc tL ?_
  rw [Zae];simp +decide only [go_sem,Nat.reduceAdd,hs]
  first | (refine ZfX ?_;exact hq) | ((repeat' apply And.intro)<;>first | (refine ZfX ?_;exact hq) | (clear hq;exact cl))):p:=h tg tg f k
theorem hd {P:Program} {w0:World} {f:FuncId} {fn:Func} {c:Code} {n:Nat} {args:List AV} {B:List (List AV)} {Rw:List RowA} {L:List LoopA} {Post:AV→St→Prop} (rs:List ResultVar) (hf:P.funcs[f]? = some fn) (hn:fn.ntmps=n)
  (k:∀ (M0:Mem) (W0:World),M0.N=B.length→M0.NR=Rw.length→M0.NL=L.length→Calm B.length Rw.length L.length ⟨B,Rw,L⟩→(∀ x∈args,Under B.length Rw.length L.length x)→Owns Rw Rw []→(0:Nat)=0 →
   awp P w0 n M0 W0 none c (ZzT P rs (finP ⟨B,Rw,L⟩ Post)) (Zaq 0 args) ⟨B,Rw,L⟩)
  (hb:fn.body=some c:=by rfl) (hrs:fn.results=rs.toArray:=by rfl) (hm:fn.name ≠ "runtime.NumGoroutine" := by decide) (ha:args.length≤n:=by exact Nat.le_of_ble_eq_true rfl):ACalls P w0 f args ⟨B,Rw,L⟩ Post :=
 ACalls.finP (ZcZ (rs:=rs) hf hb hrs hn (ZaJ hf (by rw [hb];rfl) hm) ha fun M0 W0 h1 h2 h3 h4 h5=>k M0 W0 h1 h2 h3 h4 h5 (Owns.none Rw) rfl)
theorem ix {α β:Type} {l:List α} {i:Int} {F:α→Option β} {r:β} (g:α→AV) (h:(idx l i).bind F=some r):∃ x,0≤i∧i<l.length∧(l.map g).getD i.toNat .junk=g x∧F x=some r:=by
 obtain ⟨x,hx,h⟩:=bind_some h
 obtain ⟨a,b,c⟩:=Zan hx
 exact ⟨x,a,b,Zap c,h⟩
abbrev Ck (e:Env) (st:St) (B:List (List AV)) (Rw:List RowA) (L:List LoopA) (e0:Env) (bs:List (List AV)) (ow:List (Nat × Nat × Own)) (c:Prop):Prop :=
 ∃ (X:List (List AV)) (rows:List RowA),e=e0∧st=⟨B++(bs++X),rows,L⟩∧Owns Rw rows ow∧c
end Go.Ev
namespace Go.Proofs.YtgpmlelfkjfbiaaGreatDoor
open Go Go.RowKit Go.Ev
structure Part where
 kind:Int
 index:Int
 name:ByteArray
structure Itm where
 v:Vl
 level:Int
structure Lim where
 name:ByteArray
 low:Int
 high:Int
 bounds:Bool
 scale:Bool
 text:Bool
 list:Bool
 fields:Bool
structure Sch where
 name:ByteArray
 version:Int
 type:Ty
def avL {α:Type} (f:α→AV) (l:List α):AV := .list (l.map f) .none
@[go_sem] theorem ZeX {α:Type} (f:α→AV) (l:List α):avL f l = .list (l.map f) .none:=rfl
@[go_sem] theorem ZCE {α:Type} (f:α→AV) (l:List α) (n:Nat):(l.map f).take n=(l.take n).map f:=List.map_take.symm
@[go_sem] theorem ZCI {α:Type} (f:α→AV) (l:List α) (n:Nat):(l.map f).drop n=(l.drop n).map f:=List.map_drop.symm
attribute [go_sem] List.length_map List.take_length
def avI (x:Int):AV := .val (.int .i64 x)
@[go_sem] theorem Ze5 (x:Int):avI x = .val (.int .i64 x):=rfl
@[go_sem] theorem ZBM (nb nr nl:Nat) (l:List (Int)):(∀ y∈l.map avI,Under nb nr nl y)↔True:=iff_true_intro fun y hy=>by
 obtain ⟨x,_,rfl⟩:=List.mem_map.1 hy
 exact .val _
def avB (x:Bool):AV := .val (.bool x)
@[go_sem] theorem ZeV (x:Bool):avB x = .val (.bool x):=rfl
def avS (x:ByteArray):AV := .val (.string x)
@[go_sem] theorem Ze4 (x:ByteArray):avS x = .val (.string x):=rfl
@[go_sem] theorem avS_ob (l:List (ByteArray)):(∀ y∈l.map avS,y.cells.length=1∧ZbS y=true)↔True:=iff_true_intro fun y hy=>by
 obtain ⟨x,_,rfl⟩:=List.mem_map.1 hy
 simp +decide only [go_sem]
@[go_sem] theorem ZBs (nb nr nl:Nat) (l:List (ByteArray)):(∀ y∈l.map avS,Under nb nr nl y)↔True:=iff_true_intro fun y hy=>by
 obtain ⟨x,_,rfl⟩:=List.mem_map.1 hy
 exact .val _
def avV (x:Vl):AV := .agg x.cs
@[go_sem] theorem ZeU (x:Vl):avV x = .agg x.cs:=rfl
@[go_sem] theorem ZBu (l:List (Vl)):(∀ y∈l.map avV,y.cells.length=6)↔True:=iff_true_intro fun y hy=>by
 obtain ⟨x,_,rfl⟩:=List.mem_map.1 hy
 simp +decide only [go_sem]
@[go_sem] theorem ZBB (nb nr nl:Nat) (l:List (Vl)):(∀ y∈l.map avV,Under nb nr nl y)↔True:=iff_true_intro fun y hy=>by
 obtain ⟨x,_,rfl⟩:=List.mem_map.1 hy
 exact .agg (x.under _ _ _)
def avT (x:Ty):AV := .agg x.cs
@[go_sem] theorem Ze2 (x:Ty):avT x = .agg x.cs:=rfl
@[go_sem] theorem ZBU (l:List (Ty)):(∀ y∈l.map avT,y.cells.length=7)↔True:=iff_true_intro fun y hy=>by
 obtain ⟨x,_,rfl⟩:=List.mem_map.1 hy
 simp +decide only [go_sem]
@[go_sem] theorem ZBj (nb nr nl:Nat) (l:List (Ty)):(∀ y∈l.map avT,Under nb nr nl y)↔True:=iff_true_intro fun y hy=>by
 obtain ⟨x,_,rfl⟩:=List.mem_map.1 hy
 exact .agg (x.under _ _ _)
def avF (x:ByteArray × Vl):AV := .agg (.val (.string x.1)::x.2.cs)
@[go_sem] theorem Zeu (x:ByteArray × Vl):avF x = .agg (.val (.string x.1)::x.2.cs):=rfl
@[go_sem] theorem ZBY (l:List (ByteArray × Vl)):(∀ y∈l.map avF,y.cells.length=7)↔True:=iff_true_intro fun y hy=>by
 obtain ⟨x,_,rfl⟩:=List.mem_map.1 hy
 simp +decide only [go_sem]
@[go_sem] theorem avF_ob (l:List (ByteArray × Vl)):(∀ y∈l.map avF,y.cells.length=7∧ZbS y=true)↔True:=iff_true_intro fun y hy=>by
 obtain ⟨x,_,rfl⟩:=List.mem_map.1 hy
 simp +decide only [go_sem]
@[go_sem] theorem ZvQ (nb nr nl:Nat) (l:List (ByteArray × Vl)):(∀ y∈l.map avF,Under nb nr nl y)↔True:=iff_true_intro fun y hy=>by
 obtain ⟨x,_,rfl⟩:=List.mem_map.1 hy
 exact Zkx nb nr nl [x] _ (by simp [Zkt,avF])
@[go_sem] theorem ZAe (l:List (ByteArray × Vl)):(l.map avF).map AV.pub=l.map avF:=by
 rw [List.map_map]
 refine List.map_congr_left fun x _=>?_
 simp +decide only [Function.comp,go_sem]
def ZeF (x:Int × ByteArray × Int × Ty × List Vl):AV := .agg (.val (.int .i64 x.1) :: .val (.string x.2.1) :: .val (.int .i64 x.2.2.1)::(x.2.2.2.1.cs++[.list (x.2.2.2.2.map avV) .none]))
@[go_sem] theorem Zdc (x:Int × ByteArray × Int × Ty × List Vl):ZeF x = .agg (.val (.int .i64 x.1) :: .val (.string x.2.1) :: .val (.int .i64 x.2.2.1)::(x.2.2.2.1.cs++[.list (x.2.2.2.2.map avV) .none])):=rfl
@[go_sem] theorem ZAV (l:List (Int × ByteArray × Int × Ty × List Vl)):(∀ y∈l.map ZeF,y.cells.length=11)↔True:=iff_true_intro fun y hy=>by
 obtain ⟨x,_,rfl⟩:=List.mem_map.1 hy
 simp +decide only [go_sem]
@[go_sem] theorem ZAZ (nb nr nl:Nat) (l:List (Int × ByteArray × Int × Ty × List Vl)):(∀ y∈l.map ZeF,Under nb nr nl y)↔True:=iff_true_intro fun y hy=>by
 obtain ⟨x,_,rfl⟩:=List.mem_map.1 hy
 exact Zjh nb nr nl [x] _ (by simp [Zjj,ZeF,Zf5];intros;rfl)
def ZDl (x:Sch):AV := .agg (.val (.string x.name) :: .val (.int .i64 x.version)::x.type.cs)
@[go_sem] theorem Zb9 (x:Sch):ZDl x = .agg (.val (.string x.name) :: .val (.int .i64 x.version)::x.type.cs):=rfl
def ZDp (x:Itm):AV := .agg (x.v.cs++[.val (.int .i64 x.level)])
@[go_sem] theorem Zcc (x:Itm):ZDp x = .agg (x.v.cs++[.val (.int .i64 x.level)]):=rfl
def ZCr (x:Lim):AV := .agg [.val (.string x.name),.val (.int .i64 x.low),.val (.int .i64 x.high),.val (.bool x.bounds),.val (.bool x.scale),.val (.bool x.text),.val (.bool x.list),.val (.bool x.fields)]
@[go_sem] theorem Zc1 (x:Lim):ZCr x = .agg [.val (.string x.name),.val (.int .i64 x.low),.val (.int .i64 x.high),.val (.bool x.bounds),.val (.bool x.scale),.val (.bool x.text),.val (.bool x.list),.val (.bool x.fields)]:=rfl
def ZnQ (x:ByteArray × Int):AV := .agg [.val (.string x.1),.val (.int .i64 x.2)]
@[go_sem] theorem Zc8 (x:ByteArray × Int):ZnQ x = .agg [.val (.string x.1),.val (.int .i64 x.2)]:=rfl
@[go_sem] theorem ZAs (l:List (ByteArray × Int)):(∀ y∈l.map ZnQ,y.cells.length=2)↔True:=iff_true_intro fun y hy=>by
 obtain ⟨x,_,rfl⟩:=List.mem_map.1 hy
 simp +decide only [go_sem]
@[go_sem] theorem ZA4 (nb nr nl:Nat) (l:List (ByteArray × Int)):(∀ y∈l.map ZnQ,Under nb nr nl y)↔True:=iff_true_intro fun y hy=>by
 obtain ⟨x,_,rfl⟩:=List.mem_map.1 hy
 simp +decide only [go_sem];try intro z hz;simp_all [Vl.under,Ty.under]
def avPr (x:Ty × Ty):AV := .agg (x.1.cs++x.2.cs)
@[go_sem] theorem Zc7 (x:Ty × Ty):avPr x = .agg (x.1.cs++x.2.cs):=rfl
def avPt (x:Part):AV := .agg [.val (.int .i64 x.kind),.val (.int .i64 x.index),.val (.string x.name)]
@[go_sem] theorem Zc0 (x:Part):avPt x = .agg [.val (.int .i64 x.kind),.val (.int .i64 x.index),.val (.string x.name)]:=rfl
theorem Ztj (x:ByteArray × Vl):(avF x).pub=avF x:=by
 have:=ZAe [x]
 simpa using this
theorem ZmN (l:List (ByteArray × Vl)) (nb nr nl:Nat):∀ y∈l.flatMap fun x=>(avF x).cells,Under nb nr nl y:=fun y hy=>by
 obtain ⟨x,hx,hc⟩:=List.mem_flatMap.1 hy
 have h:Under nb nr nl (avF x):=(ZvQ nb nr nl [x]).2 trivial _ (List.mem_singleton.2 rfl)
 cases h with
 | agg h=>exact h y hc
@[go_sem] theorem Zpv (l:List Vl):ZgE l=l.map avV:=Zf5 l
@[go_sem] theorem Zts (l:List Ty):ZnW l=l.map avT:=ZqC l
@[go_sem] theorem Zs0 (l:List (ByteArray × Vl)):Zkt l=l.map avF:=ZkT l
@[go_sem] theorem Zq2 (l:List (Int × ByteArray × Int × Ty × List Vl)):Zjj l=l.map ZeF:=by
 rw [ZoI]
 refine List.map_congr_left fun x _=>?_
 rw [Zpv];rfl
@[go_sem] theorem Zxy (l:List ByteArray):(l.map fun x=>AV.val (.string x))=l.map avS:=rfl
@[go_sem] theorem Vl.under_mem (nb nr nl:Nat) (v:Vl):(∀ x∈v.cs,Under nb nr nl x)↔True:=iff_true_intro (v.under nb nr nl)
@[go_sem] theorem Ty.under_mem (nb nr nl:Nat) (v:Ty):(∀ x∈v.cs,Under nb nr nl x)↔True:=iff_true_intro (v.under nb nr nl)
@[go_sem] theorem ZzC {α:Type} (p:α→Prop) (l m:List α):(∀ x∈l++m,p x)↔(∀ x∈l,p x)∧∀ x∈m,p x:=List.forall_mem_append
theorem rt {α:Type} {x r:α} {F G C p:Prop} (h:some x=some r) (f:F) (hcalm:C) (hO:G) (k:some x=some r→F→C→G→p:=by
  intro h hs hcalm hO
  apply ZaO;simp +decide only [go_sem,Nat.reduceAdd,hs]
  have hgt:=Option.some.inj h;subst hgt
  first | refine Zc2 hcalm rfl hO.pre (by simp +decide only [go_sem,Nat.reduceAdd]) ⟨?_,?_⟩ | refine Zfz hcalm rfl hO.pre (by simp +decide only [go_sem,Nat.reduceAdd]) ⟨?_,?_⟩
  all_goals first | rfl | (simp +decide only [go_sem,Nat.reduceAdd,hs];done) | (simp +decide only [go_sem,Nat.reduceAdd,Vl.cs,Ty.cs,hs];done)):p:=k h f hcalm hO
theorem hv {p F:Prop} (f:F) (h:F→p:=by intro hs;first | rfl | (simp +decide only [go_sem,Nat.reduceAdd,hs];done) | (simp +decide only [go_sem,Nat.reduceAdd,Vl.cs,Ty.cs,hs];done)):p:=h f
theorem Ty.cs_eqs (t:Ty):t.cs=[.val (.int .i64 t.kind),.val (.int .i64 t.min),.val (.int .i64 t.max),.val (.int .i64 t.scale),.list (t.words.map avS) .none,.list (t.elem.map avT) .none,.list (t.fields.map ZeF) .none]:=by
 cases t;rw [Ty.cs,Zts,Zq2];rfl
theorem Vl.cs_eqs (v:Vl):v.cs=[.val (.int .i64 v.kind),.val (.int .i64 v.int),.val (.int .i64 v.scale),.val (.string v.text),.list (v.list.map avV) .none,.list (v.fields.map avF) .none]:=by
 rw [v.cs_eq,Zpv,Zs0]
theorem ZoQ (w0:World) (B:List (List AV)) (Rw:List RowA) (L:List LoopA) (hT:Lib.Utf8Tabs 0 1 w0) (s:ByteArray) (hs:s.size≤maxLen) :
  ACalls Tryz.prog w0 115 [.val (.string s)] ⟨B,Rw,L⟩ fun v s'=>v = .val (.bool (Lib.validD s.data.toList))∧s'=⟨B,Rw,L⟩:=ZuP w0 _ hT s hs
theorem Zjd (w0:World) (B:List (List AV)) (Rw:List RowA) (L:List LoopA) (a b:ByteArray) :
  ACalls Tryz.prog w0 141 [.val (.string a),.val (.string b)] ⟨B,Rw,L⟩ fun v s'=>v = .val (.int .i64 (Zg9 a b))∧s'=⟨B,Rw,L⟩:=Zsg w0 _ a b
attribute [go_sem] Zpj Zmh ZiO Nat.mul_one Nat.zero_add Nat.add_zero Option.isSome_some List.getElem?_cons_zero List.getElem?_cons_succ
abbrev ALp:Prop:=(∀ (α:Type) (l m:List α),List.append l m=l++m)∧(∀ (α:Type) (a:α) (l m:List α),(a::l)++m=a::(l++m))∧∀ (α:Type) (l:List α),[]++l=l
theorem al {F:Prop} (h:F):ALp∧F:=⟨⟨fun _ _ _=>rfl,fun _ _ _ _=>rfl,fun _ _=>rfl⟩,h⟩
theorem Vl.cs_mks (k i s:Int) (t:ByteArray) (l:List Vl) (f:List (ByteArray × Vl)):(Vl.mk k i s t l f).cs=[.val (.int .i64 k),.val (.int .i64 i),.val (.int .i64 s),.val (.string t),.list (l.map avV) .none,.list (f.map avF) .none]:=Vl.cs_eqs _
theorem Ty.cs_mks (a b c d:Int) (w:List ByteArray) (e:List Ty) (f:List (Int × ByteArray × Int × Ty × List Vl)):(Ty.mk a b c d w e f).cs=[.val (.int .i64 a),.val (.int .i64 b),.val (.int .i64 c),.val (.int .i64 d),.list (w.map avS) .none,.list (e.map avT) .none,.list (f.map ZeF) .none]:=Ty.cs_eqs _
theorem cm {F:Prop} (h:F):((∀ k i s t l f,(Vl.mk k i s t l f).cs=[.val (.int .i64 k),.val (.int .i64 i),.val (.int .i64 s),.val (.string t),.list (l.map avV) .none,.list (f.map avF) .none])∧∀ a b c d w e f,(Ty.mk a b c d w e f).cs=[.val (.int .i64 a),.val (.int .i64 b),.val (.int .i64 c),.val (.int .i64 d),.list (w.map avS) .none,.list (e.map avT) .none,.list (f.map ZeF) .none])∧F:=⟨⟨Vl.cs_mks,Ty.cs_mks⟩,h⟩
theorem le_ {p:Prop} (h:p:=by first | rfl | simp only [List.length_append,List.length_cons,List.length_nil,List.length_map,Nat.zero_add,Nat.add_zero]):p:=h
theorem ls_ {p:Prop} (h:p:=by simp only [List.length_set]):p:=h
theorem kr {p:Prop} (h:p:=by kernel_rfl):p:=h
theorem px {p:Prop} (h:p:=by first | exact List.prefix_append _ _ | exact List.prefix_refl _):p:=h
theorem ap_ {p:Prop} (h:p:=by simp only [List.append_assoc,List.cons_append,List.nil_append]):p:=h
theorem nq {p:Prop} (h:p:=by first | assumption | omega | (simp only [List.length_set] at *; omega)):p:=h
theorem fn_ {p:Prop} (h:p:=by first | rfl | simp only [List.flatMap_nil]):p:=h
theorem vu {p V:Prop} (v:V) (h:V→p:=by intro v;simp only [List.mem_cons,List.not_mem_nil,or_false,forall_eq_or_imp,forall_eq];exact v _ _ _ _):p:=h v
theorem owf {p V:Prop} {Rw rows:List RowA} {l:List (Nat × Nat × Ev.Own)} {ho:Ev.Own} {v:List VE} (u:V) (hO:Owns Rw rows l ho v) (h:V→Rw.length≤rows.length→p:=by
  intro u hl
  (simp +decide only [go_sem,Nat.reduceAdd,Zlc])<;>(try (repeat' apply And.intro))<;>first | omega | assumption | exact u _ _ _ (by omega) (by omega) (by omega)):p:=h u hO.len
theorem ln {p:Prop} {Rw rows Rw' rows':List RowA} {l l':List (Nat × Nat × Ev.Own)} {ho ho':Ev.Own} {v v':List VE} (h1:Owns Rw rows l ho v) (h2:Owns Rw' rows' l' ho' v') (h:Rw.length≤rows.length→Rw'.length≤rows'.length→p:=by intro _ _;first | exact Nat.le_refl _ | omega):p:=h h1.len h2.len
theorem dl {F p q:Prop} (m c1 c2:Nat) (L:List Nat) (f:F) {P:Program} (hm:P.follows .mixedOrders=true) {A K:Env→St→Prop} (hK:∀ e s,A e s→K e s) (k:q) (h:Tg (m,c1,c2,L)→F→P.follows .mixedOrders=true→(∀ e s,A e s→K e s)→q→p:=by
  intro tt hs hm hK hq
  refine Zld tt hm (by kernel_rfl) ?_
  rw [Zae];simp +decide only [go_sem,Nat.reduceAdd,hs]
  (repeat' with_reducible apply And.intro)<;>first | (rw [Zae];simp +decide only [go_sem,Nat.reduceAdd,hs]) | (clear hq;exact cl)
  first | (refine hK _ _ ?_;exact hq) | ((repeat' apply And.intro)<;>first | (refine hK _ _ ?_;exact hq) | (clear hq;exact cl))):p:=h tg f hm hK k
theorem dk {F p q:Prop} (m c1 c2:Nat) (L:List Nat) (f:F) {P:Program} (hm:P.follows .mixedOrders=true) (k:q) (h:Tg (m,c1,c2,L)→F→P.follows .mixedOrders=true→q→p:=by
  intro tt hs hm hq
  refine Zld tt hm (by kernel_rfl) ?_
  rw [Zae];simp +decide only [go_sem,Nat.reduceAdd,hs]
  first | (refine ZfX ?_;exact hq) | ((repeat' apply And.intro)<;>first | (refine ZfX ?_;exact hq) | (clear hq;exact cl))):p:=h tg f hm k
theorem dj {F p q:Prop} (m c1 c2:Nat) (L:List Nat) (f:F) {P:Program} (hm:P.follows .mixedOrders=true) (k:q) (h:Tg (m,c1,c2,L)→F→P.follows .mixedOrders=true→q→p:=by
  intro tt hs hm hq
  refine Zld tt hm (by kernel_rfl) ?_
  rw [Zae];simp +decide only [go_sem,Nat.reduceAdd,hs]
  (repeat' with_reducible apply And.intro)<;>first | (rw [Zae];simp +decide only [go_sem,Nat.reduceAdd,hs]) | (clear hq;exact cl)
  first | (refine ZfX ?_;exact hq) | ((repeat' apply And.intro)<;>first | (refine ZfX ?_;exact hq) | (clear hq;exact cl))):p:=h tg f hm k
theorem dn {F p q:Prop} (f:F) {A K:Env→St→Prop} (hK:∀ e s,A e s→K e s) (k:q) (h:F→(∀ e s,A e s→K e s)→q→p:=by
  intro hs hK hq
  rw [Zae];simp +decide only [go_sem,Nat.reduceAdd,hs]
  (repeat' with_reducible apply And.intro)<;>first | (rw [Zae];simp +decide only [go_sem,Nat.reduceAdd,hs]) | (clear hq;exact cl)
  first | (refine hK _ _ ?_;exact hq) | ((repeat' apply And.intro)<;>first | (refine hK _ _ ?_;exact hq) | (clear hq;exact cl))):p:=h f hK k
theorem rT {α:Type} {x r:α} {F G C p:Prop} (h:x=r) (f:F) (hcalm:C) (hO:G) (k:x=r→F→C→G→p:=by
  intro h hs hcalm hO
  apply ZaO;simp +decide only [go_sem,Nat.reduceAdd,hs]
  subst h
  first | refine Zc2 hcalm rfl hO.pre (by simp +decide only [go_sem,Nat.reduceAdd]) ⟨?_,rfl⟩ | refine Zfz hcalm rfl hO.pre (by simp +decide only [go_sem,Nat.reduceAdd]) ⟨?_,rfl⟩
  first | rfl | (simp +decide only [go_sem,Nat.reduceAdd,hs];done) | (simp +decide only [go_sem,Nat.reduceAdd,Vl.cs,Ty.cs,hs];done)):p:=k h f hcalm hO
end Go.Proofs.YtgpmlelfkjfbiaaGreatDoor
namespace Go.Ev
open Go Go.RowKit Go.Shelf
section
variable {P:Program} {w0:World} {st:St}
theorem Zs6 {M:Mem} {w w':World} {e:TypeId} {sz:Nat} {v':Value} {n:Nat} {us:Nat→Value} {xs:List AV} (hst:RelSt w0 M st w) (hb:Below w.heap.size w w') (ho:w'.ownsRow w.heap.size e sz v' n (flat us n)) (hn:xs.length=n)
  (hus:∀ i,i<n→(us i).cells.size=sz) (hR:∀ i (hi:i<xs.length),R w0 M w (us i) xs[i]):∃ M',Ext w0 M w M' w'∧RelSt w0 M' st w'∧R w0 M' w' v' (.list xs .none):=by
 subst hn
 obtain ⟨h1,h2⟩:=ho
 rcases h2 with ⟨rfl,h0⟩ | ⟨g,cap,cur,rfl,hg,hcur,hc1,hc2,hc3,hc4⟩
 ·
  obtain ⟨r1,r2⟩:=hst.later hb w.heap.size 0 (Nat.le_refl _) (.inr rfl)
  have:xs=[]:=List.length_eq_zero_iff.1 h0
  subst this
  exact ⟨_,r2,r1,.nil (fun id=>by simp)⟩
 ·
  obtain ⟨r1,r2⟩:=hst.later hb g (xs.length*sz) hg (.inl (Array.getElem?_eq_some_iff.1 hcur).1)
  refine ⟨_,r2,r1,.list sz us hc1 hc2 (fun i hi=>⟨hus i hi,fun j hj=>?_⟩) (fun i hi=>(hR i hi).mono r2) trivial⟩
  have a:i*sz+j<xs.length*sz:=by
   have:(i+1)*sz≤xs.length*sz:=Nat.mul_le_mul_right _ hi
   rw [Nat.succ_mul] at this;omega
  refine ⟨.inr (by simp only [Mem.newTop,if_true,Nat.zero_add];exact a),?_⟩
  have hf:=Zhn hus i hi j hj
  rw [←hf,←hc4,List.getElem?_take_of_lt a,Array.getElem?_toList]
  simp [World.cell?,hcur]
theorem ZtN {ρ:Ren} (L:Go.Proofs.SlLaysE0.n41 P ρ) (i0:TypeInfo) (z:Value) (size bytes:Nat) (hi:P.info? (ρ.t 23)=some i0) (hz0:i0.zero=some z) (hz1:i0.size=size) (hz2:i0.bytes=bytes) (hzs:z.cells.size=size) (hsz:0<size)
  (z23:∀ w,(Go.sizeOf (ρ.t 23)).run P w = .ok size w) (a:Addr) (c:Nat) (w:World) :
  Calls P (ρ.f 41) #[.slice (some a) 0 c] w fun e w'=>∃ v',e = .returned v'∧w'.ownsRow w.heap.size (ρ.t 23) size v' 0 []∧Below w.heap.size w w':=by
 have h:=L.mixed;have t4:=L.t4;have a4:=L.a4;have z4:=L.z4;have v4:=L.v4;have d:=L.t22;have m:=L.a22;have l:=L.z22;have q:=L.v22
 have o:∀ (w:World) (a:Option Addr) (n c n' c':Nat),(binOp .eql (ρ.t 22) (.slice a n c) (.slice none n' c')).run P w = .ok (.bool a.isNone) w:=fun w a n c n' c'=>Lib.run_eql_slice_nil w _ _ a n c n' c' L.t22
 have p:∀ w,Sem.run P (underlying (ρ.t 22)) w = .ok (TypeDesc.slice (ρ.t 23)) w:=run_underlying d
 obtain ⟨_,_,FG⟩:=L.f41
 go_enter FG,Go.Proofs.SlBodyN.n41_ntmps ρ
 go_wp2_with (at_builtin;refine wpList_append_own _ rfl _ _ (ρ.t 22) rfl w.heap.size (ρ.t 23) i0 z size bytes d hi hz0 hz1 hz2 hzs hsz _ _ _ rfl (World.ownsRow_made w #[] 0 (Nat.le_refl _) (Nat.zero_le _) (by simp)) a 0 c [] rfl (by simp) (by intro j u hj;simp at hj) (by intro u hu;cases hu) (by unfold maxLen;omega) (by omega) (by simp) ?_)
 intro v' w1 g b i
 go_wp2
 go_ret
 exact ⟨v',rfl,by simpa using g,((Below.refl _ w).alloc (Nat.le_refl _) _).grown b (by simp) (by intro k hk;simp [Value.ownBlock] at hk;omega)⟩
theorem Zt7 {ρ:Ren} (L:Go.Proofs.SlLaysE0.n41 P ρ) (hen:ZiW P (ρ.f 41)) (i0:TypeInfo) (z:Value) (size bytes:Nat) (hi:P.info? (ρ.t 23)=some i0) (hz0:i0.zero=some z) (hz1:i0.size=size) (hz2:i0.bytes=bytes) (hzs:z.cells.size=size) (hsz:0<size)
  (z23:∀ w,(Go.sizeOf (ρ.t 23)).run P w = .ok size w) {xs:List AV} {o:Own} (hx:∀ y∈xs,y.cells.length=size) (h1:∀ y∈xs,ZbS y=true) (hbig:xs.length*bytes≤140737488355328) :
  ACalls P w0 (ρ.f 41) [.list xs o] st fun r s=>r = .list xs .none∧s=st:=by
 refine ⟨hen,fun M w p m h=>?_⟩
 obtain ⟨v,rfl⟩:∃ v,p = #[v]:=by
  have:=h.1
  simp only [List.length_cons,List.length_nil] at this
  exact Array.size_eq_one_iff.1 this
 have hv:R w0 M w v (.list xs o):=h.2 0 (by simp) (by simp)
 cases hv with
 | nil ho =>
  refine (Go.Proofs.AnyE.slices_Clone_nil L 0 0 w).mono ?_
  rintro en w' ⟨rfl,rfl⟩
  exact ⟨_,M,_,st,rfl,⟨rfl,rfl⟩,.refl _ _ _,m,.nil (fun id=>by simp)⟩
 | @emp ad _ ho =>
  refine (ZtN L i0 z size bytes hi hz0 hz1 hz2 hzs hsz z23 ad 0 w).mono ?_
  rintro en w' ⟨v',rfl,a,c⟩
  obtain ⟨M',x1,x2,x3⟩:=Zs6 (xs:=[]) (us:=fun _=>undef) m c a rfl (fun i hi=>absurd hi (by omega)) (fun i hi=>absurd hi (by simp))
  exact ⟨v',M',_,st,rfl,⟨rfl,rfl⟩,x1,x2,x3⟩
 | @list b off cap _ _ sz us hc hm hcell hu ho =>
  have g:∀ i,i<xs.length→(us i).cells.size=size:=fun i hi=>by
   rw [((hu i hi).cells).1];exact hx _ (List.getElem_mem _)
  have d:∀ i,i<xs.length→∀ j,j<size→w.cell? ⟨b,off+i*size+j,none⟩=(us i).cells[j]? := fun i hi j hj=>by
   have e:sz=size:=((hcell i hi).1).symm.trans (g i hi)
   subst e
   exact ((hcell i hi).2 j hj).2
  refine (Go.Proofs.AnyE.slices_Clone L i0 z size bytes hi hz0 hz1 hz2 hzs hsz z23 b off xs.length cap (flat us xs.length) w (ZaA g) (Nat.le_trans hc hm) hbig (fun j u hj=>?_) (fun u ab=>?_)).mono ?_
  ·
   have:=Zer g hsz d j u hj
   rwa [ZdD] at this
  ·
   obtain ⟨i,x,ae⟩:=List.mem_flatMap.1 ab
   have l:i<xs.length:=by simpa using x
   obtain ⟨k,hk,rfl⟩:=List.mem_iff_getElem.1 ae
   have n:=(hu i l).cells
   have q:k<(us i).cells.size:=by simpa using hk
   have:=n.2 k q (by rw [←n.1];exact q)
   rw [Array.getElem_toList]
   refine this.oneCell ((hu i l).cellsOne (fun vs aa=>?_) _ (List.getElem_mem _))
   have:=h1 _ (List.getElem_mem l)
   rw [aa] at this;cases this
  ·
   rintro en w' ⟨v',rfl,a,_,c⟩
   obtain ⟨M',x1,x2,x3⟩:=Zs6 m c a rfl g hu
   exact ⟨v',M',_,st,rfl,⟨rfl,rfl⟩,x1,x2,x3⟩
def ZwO (P:Program) (t:TypeId) (size bytes:Nat):Bool :=
 match P.info? t with
 | some i=>(i.size == size)&&(i.bytes == bytes)&&(match i.zero with | some z=>z.cells.size == size | none=>false)
 | none=>false
theorem ZoR {t:TypeId} {size bytes:Nat} (h:ZwO P t size bytes=true):∃ i0 z,P.info? t=some i0∧i0.zero=some z∧i0.size=size∧i0.bytes=bytes∧z.cells.size=size:=by
 unfold ZwO at h
 cases hi:P.info? t with
 | none=>simp [hi] at h
 | some i =>
  simp only [hi,Bool.and_eq_true,beq_iff_eq] at h
  cases hz:i.zero with
  | none=>simp [hz] at h
  | some z =>
   simp only [hz,beq_iff_eq] at h
   exact ⟨i,z,rfl,hz,h.1.1,h.1.2,h.2⟩
theorem Zr7 {ρ:Ren} (L:Go.Proofs.SlLaysE0.n41 P ρ) (hen:ZiW P (ρ.f 41)) (size bytes:Nat) (hi:ZwO P (ρ.t 23) size bytes=true) (hsz:0<size) (z23:∀ w,(Go.sizeOf (ρ.t 23)).run P w = .ok size w) {xs:List AV} {o:Own}
  (hx:∀ y∈xs,y.cells.length=size∧ZbS y=true) (hbig:xs.length*bytes≤140737488355328):ACalls P w0 (ρ.f 41) [.list xs o] st fun r s=>r = .list xs .none∧s=st:=by
 obtain ⟨i0,z,a1,a2,a3,a4,a5⟩:=ZoR hi
 exact Zt7 L hen i0 z size bytes a1 a2 a3 a4 a5 hsz z23 (fun y hy=>(hx y hy).1) (fun y hy=>(hx y hy).2) hbig
end
theorem Owns.len1 {Rw rows:List RowA} {o ho:Own} {sz n m:Nat} (h:Owns Rw rows [(sz,n,o)] ho) (e:n=m):Owns Rw rows [(sz,m,o)] ho:=e▸h
theorem Zcj {B:List (List AV)} {l i:Nat} {cs:List AV} (h:B[l]? = some cs) (hne:i≠l) :
  (∀ X R L o c,Zds ⟨B.set i c++X,R,L⟩ (.box l o)=true)∧(∀ R L o c,Zds ⟨B.set i c,R,L⟩ (.box l o)=true)∧(∀ X R L o c,Za7 ⟨B.set i c++X,R,L⟩ (.box l o)=cs)∧(∀ R L o c,Za7 ⟨B.set i c,R,L⟩ (.box l o)=cs) ∧
  (∀ X c,(B.set i c++X)[l]? = some cs)∧(∀ c,(B.set i c)[l]? = some cs)∧(∀ X c,(B.set i c++X).getD l []=cs)∧(∀ c,(B.set i c).getD l []=cs):=by
 have a:∀ c,(B.set i c)[l]? = some cs:=fun c=>by rw [List.getElem?_set_ne hne];exact h
 refine ⟨fun X R L o c=>(Zag (a c)).1 X R L o,fun R L o c=>(Zag (a c)).2.1 R L o,fun X R L o c=>(Zag (a c)).2.2.1 X R L o,fun R L o c=>(Zag (a c)).2.2.2.1 R L o,fun X c=>(Zag (a c)).2.2.2.2.1 X,a,
  fun X c=>(Zag (a c)).2.2.2.2.2.2.1 X,fun c=>(Zag (a c)).2.2.2.2.2.2.2.1⟩
theorem ZjM {P:Program} {w0:World} {n:Nat} {M0:Mem} {W0:World} {ro:Option Nat} {Q:AQ} {e:Env} {st:St} (hm:P.follows .mixedOrders=true) (ef:List Nat) (L:List Nat) {id:Nat} {l:List Oper} (hB:Zrw l ef=true) (F:St→Prop) (k nb:Nat) {e1:Env} (hnb:st.boxes.length=nb)
  (hF:∀ s,F s→∃ c,evK P w0 n true l (fun e' s'=>e'=e1∧s'=s) c (Zef ef 0 l) e s) (hG:Good P w0 n l ef F (fun ev s=>∃ e2 s2,Conv w0 n nb ev s e2 s2∧Q .normal (Zdg L e2) s2) k [] e1 st):awp P w0 n M0 W0 ro (.region id l.toArray true) Q e st:=by
 intro m M a w hr
 obtain ⟨d1,d2⟩:=hr.rel.st.drew
 refine wpIn_region_any hm (ZrG (e:=e) (e1:=e1) (M1:=M) (w1:=w) (ds:=a.defers) hB hF (fun ev s M' a' w' hc b hx hd=>?_) _ _ a _ M k [] e1 st ?_ hG ?_)
 ·
  obtain ⟨e2,s2,hc,hQ⟩:=hc
  obtain ⟨M2,x2,r2⟩:=hc M' a' w' b
  have x3:=x2 M w (hr.rel.st.N.trans hnb) hx
  refine ⟨M2,_,_,⟨r2.sub (ZaW L _),hr.ext.trans x3,?_⟩,hQ⟩
  rw [hd]
  exact hr.marks.later x3 hr.rel.st
 ·
  simp
 ·
  have hnl:∀ j,(Array.replicate l.toArray.size false).getD j false=false:=fun j=>by
   by_cases c:j<l.length
   ·
    simp [Array.getD_eq_getD_getElem?,c]
   ·
    simp [Array.getD_eq_getD_getElem?,c]
  exact ⟨by simp,fun j _ _ hl=>(by rw [hnl] at hl;cases hl),fun i _=>(by rw [hnl];simp),fun _ h=>(nomatch h),d1,hr.rel.size,rfl,d2,fun _ _=>rfl,fun _ _ ⟨_,h,_⟩=>(nomatch h),
   fun _ _ _ ⟨i,_,_,_,_,h⟩=>(by rw [hnl] at h;cases h),fun t x _ hs=>(hr.rel.env t x hs).mono d2⟩
theorem ZnB {P:Program} {w0:World} {f:FuncId} {args args' cs:List AV} {st s':St} {v:AV} (h:ACalls P w0 f args' st fun r s=>r=v∧s=s') (he:(args++cs).map AV.pubA=args'):Zl1 P w0 (.clo f cs) args st fun r t=>r=v∧t=s':=h.pub he
end Go.Ev
namespace Go.Proofs.YtgpmlelfkjfbiaaGreatDoor
open Go Go.RowKit Go.Ev
def ZgZ:Go.Shelf.Ren:=⟨fun | 41=>106 | n=>n,fun | 22=>22 | 23=>9 | 4=>4 | n=>n,fun | n=>n⟩
theorem Zj3:Go.Proofs.SlLaysE0.n41 Tryz.prog ZgZ:={
 mixed:=by kernel_rfl
 f41:=⟨Tryz.f106.name,by decide,Tryz.func106.trans (congrArg some (by kernel_rfl))⟩
 t4:=Tryz.underlying4
 a4:=Tryz.isAgg4
 z4:=Tryz.sizeOf4
 v4:=Tryz.zeroValue4
 t22:=Tryz.underlying22
 a22:=Tryz.isAgg22
 z22:=Tryz.sizeOf22
 v22:=Tryz.zeroValue22 }
theorem ZkC (w0:World) (B:List (List AV)) (Rw:List RowA) (L:List LoopA) (l:List ByteArray) (h:l.length*16≤140737488355328) :
  ACalls Tryz.prog w0 106 [.list (l.map avS) .none] ⟨B,Rw,L⟩ fun r s=>r = .list (l.map avS) .none∧s=⟨B,Rw,L⟩ :=
 Zr7 (ρ:=ZgZ) Zj3 (ZaJ Tryz.func106 rfl (by decide)) 1 16 (by kernel_rfl) (by decide) Tryz.sizeOf9 (by simp +decide only [go_sem]) (by rw [List.length_map];exact h)
end Go.Proofs.YtgpmlelfkjfbiaaGreatDoor
namespace Go.Ev
open Go Go.RowKit Go.Shelf Go.Sort Go.Proofs
theorem ZmW {α β:Type} {f:α→List β} {sz:Nat}:∀ {xs:List α},(∀ x∈xs,(f x).length=sz)→(xs.flatMap f).length=xs.length*sz
 | [],_=>by simp
 | x::xs,h=>by
  rw [List.flatMap_cons,List.length_append,h x (List.mem_cons_self ..),ZmW (fun y hy=>h y (List.mem_cons_of_mem _ hy)),List.length_cons,Nat.succ_mul,Nat.add_comm]
theorem ZpY {α β:Type} {f:α→List β} {sz:Nat}:∀ {xs:List α},(∀ x∈xs,(f x).length=sz)→∀ (i:Nat) (hi:i<xs.length) (j:Nat),j<sz→(xs.flatMap f)[i*sz+j]? = (f xs[i])[j]?
 | [],_,i,hi,_,_=>absurd hi (by simp)
 | x::xs,h,0,hi,j,hj=>by
  rw [List.flatMap_cons,Nat.zero_mul,Nat.zero_add,List.getElem?_append_left (by rw [h x (List.mem_cons_self ..)];exact hj)]
  rfl
 | x::xs,h,i+1,hi,j,hj=>by
  have hl:=h x (List.mem_cons_self ..)
  rw [List.flatMap_cons,Nat.succ_mul,List.getElem?_append_right (by omega),hl,show i*sz+sz+j-sz=i*sz+j by omega]
  exact ZpY (fun y hy=>h y (List.mem_cons_of_mem _ hy)) i (by simpa using hi) j hj
abbrev cbL:List UInt8→List UInt8→Int:=Lib.compareBytes
theorem Zpu:∀ a,cbL a a=0
 | []=>rfl
 | x::a=>by simp only [cbL,Lib.compareBytes,UInt8.lt_irrefl,if_false];exact Zpu a
theorem ZnO:∀ a b,cbL b a = - cbL a b
 | [],[]=>rfl
 | [],_::_=>rfl
 | _::_,[]=>rfl
 | x::a,y::b=>by
  have ih:=ZnO a b
  simp only [cbL,Lib.compareBytes] at *
  by_cases h1:x<y
  ·
   have h2:¬ y<x:=fun h=>by rw [UInt8.lt_iff_toNat_lt] at *; omega
   simp [h1,h2]
  ·
   by_cases h2:y<x
   ·
    simp [h1,h2]
   ·
    simp only [h1,h2,if_false];exact ih
theorem Zmy:∀ a b c,cbL a b≤0→cbL b c≤0→cbL a c≤0∧(cbL a b<0∨cbL b c<0→cbL a c<0)
 | [],[],c,_,h=>⟨h,fun q=>q.elim (fun q=>absurd q (by decide)) id⟩
 | [],_::_,[],_,h=>absurd (show (1:Int)≤0 from h) (by decide)
 | [],_::_,_::_,_,_=>⟨show (-1:Int)≤0 by decide,fun _=>show (-1:Int)<0 by decide⟩
 | _::_,[],c,h,_=>absurd (show (1:Int)≤0 from h) (by decide)
 | _::_,_::_,[],_,h=>absurd (show (1:Int)≤0 from h) (by decide)
 | x::a,y::b,z::c,h1,h2=>by
  have ih:=Zmy a b c
  simp only [cbL,Lib.compareBytes,UInt8.lt_iff_toNat_lt] at *
  by_cases p1:x.toNat<y.toNat
  ·
   by_cases p2:y.toNat<z.toNat
   ·
    have:x.toNat<z.toNat:=by omega
    simp [this]
   ·
    by_cases p3:z.toNat<y.toNat
    ·
     simp [p2,p3] at h2
    ·
     have:x.toNat<z.toNat:=by omega
     simp [this]
  ·
   by_cases p4:y.toNat<x.toNat
   ·
    simp [p1,p4] at h1
   ·
    simp only [p1,p4,if_false] at h1
    by_cases p2:y.toNat<z.toNat
    ·
     have:x.toNat<z.toNat:=by omega
     simp [this]
    ·
     by_cases p3:z.toNat<y.toNat
     ·
      simp [p2,p3] at h2
     ·
      simp only [p2,p3,if_false] at h2
      have e1:¬ x.toNat<z.toNat:=by omega
      have e2:¬ z.toNat<x.toNat:=by omega
      simp only [p1,p4,p2,p3,e1,e2,if_false]
      exact ih h1 h2
theorem Zy9 {α:Type} (nm:α→ByteArray):SWO (ltOf fun x y:α=>Lib.compareBytes (nm x).data.toList (nm y).data.toList) where
 irrefl x:=by simp only [ltOf,decide_eq_false_iff_not];have:=Zpu (nm x).data.toList;simp only [cbL] at this;omega
 trans x y z h1 h2:=by
  simp only [ltOf,decide_eq_true_eq] at *
  exact (Zmy (nm x).data.toList (nm y).data.toList (nm z).data.toList (by simp only [cbL];omega) (by simp only [cbL];omega)).2 (.inl h1)
 ntrans x y z h1 h2:=by
  simp only [ltOf,decide_eq_false_iff_not] at *
  have a:=ZnO (nm x).data.toList (nm y).data.toList
  have b:=ZnO (nm y).data.toList (nm z).data.toList
  have c:=ZnO (nm x).data.toList (nm z).data.toList
  have:=(Zmy (nm z).data.toList (nm y).data.toList (nm x).data.toList (by simp only [cbL] at *; omega) (by simp only [cbL] at *; omega)).1
  simp only [cbL] at *
  omega
def Zid (nm:Nat→ByteArray) (n:Nat):List Nat:=(pdq (ltOf fun i j:Nat=>Lib.compareBytes (nm i).data.toList (nm j).data.toList) (Array.range n) 0 n (Lib.bitLen n) true true).toList
theorem ZjX (nm:Nat→ByteArray) (n:Nat):(Zid nm n).Perm (List.range n)∧∀ i j,i<j→j<n→¬ Lib.compareBytes (nm ((Zid nm n)[j]!)).data.toList (nm ((Zid nm n)[i]!)).data.toList<0:=by
 have h:=pdq_sorts (ltOf fun i j:Nat=>Lib.compareBytes (nm i).data.toList (nm j).data.toList) (Zy9 nm) (Array.range n) 0 n (Lib.bitLen n) true true (Nat.zero_le _) (by simp) (Or.inl rfl)
 obtain ⟨⟨h1,h2,h3⟩,h4⟩:=h
 have e1:(pdq (ltOf fun i j:Nat=>Lib.compareBytes (nm i).data.toList (nm j).data.toList) (Array.range n) 0 n (Lib.bitLen n) true true).size=n:=by simpa using h1
 refine ⟨?_,fun i j hi hj=>?_⟩
 ·
  have e2:((pdq (ltOf fun i j:Nat=>Lib.compareBytes (nm i).data.toList (nm j).data.toList) (Array.range n) 0 n (Lib.bitLen n) true true).extract 0 n).toList=Zid nm n:=by
   unfold Zid
   rw [Array.toList_extract]
   simp only [List.extract,Nat.sub_zero,List.drop_zero]
   exact List.take_of_length_le (by rw [Array.length_toList,e1];exact Nat.le_refl _)
  rw [e2] at h3
  have e3:((Array.range n).extract 0 n).toList=List.range n:=by simp [List.extract,Array.toList_range]
  rwa [e3] at h3
 ·
  have:=h4 i j (Nat.zero_le _) hi hj
  unfold ltOf at this
  have:=of_decide_eq_false this
  unfold Zid
  have g:∀ k,k<n→((pdq (ltOf fun i j:Nat=>Lib.compareBytes (nm i).data.toList (nm j).data.toList) (Array.range n) 0 n (Lib.bitLen n) true true).toList)[k]! = (pdq (ltOf fun i j:Nat=>Lib.compareBytes (nm i).data.toList (nm j).data.toList) (Array.range n) 0 n (Lib.bitLen n) true true)[k]! := fun k hk=>by
   rw [getElem!_pos _ k (by rw [Array.length_toList,e1];exact hk),getElem!_pos _ k (by rw [e1];exact hk),Array.getElem_toList]
  rw [g i (by omega),g j hj]
  exact this
theorem ZeY (nm:Nat→ByteArray) (n:Nat):(Zid nm n).length=n:=by simpa using (ZjX nm n).1.length_eq
theorem Zw6 (nm:Nat→ByteArray) (n:Nat):∀ i∈Zid nm n,i<n:=fun i hi=>by simpa using (ZjX nm n).1.mem_iff.1 hi
def Zlp {α:Type} (nm:α→ByteArray) (d:α) (xs:List α):List α:=(Zid (fun i=>nm (xs.getD i d)) xs.length).map fun i=>xs.getD i d
section
variable {P:Program} {w0:World} {st:St} {M:Mem} {w:World}
theorem RelSt.setVec (h:RelSt w0 M st w) {id ver sz:Nat} {cs cs':List AV} {w':World} (hid:st.rows[id]? = some (.vec ver sz cs)) (hb:Below w0.heap.size w w') (hoth:∀ b,b<w.heap.size→b≠M.blk id→w'.heap[b]? = w.heap[b]?)
  {c':Array Value} {ty:TypeId} (hc:w'.heap[M.blk id]? = some (.cells c' ty (0,0))) (hsz:c'.size=M.cap id*sz) (hle:cs'.length≤c'.size) (hone:∀ x∈cs',x.one=true) (hR:∀ i (h1:i<c'.size) (h2:i<cs'.length),R w0 M w c'[i] cs'[i]) :
  Ext w0 M w M w'∧RelSt w0 M { st with rows:=st.rows.set id (.vec ver sz cs') } w':=by
 have a:id<st.rows.length:=(List.getElem?_eq_some_iff.1 hid).1
 have f:id<M.NR:=by rw [h.NR];exact a
 obtain ⟨f1,f2,f3,f4,f5,f6,f7,c,u,f8,f9,t,s,y⟩:=h.row id _ hid
 have g:KeepsObj w w':=fun b o h1 h2=>by
  have d:=(Array.getElem?_eq_some_iff.1 h1).1
  by_cases q:b=M.blk id
  ·
   subst q;rw [f8] at h1;cases h1;cases h2
  ·
   exact (hoth b d q).trans h1
 have hx:Ext w0 M w M w' :=
  ⟨Nat.le_refl _,fun _ _=>rfl,Nat.le_refl _,fun _ _=>⟨Nat.le_refl _,fun _=>⟨rfl,rfl,rfl⟩⟩,fun b z v hi hv=>by
   have d:=World.block_lt_of_cell? w _ hv
   refine ⟨?_,hi⟩
   have q:b≠M.blk id:=by
    rintro rfl
    rcases hi with hi | hi
    ·
     omega
    ·
     rw [f4] at hi;omega
   unfold World.cell? at hv ⊢
   simp only [hoth b d q] at hv ⊢
   exact hv,hb.size,Nat.le_refl _,fun _ _=>rfl,fun _ h1 h2=>absurd h2 (Nat.not_lt.2 h1),fun b o h1 h2 _=>g b o h1 h2⟩
 refine ⟨hx,h.below.trans hb,h.N,by simp [h.NR],fun b j=>h.top b (Nat.le_trans hb.size j),h.inj,fun l n hl=>?_,fun i x hi=>?_,h.rowinj,h.loop.mono hx rfl g⟩
 ·
  obtain ⟨a1,a2,c2,k,a3,a4,a5,a6⟩:=h.box l n hl
  have m:l<M.N:=by rw [h.N];exact (List.getElem?_eq_some_iff.1 hl).1
  exact ⟨a1,a2,c2,k,by rw [hoth _ (Array.getElem?_eq_some_iff.1 a3).1 (f5 l m)];exact a3,a4,a5,fun i h1 h2=>(a6 i h1 h2).mono hx⟩
 ·
  by_cases q:i=id
  ·
   subst q
   rw [List.getElem?_set_self a] at hi
   cases hi
   exact ⟨f1,f2,f3,f4,f5,f6,f7,c',ty,hc,hsz,hle,hone,fun i h1 h2=>(hR i h1 h2).mono hx⟩
  ·
   rw [List.getElem?_set_ne (Ne.symm q)] at hi
   have r:i<M.NR:=by rw [h.NR];exact (List.getElem?_eq_some_iff.1 hi).1
   have hk:=h.row i x hi
   have p:M.blk i≠M.blk id:=fun e=>q (h.rowinj i id r f e)
   exact hk.keep hx rfl rfl rfl rfl rfl hk.ne (hoth _ hk.lt p)
theorem Zu7 {ρ:Ren} (L:SlLaysF0.n6 P ρ) (hen:ZiW P (ρ.f 6)) (k:Nat) (aE:∀ w,(isAgg (ρ.t 24)).run P w = .ok true w) (zE:∀ w,(Go.sizeOf (ρ.t 24)).run P w = .ok (k+1) w) (g:FuncId) (hg:ZiW P g)
  (hcmp:∀ (s s':ByteArray) (r r':List Value) (W:World),r.length=k→r'.length=k→(∀ v∈r,v.oneCell'=true)→(∀ v∈r',v.oneCell'=true) →
   Calls P g #[.agg (.string s::r).toArray,.agg (.string s'::r').toArray] W fun e w'=>e = .returned (.int .i64 (Lib.compareBytes s.data.toList s'.data.toList))∧∃ q os',w'=grow (W.drewN q) os')
  {α:Type} (f:α→AV) (nm:α→ByteArray) (d:α) (l:List α) (hf:∀ x,∃ r,f x = .agg (.val (.string (nm x))::r)∧r.length=k) {rid ver:Nat} (hid:st.rows[rid]? = some (.vec ver (k+1) (l.flatMap fun x=>(f x).cells))) (hn:0<l.length) (hz:l.length<4611686018427387904) :
  ACalls P w0 (ρ.f 6) [.vec rid ver 0 l.length,.clo g []] st fun r s=>r = .tup []∧s={ st with rows:=st.rows.set rid (.vec ver (k+1) ((Zlp nm d l).flatMap fun x=>(f x).cells)) }:=by
 refine ⟨hen,fun M w ah ao ab=>?_⟩
 obtain ⟨v0,v1,rfl⟩:∃ v0 v1,ah = #[v0,v1]:=by
  have hs:=ab.1
  simp only [List.length_cons,List.length_nil] at hs
  match ah,hs with
  | ⟨[a,b]⟩,_=>exact ⟨a,b,rfl⟩
 have h0:R w0 M w v0 (.vec rid ver 0 l.length):=ab.2 0 (by simp) (by simp)
 have h1:R w0 M w v1 (.clo g []):=ab.2 1 (by simp) (by simp)
 obtain ⟨a5,rfl,a3⟩:=Zsm h1
 have:a5 = #[]:=Array.size_eq_zero_iff.1 a3.1
 subst this
 have ae:∀ x,(f x).cells.length=k+1:=fun x=>by obtain ⟨r,e,hr⟩:=hf x;rw [e];simp [AV.cells,hr]
 have av:(l.flatMap fun x=>(f x).cells).length=l.length*(k+1):=ZmW fun x _=>ae x
 obtain ⟨f1,f2,f3,f4,f5,f6,f7,c,ty,f8,f9,a0,az,a6⟩:=ao.row rid _ hid
 cases h0 with
 | @vec _ _ _ _ p cap hi hver hh =>
 obtain ⟨rfl,a7,hm⟩:=hh f1.symm
 have am:M.blk rid<w.heap.size:=(Array.getElem?_eq_some_iff.1 f8).1
 have ax:l.length*(k+1)≤c.size:=by rw [←av];exact a0
 -- the elements,by their number
 let enc:Nat→List Value:=fun i=>if i<l.length then (c.toList.drop (i*(k+1))).take (k+1) else .string (nm d)::List.replicate k (.int .i64 0)
 have bnd:∀ i,i<l.length→i*(k+1)+(k+1)≤c.size:=fun i hi=>by
  have:(i+1)*(k+1)≤l.length*(k+1):=Nat.mul_le_mul_right _ hi
  rw [Nat.succ_mul] at this;omega
 have hk:∀ i,(enc i).length=k+1:=fun i=>by
  simp only [enc];split
  ·
   rename_i q;have:=bnd i q;simp;omega
  ·
   simp
 have u:∀ i,i<l.length→∀ j,j<k+1→(enc i)[j]? = c[i*(k+1)+j]? := fun i hi j hj=>by
  simp only [enc,if_pos hi]
  rw [List.getElem?_take_of_lt hj,List.getElem?_drop,Array.getElem?_toList]
 have cR:∀ i (hi:i<l.length) j (hj:j<k+1),∃ v x,c[i*(k+1)+j]? = some v∧(f l[i]).cells[j]? = some x∧x.one=true∧R w0 M w v x:=fun i hi j hj=>by
  have hb:=bnd i hi
  have o:i*(k+1)+j<c.size:=by omega
  have ai:i*(k+1)+j<(l.flatMap fun x=>(f x).cells).length:=by rw [av];have:(i+1)*(k+1)≤l.length*(k+1):=Nat.mul_le_mul_right _ hi;rw [Nat.succ_mul] at this;omega
  have e:=ZpY (f:=fun x=>(f x).cells) (xs:=l) (fun x _=>ae x) i hi j hj
  rw [List.getElem?_eq_getElem ai] at e
  exact ⟨_,_,Array.getElem?_eq_getElem o,e.symm,az _ (List.getElem_mem _),a6 _ o ai⟩
 have aa:∀ i,∀ v∈enc i,v.oneCell'=true:=fun i v hv=>by
  by_cases q:i<l.length
  ·
   obtain ⟨j,hj,rfl⟩:=List.mem_iff_getElem.1 hv
   have au:j<k+1:=by rw [hk] at hj;exact hj
   obtain ⟨v,x,e1,e2,e3,e4⟩:=cR i q j au
   have:=u i q j au
   rw [List.getElem?_eq_getElem hj,e1] at this
   cases this
   exact e4.oneCell e3
  ·
   simp only [enc,if_neg q,List.mem_cons,List.mem_replicate] at hv
   rcases hv with rfl | ⟨_,rfl⟩<;>rfl
 let nmI:Nat→ByteArray:=fun i=>nm (l.getD i d)
 have ak:∀ i,∃ r,enc i = .string (nmI i)::r∧r.length=k:=fun i=>by
  by_cases q:i<l.length
  ·
   obtain ⟨v,x,e1,e2,e3,e4⟩:=cR i q 0 (by omega)
   obtain ⟨r,er,hr⟩:=hf l[i]
   rw [er] at e2
   simp only [AV.cells,List.getElem?_cons_zero,Option.some.injEq] at e2
   subst e2
   have ev:v = .string (nm l[i]):=by cases e4;rfl
   subst ev
   have hg:=u i q 0 (by omega)
   rw [e1] at hg
   cases he:enc i with
   | nil=>rw [he] at hg;cases hg
   | cons y ys =>
    rw [he] at hg
    simp only [List.getElem?_cons_zero,Option.some.injEq] at hg
    have hl:=hk i
    rw [he] at hl
    refine ⟨ys,?_,by simpa using hl⟩
    simp only [nmI,List.getD_eq_getElem?_getD,List.getElem?_eq_getElem q,Option.getD_some,hg]
  ·
   exact ⟨List.replicate k (.int .i64 0),by simp only [enc,nmI,if_neg q,List.getD_eq_getElem?_getD,List.getElem?_eq_none (Nat.le_of_not_lt q),Option.getD_none],by simp⟩
 let cf:Nat→Nat→Int:=fun i j=>Lib.compareBytes (nmI i).data.toList (nmI j).data.toList
 have ap:CmpLays P g #[] enc (k+1) cf (M.blk rid) 0 (Array.range l.length).size w:=by
  intro m os dk a8 x y
  obtain ⟨r,e1,e2⟩:=ak x
  obtain ⟨r',e3,e4⟩:=ak y
  have a1:=aa x
  have a2:=aa y
  rw [e1] at a1
  rw [e3] at a2
  have:=hcmp (nmI x) (nmI y) r r' (sortWorldK enc (k+1) w (M.blk rid) 0 m dk os) e2 e4 (fun v hv=>a1 v (List.mem_cons_of_mem _ hv)) (fun v hv=>a2 v (List.mem_cons_of_mem _ hv))
  simp only [e1,e3,cf]
  exact this
 have hH:HoldsK enc (k+1) w (M.blk rid) 0 (Array.range l.length):=by
  intro t ht
  rw [size_flatK,Array.size_range] at ht
  rw [get_flatK _ _ _ _ (by simpa using ht)]
  have hq:t / (k+1)<l.length:=Nat.div_lt_of_lt_mul (by rw [Nat.mul_comm];exact ht)
  have hr:t % (k+1)<k+1:=Nat.mod_lt _ (by omega)
  have e1:((Array.range l.length)[t / (k+1)]! : Nat)=t / (k+1):=by simp [hq]
  have e2:=u _ hq _ hr
  have e3:t / (k+1)*(k+1)+t % (k+1)=t:=by rw [Nat.mul_comm];exact Nat.div_add_mod t (k+1)
  rw [e3] at e2
  rw [e1]
  have o:t<c.size:=by omega
  have z:t % (k+1)<(enc (t / (k+1))).length:=by rw [hk];exact hr
  rw [getElem!_pos (enc (t / (k+1))) _ z]
  rw [List.getElem?_eq_getElem z,Array.getElem?_eq_getElem o] at e2
  refine ⟨?_,?_⟩
  ·
   simp only [World.cell?,f8,Nat.zero_add,id_eq]
   rw [Array.getElem?_eq_getElem o]
   exact e2.symm
  ·
   simp [World.frozen?,f8]
 have hS:=AnyQ.slices_SortFunc_eq L (k+1) aE zE enc hk aa cf (Zy9 nmI) g #[] (M.blk rid) 0 cap (Array.range l.length) w (fun a w'=>by
   have:=hg a w'
   exact this) ap hH am (by simpa using hz)
 simp only [Array.size_range] at hS
 have e0:(some ⟨M.blk rid,0*M.rsz rid,none⟩:Option Addr)=some ⟨M.blk rid,0,none⟩:=by rw [Nat.zero_mul]
 rw [e0]
 refine hS.mono ?_
 rintro en w' ⟨rfl,m,os,rfl⟩
 -- what the sort leaves
 let D:=pdq (ltOf cf) (Array.range l.length) 0 l.length (Lib.bitLen l.length) true true
 have hD:D.toList=Zid nmI l.length:=rfl
 have aw:D.size=l.length:=by rw [←Array.length_toList,hD,ZeY]
 have af:∀ i,i<l.length→(D[i]! : Nat)<l.length:=fun i hi=>by
  have ad:i<D.size:=by omega
  rw [getElem!_pos D i ad]
  exact Zw6 nmI l.length _ (by rw [←hD];exact Array.getElem_mem_toList ad)
 have a4:∀ i (hi:i<l.length),(Zid nmI l.length)[i]'(by rw [ZeY];exact hi)=(D[i]! : Nat):=fun i hi=>by
  have ad:i<D.size:=by omega
  rw [getElem!_pos D i ad,←Array.getElem_toList]
  simp only [hD]
 let F:=flatK enc (k+1) D
 have hF:F.size=l.length*(k+1):=by simp only [F,size_flatK,aw]
 let c':Array Value:=putCells id 0 F c
 have aq:(Zlp nm d l).length=l.length:=by simp only [Zlp,List.length_map];exact ZeY _ _
 have h:((Zlp nm d l).flatMap fun x=>(f x).cells).length=l.length*(k+1):=by rw [ZmW fun x _=>ae x,aq]
 have ar:∀ t,t<l.length*(k+1)→∃ v x,c'[t]? = some v∧((Zlp nm d l).flatMap fun x=>(f x).cells)[t]? = some x∧x.one=true∧R w0 M w v x:=fun t ht=>by
  have hq:t / (k+1)<l.length:=Nat.div_lt_of_lt_mul (by rw [Nat.mul_comm];exact ht)
  have hr:t % (k+1)<k+1:=Nat.mod_lt _ (by omega)
  have e3:t / (k+1)*(k+1)+t % (k+1)=t:=by rw [Nat.mul_comm];exact Nat.div_add_mod t (k+1)
  obtain ⟨v,x,e1,e2,e4,e5⟩:=cR _ (af _ hq) _ hr
  refine ⟨v,x,?_,?_,e4,e5⟩
  ·
   have o:t<c.size:=by omega
   simp only [c',putCells,Array.getElem?_mapIdx,Array.getElem?_eq_getElem o,Option.map_some,Nat.zero_add,Nat.zero_le,true_and,hF,if_pos ht,Nat.sub_zero,id_eq]
   simp only [F]
   rw [get_flatK _ _ _ _ (by rw [aw];exact ht)]
   have z:t % (k+1)<(enc (D[t / (k+1)]!)).length:=by rw [hk];exact hr
   rw [getElem!_pos (enc (D[t / (k+1)]!)) _ z,←List.getElem?_eq_getElem z,u _ (af _ hq) _ hr]
   exact e1
  ·
   have e6:=ZpY (f:=fun x=>(f x).cells) (xs:=Zlp nm d l) (fun x _=>ae x) (t / (k+1)) (by rw [aq];exact hq) (t % (k+1)) hr
   rw [e3] at e6
   rw [e6]
   have e7:(Zlp nm d l)[t / (k+1)]'(by rw [aq];exact hq)=l[(D[t / (k+1)]! : Nat)]'(af _ hq):=by
    simp only [Zlp,List.getElem_map]
    rw [show (Zid (fun i=>nm (l.getD i d)) l.length)[t / (k+1)]'(by rw [ZeY];exact hq)=(D[t / (k+1)]! : Nat) from a4 _ hq]
    rw [List.getD_eq_getElem?_getD,List.getElem?_eq_getElem (af _ hq),Option.getD_some]
   rw [e7]
   exact e2
 have ag:c'.size=c.size:=by simp [c',putCells]
 have n:(sortWorldK enc (k+1) w (M.blk rid) 0 m D os).heap=w.heap.modify (M.blk rid) (onCells (putCells id 0 F))++os:=rfl
 have aj:∀ b,b<w.heap.size→b≠M.blk rid→(sortWorldK enc (k+1) w (M.blk rid) 0 m D os).heap[b]? = w.heap[b]? := fun b hb ay=>by
  rw [n,Array.getElem?_append_left (by simpa using hb),Array.getElem?_modify,if_neg (fun q=>ay q.symm)]
 obtain ⟨x1,x2⟩:=ao.setVec (c':=c') (ty:=ty) (cs':=(Zlp nm d l).flatMap fun x=>(f x).cells) (w':=sortWorldK enc (k+1) w (M.blk rid) 0 m D os) hid
  ⟨rfl,rfl,rfl,by rw [n];simp,fun b hb=>aj b (Nat.lt_of_lt_of_le hb ao.base_le) (by omega)⟩ aj
  (by rw [n,Array.getElem?_append_left (by simpa using am),Array.getElem?_modify,if_pos rfl,f8];rfl) (by rw [ag];exact f9) (by rw [h,ag];exact ax)
  (fun x hx=>by
   obtain ⟨t,ht,rfl⟩:=List.mem_iff_getElem.1 hx
   rw [h] at ht
   obtain ⟨v,y,_,e2,e3,_⟩:=ar t ht
   rw [List.getElem?_eq_getElem (by rw [h];exact ht)] at e2
   cases e2
   exact e3)
  (fun t h1 h2=>by
   rw [h] at h2
   obtain ⟨v,y,e1,e2,_,e4⟩:=ar t h2
   rw [List.getElem?_eq_getElem (by rw [h];exact h2)] at e2
   rw [Array.getElem?_eq_getElem h1] at e1
   cases e1;cases e2
   exact e4)
 exact ⟨.tuple #[],M,.tup [],_,rfl,⟨rfl,rfl⟩,x1,x2,.tup rfl (fun i h1 _=>absurd h1 (by simp))⟩
end
structure VOne (Rw rows:List RowA) (sz:Nat) (xs:List AV) (x:AV):Prop where
 pre:Rw <+: rows
 calm:∀ r∈rows.drop Rw.length,∀ y∈r.cells,∀ a b c,Under a b c y
 at_:(xs=[]∧x = .list [] .seed)∨∃ id ver,x = .vec id ver 0 xs.length∧0<xs.length∧Rw.length≤id∧rows[id]? = some (.vec ver sz (xs.flatMap AV.cells))
theorem VOne.none (Rw:List RowA) (sz:Nat):VOne Rw Rw sz [] (.list [] .seed):=⟨List.prefix_refl _,by simp,.inl ⟨rfl,rfl⟩⟩
theorem VOne.of_eq {Rw rows:List RowA} {sz:Nat} {xs ys:List AV} {x:AV} (h:VOne Rw rows sz xs x) (he:xs=ys):VOne Rw rows sz ys x:=he▸h
theorem VOne.len {Rw rows:List RowA} {sz:Nat} {xs:List AV} {x:AV} (h:VOne Rw rows sz xs x):Rw.length≤rows.length:=h.pre.length_le
theorem VOne.under {Rw rows:List RowA} {sz:Nat} {xs:List AV} {x:AV} (h:VOne Rw rows sz xs x) (nb nl:Nat):Under nb rows.length nl x:=by
 rcases h.at_ with ⟨_,rfl⟩ | ⟨id,ver,rfl,_,_,h3⟩
 ·
  exact .list (by simp) trivial
 ·
  exact .vec (List.getElem?_eq_some_iff.1 h3).1
theorem VOne.cell {Rw rows:List RowA} {sz:Nat} {xs:List AV} {x:AV} (h:VOne Rw rows sz xs x):x.cells=[x]∧ZbS x=true∧x.pubCell.pubCell=x.pubCell:=by
 rcases h.at_ with ⟨_,rfl⟩ | ⟨id,ver,rfl,_,_,h3⟩<;>exact ⟨rfl,rfl,rfl⟩
theorem VOne.append {P:Program} {t el:TypeId} {sz by8:Nat} {ag:Bool} {Rw rows:List RowA} {xs:List AV} {x y:AV} (h:VOne Rw rows sz xs x) (he:elT P t=some (el,sz,ag,by8)) (hz:(ZeE P el).isSome=true) (hs:0<sz)
  (hb:(xs.length+1)*by8≤140737488355328) (hb2:xs.length+1≤4611686018427387904) (hy:y.cells.length=sz∧ZbS y=true) (hp:y.pub=y) (hu:∀ c∈y.cells,∀ a b d,Under a b d c) (hxs:∀ z∈xs,z.cells.length=sz) :
  ∃ x' rows',VOne Rw rows' sz (xs++[y]) x'∧∀ (B:List (List AV)) (L:List LoopA) (o2:Own),Zbh P ⟨B,rows,L⟩ t x (.list [y] o2)=(True,x',⟨B,rows',L⟩):=by
 have hl:=h.len
 have ob:Zb8 P el sz by8 xs.length [y]=True:=by
  simp only [Zb8,hs,hz,List.length_singleton,hb,hb2,true_and,List.mem_singleton,forall_eq,hy,and_self]
 rcases h.at_ with ⟨rfl,rfl⟩ | ⟨id,ver,rfl,h1,h2,h3⟩
 ·
  refine ⟨.vec rows.length 0 0 1,rows++[.vec 0 sz y.cells],⟨h.pre.trans (List.prefix_append _ _),fun r hr z hz' a b c=>?_,.inr ⟨rows.length,0,rfl,by simp,hl,by simp⟩⟩,fun B L o2=>?_⟩
  ·
   rw [List.drop_append_of_le_length hl] at hr
   rcases List.mem_append.1 hr with hr | hr
   ·
    exact h.calm r hr z hz' a b c
   ·
    simp only [List.mem_singleton] at hr;subst hr;exact hu z hz' a b c
  ·
   simp only [Zbh,he,ZaN,Zb5,List.length_singleton,List.length_nil,List.flatMap_cons,List.flatMap_nil,List.append_nil,hp]
   rw [show Zb8 P el sz by8 0 [y]=True from ob]
   simp
 ·
  have f:=(List.getElem?_eq_some_iff.1 h3).1
  have e:(xs.flatMap AV.cells).length=xs.length*sz:=ZmW hxs
  refine ⟨.vec id (ver+1) 0 (xs.length+1),rows.set id (.vec (ver+1) sz (xs.flatMap AV.cells++y.cells)),⟨Zja h.pre h2 _,fun r hr z hz' a b c=>?_,.inr ⟨id,ver+1,by rw [List.length_append];rfl,by simp,h2,by simp [f,List.flatMap_append]⟩⟩,fun B L o2=>?_⟩
  ·
   rw [List.drop_set,if_neg (by omega)] at hr
   rcases List.mem_or_eq_of_mem_set hr with hr | rfl
   ·
    exact h.calm r hr z hz' a b c
   ·
    rcases List.mem_append.1 hz' with q | q
    ·
     exact h.calm (.vec ver sz (xs.flatMap AV.cells)) (by
      rw [List.mem_iff_getElem?]
      exact ⟨id-Rw.length,by rw [List.getElem?_drop,Nat.add_sub_cancel' h2];exact h3⟩) z q a b c
    ·
     exact hu z q a b c
  ·
   simp only [Zbh,he,ZaN,Zb5,List.length_singleton,List.flatMap_cons,List.flatMap_nil,List.append_nil,hp,Zj0,h3,if_true]
   rw [ob]
   simp only [e,true_and,Nat.le_refl,and_self,Prod.mk.injEq,true_and,List.take_of_length_le (Nat.le_of_eq e)]
section
variable {P:Program} {w0:World} {n:Nat} {e:Env} {st:St} {M0:Mem} {W0:World} {ro:Option Nat} {Q:AQ} {c:Code}
theorem tdV {B0 B bs X:List (List AV)} {Rw rows:List RowA} {L:List LoopA} {sz:Nat} {xs:List AV} {x:AV} (hN:M0.N=B0.length) (hNR:M0.NR=Rw.length) (hNL:M0.NL=L.length) (hc:Calm B0.length Rw.length L.length ⟨B,Rw,L⟩) (ho:VOne Rw rows sz xs x)
  (h:awp P w0 n M0 W0 ro c Q e ⟨B++bs,rows,L⟩) (hB:B.length=B0.length:=by first | rfl | simp only [List.length_set])
  (hbs:∀ cs∈bs,∀ x∈cs,Under (B0.length+bs.length) rows.length L.length x:=by (simp +decide only [go_sem,Nat.reduceAdd])<;>(try (repeat' apply And.intro))<;>first | omega | assumption)
  (he:Zlc (B0.length+bs.length) rows.length L.length e:=by (simp +decide only [go_sem,Nat.reduceAdd,Zlc])<;>(try (repeat' apply And.intro))<;>first | omega | assumption):awp P w0 n M0 W0 ro c Q e ⟨B++(bs++X),rows,L⟩:=by
 rw [←hB] at hN hc hbs he
 clear hB B0
 have hl:=ho.len
 have e1:St.cut ⟨B++(bs++X),rows,L⟩ (B.length+bs.length) rows.length L.length=⟨B++bs,rows,L⟩:=by
  simp only [St.cut,List.take_length,←List.append_assoc]
  rw [List.take_left' (by simp)]
 refine Zpr (B.length+bs.length) rows.length L.length (by simp) (Nat.le_refl _) (Nat.le_refl _) (by omega) (by omega) (by omega) ?_ he (by rw [e1];exact h)
 rw [e1]
 refine ⟨fun r hr x hx=>?_,fun cs hcs x hx=>?_,fun la a k x hx ht=>?_⟩
 ·
  obtain ⟨t,rfl⟩:=ho.pre
  rcases List.mem_append.1 hr with hr | hr
  ·
   exact Zb1 (by omega) (by omega) (Nat.le_refl _) (hc.rows r hr x hx)
  ·
   exact ho.calm r (by simpa using hr) x hx _ _ _
 ·
  rcases List.mem_append.1 hcs with hcs | hcs
  ·
   exact Zb1 (by omega) (by omega) (Nat.le_refl _) (hc.boxes cs hcs x hx)
  ·
   exact hbs cs hcs x hx
 ·
  exact Zb1 (by omega) (by omega) (Nat.le_refl _) (hc.loops la a k x hx ht)
theorem ZuE {sz:Nat} {ys:List AV} (hy:∀ y∈ys,∃ cs,y = .agg cs∧cs.length=sz):ZrK sz true (ys.flatMap AV.cells) 0 ys.length=ys:=by
 have hl:∀ y∈ys,y.cells.length=sz:=fun y h=>by obtain ⟨cs,rfl,q⟩:=hy y h;exact q
 refine List.ext_getElem (by simp [ZrK]) (fun i h1 h2=>?_)
 simp only [ZrK,List.getElem_map,List.getElem_range,Nat.zero_add,Zn1,if_true]
 obtain ⟨cs,e,q⟩:=hy _ (List.getElem_mem h2)
 rw [e]
 congr 1
 refine List.ext_getElem? fun j=>?_
 by_cases hj:j<sz
 ·
  rw [List.getElem?_take_of_lt hj,List.getElem?_drop,ZpY hl i h2 j hj,e];rfl
 ·
  rw [List.getElem?_eq_none (by simp;omega),List.getElem?_eq_none (by omega)]
end
end Go.Ev
namespace Go.Proofs
open Go.Shelf
def Tryz.laysSort_ren:Go.Shelf.Ren:=⟨fun | 6=>218 | 15=>237 | 14=>236 | 28=>257 | 29=>258 | 20=>249 | 21=>250 | 22=>251 | 23=>252 | 24=>253 | 25=>254 | 26=>255 | 27=>256 | 46=>263 | 47=>264 | 48=>265 | 49=>266 | 50=>267 | 57=>270 | n=>n,fun | 22=>44 | 24=>75 | 25=>155 | 3=>3 | 39=>180 | 0=>0 | 53=>220 | 55=>216 | 4=>4 | 46=>239 | 45=>238 | 50=>111 | 5=>5 | 9=>9 | 66=>249 | 70=>84 | 76=>254 | 77=>170 | n=>n,fun | n=>n⟩
theorem Tryz.laysSort:Go.Proofs.SlLaysF0.n6 Tryz.prog Tryz.laysSort_ren:={
 mixed:=by kernel_rfl
 f6:=⟨Tryz.f218.name,by decide,Tryz.func218.trans (congrArg some (by kernel_rfl))⟩
 f14:=⟨Tryz.f236.name,by decide,Tryz.func236.trans (congrArg some (by kernel_rfl))⟩
 f15:=Tryz.func237.trans (congrArg some (by kernel_rfl))
 f20:=⟨Tryz.f249.name,by decide,Tryz.func249.trans (congrArg some (by kernel_rfl))⟩
 f21:=⟨Tryz.f250.name,by decide,Tryz.func250.trans (congrArg some (by kernel_rfl))⟩
 f22:=⟨Tryz.f251.name,by decide,Tryz.func251.trans (congrArg some (by kernel_rfl))⟩
 f23:=⟨Tryz.f252.name,by decide,Tryz.func252.trans (congrArg some (by kernel_rfl))⟩
 f24:=⟨Tryz.f253.name,by decide,Tryz.func253.trans (congrArg some (by kernel_rfl))⟩
 f25:=⟨Tryz.f254.name,by decide,Tryz.func254.trans (congrArg some (by kernel_rfl))⟩
 f26:=⟨Tryz.f255.name,by decide,Tryz.func255.trans (congrArg some (by kernel_rfl))⟩
 f27:=⟨Tryz.f256.name,by decide,Tryz.func256.trans (congrArg some (by kernel_rfl))⟩
 f28:=Tryz.func257.trans (congrArg some (by kernel_rfl))
 f29:=Tryz.func258.trans (congrArg some (by kernel_rfl))
 f46:=⟨Tryz.f263.name,by decide,Tryz.func263.trans (congrArg some (by kernel_rfl))⟩
 f47:=Tryz.func264.trans (congrArg some (by kernel_rfl))
 f48:=Tryz.func265.trans (congrArg some (by kernel_rfl))
 f49:=⟨Tryz.f266.name,by decide,Tryz.func266.trans (congrArg some (by kernel_rfl))⟩
 f50:=⟨Tryz.f267.name,by decide,Tryz.func267.trans (congrArg some (by kernel_rfl))⟩
 f57:=⟨Tryz.f270.name,by decide,Tryz.func270.trans (congrArg some (by kernel_rfl))⟩
 t0:=Tryz.underlying0
 a0:=Tryz.isAgg0
 z0:=Tryz.sizeOf0
 v0:=Tryz.zeroValue0
 t3:=Tryz.underlying3
 a3:=Tryz.isAgg3
 z3:=Tryz.sizeOf3
 v3:=Tryz.zeroValue3
 t4:=Tryz.underlying4
 a4:=Tryz.isAgg4
 z4:=Tryz.sizeOf4
 v4:=Tryz.zeroValue4
 t5:=Tryz.underlying5
 a5:=Tryz.isAgg5
 z5:=Tryz.sizeOf5
 v5:=Tryz.zeroValue5
 t9:=Tryz.underlying9
 a9:=Tryz.isAgg9
 z9:=Tryz.sizeOf9
 v9:=Tryz.zeroValue9
 t22:=Tryz.underlying44
 a22:=Tryz.isAgg44
 z22:=Tryz.sizeOf44
 v22:=Tryz.zeroValue44
 t25:=Tryz.underlying155
 a25:=Tryz.isAgg155
 z25:=Tryz.sizeOf155
 v25:=Tryz.zeroValue155
 t39:=Tryz.underlying180
 a39:=Tryz.isAgg180
 z39:=Tryz.sizeOf180
 v39:=Tryz.zeroValue180
 t45:=Tryz.underlying238
 a45:=Tryz.isAgg238
 z45:=Tryz.sizeOf238
 v45:=Tryz.zeroValue238
 t46:=Tryz.underlying239
 a46:=Tryz.isAgg239
 z46:=Tryz.sizeOf239
 v46:=Tryz.zeroValue239
 t50:=Tryz.underlying111
 a50:=Tryz.isAgg111
 z50:=Tryz.sizeOf111
 v50:=Tryz.zeroValue111
 t53:=Tryz.underlying220
 a53:=Tryz.isAgg220
 z53:=Tryz.sizeOf220
 v53:=Tryz.zeroValue220
 t55:=Tryz.underlying216
 a55:=Tryz.isAgg216
 z55:=Tryz.sizeOf216
 v55:=Tryz.zeroValue216
 t66:=Tryz.underlying249
 a66:=Tryz.isAgg249
 z66:=Tryz.sizeOf249
 v66:=Tryz.zeroValue249
 t70:=Tryz.underlying84
 a70:=Tryz.isAgg84
 z70:=Tryz.sizeOf84
 v70:=Tryz.zeroValue84
 t76:=Tryz.underlying254
 a76:=Tryz.isAgg254
 z76:=Tryz.sizeOf254
 v76:=Tryz.zeroValue254
 t77:=Tryz.underlying170
 a77:=Tryz.isAgg170
 z77:=Tryz.sizeOf170
 v77:=Tryz.zeroValue170 }
end Go.Proofs
namespace Go.Proofs.YtgpmlelfkjfbiaaGreatDoor
open Go Go.RowKit Go.Ev Go.Shelf Go.Sort Go.Lib
theorem Zui (s s':ByteArray) (r r':List Value) (W:World) (h1:r.length=6) (h2:r'.length=6) (h3:∀ v∈r,v.oneCell'=true) (h4:∀ v∈r',v.oneCell'=true) :
  Calls Tryz.prog 219 #[.agg (.string s::r).toArray,.agg (.string s'::r').toArray] W fun e w'=>e = .returned (.int .i64 (Lib.compareBytes s.data.toList s'.data.toList))∧∃ q os',w'=grow (W.drewN q) os':=by
 have hcon:=fun W'=>Tryz.strings_Compare s s' W'
 change ∀ W',Calls Tryz.prog 141 _ _ _ at hcon
 generalize Lib.compareBytes s.data.toList s'.data.toList=z at hcon ⊢
 match r,h1 with
 | [a1,a2,a3,a4,a5,a6],_ =>
 match r',h2 with
 | [b1,b2,b3,b4,b5,b6],_ =>
 simp only [List.mem_cons,List.not_mem_nil,or_false,forall_eq_or_imp,forall_eq] at h3 h4
 go_enter Tryz.func219,Tryz.ntmps219
 go_wp2_with (go_at_call 141;refine (hcon _).mono ?_;rintro e w' ⟨rfl,rfl⟩)
 go_ret
 exact ⟨rfl,0,_,by rw [alloc_eq_grow,alloc_eq_grow,grow_grow];rfl⟩
def Zk5:String:=(Rows.schemaLeavesRow.laid.map (·.1)).getD 2 default
abbrev Pow10 (w:World):Prop:=Lib.TabIs Tryz.prog w Zk5 .u64 Lib.pow10Tab
theorem Pow10.below {w0 w:World} (h:Pow10 w0) (hb:Below w0.heap.size w0 w):Pow10 w:=by
 unfold Pow10 Lib.TabIs World.var? at *
 cases hg:Tryz.prog.globalNamed Zk5 with
 | none=>rw [hg] at h;cases h
 | some g =>
  rw [hg] at h
  simp only [Option.bind_some] at h ⊢
  cases hx:w0.heap[g]? with
  | none=>rw [hx] at h;cases h
  | some o =>
   rw [hb.block g (Array.getElem?_eq_some_iff.1 hx).1]
   exact h
theorem Zos (u:Nat):Lib.nDigits u≤u / 10+1:=by
 induction u using Nat.strongRecOn with
 | _ u ih =>
  by_cases h:u<10
  ·
   rw [Lib.nDigits_small h];omega
  ·
   rw [Lib.nDigits_big h]
   have:=ih (u / 10) (by omega)
   omega
theorem Zv0 (n:Int) (h : -9223372036854775808≤n∧n≤9223372036854775807):(Lib.itoa n).length≤maxLen:=by
 unfold Lib.itoa maxLen
 split
 ·
  rw [List.length_cons,Lib.decDigits_length];have:=Zos n.natAbs;omega
 ·
  rw [Lib.decDigits_length];have:=Zos n.toNat;omega
theorem Zym (w0:World) (B:List (List AV)) (Rw:List RowA) (L:List LoopA) (hP:Pow10 w0) (n:Int) (hn : -9223372036854775808≤n∧n≤9223372036854775807) :
  ACalls Tryz.prog w0 157 [.val (.int .i64 n)] ⟨B,Rw,L⟩ fun v s'=>v = .val (.string ⟨(Lib.itoa n).toArray⟩)∧s'=⟨B,Rw,L⟩ :=
 Zjf (ZaJ Tryz.func157 rfl (by decide)) (by
  show decide ((Lib.itoa n).toArray.size≤maxLen)=true
  rw [List.size_toArray]
  exact decide_eq_true (Zv0 n hn)) fun M w b hb a=>by
  have:=ZpX (us:=[.int .i64 n]) a
  subst this
  refine (Any.strconv_Itoa Tryz.laysM171 n hn.1 hn.2 w (hP.below hb)).mono ?_
  rintro e w' ⟨rfl,k,os,rfl⟩
  refine ⟨rfl,rfl,rfl,rfl,by simp [grow],fun i hi=>?_⟩
  show (grow (w.drewN k) os).heap[i]? = w.heap[i]?
  rw [heap_grow_old (w.drewN k) os hi]
  rfl
end Go.Proofs.YtgpmlelfkjfbiaaGreatDoor
namespace Go.Proofs.YtgpmlelfkjfbiaaGreatDoor
open Go Go.RowKit Go.Ev
def Zg6 (a0:Int × ByteArray × Int × Ty × List Vl) (a1:ByteArray):Bool :=
 sEq a0.2.1 a1
theorem ZqV (w0:World) (B:List (List AV)) (Rw:List RowA) (L:List LoopA) (a0:Int × ByteArray × Int × Ty × List Vl) (la1:Nat) (a1:ByteArray) (hla1:B[la1]? = some ([.val (.string a1)])) (r:Bool) (h:Zg6 a0 a1=r) :
  ACalls Tryz.prog w0 71 [.agg (.val (.int .i64 a0.1)::(.val (.string a0.2.1)::(.val (.int .i64 a0.2.2.1)::((a0.2.2.2.1.cs)++([.list (a0.2.2.2.2.map avV) .none]))))),.box la1 0] ⟨B,Rw,L⟩ fun x st=>x = .val (.bool r)∧st=⟨B,Rw,L⟩:=by
 rw [Zg6] at h
 refine hd [.tmp 3] Tryz.func71 Tryz.ntmps71 fun M0 W0 hN c d a hu hO hs=>?_
 simp only [Zaq]
 have b:=(List.getElem?_eq_some_iff.1 hla1).1
 have hs:=And.intro (Zag hla1) hs
 refine rg [1,2] hs ?_
 refine rg [3] hs ?_
 exact rT h hs a hO
theorem Zpw (w0:World) (B:List (List AV)) (Rw:List RowA) (L:List LoopA) (a0:Int × ByteArray × Int × Ty × List Vl) (la1:Nat) (a1:ByteArray) (hla1:B[la1]? = some ([.val (.string a1)])) :
  ACalls Tryz.prog w0 71 [.agg (.val (.int .i64 a0.1)::(.val (.string a0.2.1)::(.val (.int .i64 a0.2.2.1)::((a0.2.2.2.1.cs)++([.list (a0.2.2.2.2.map avV) .none]))))),.box la1 0] ⟨B,Rw,L⟩ fun x st=>x = .val (.bool (Zg6 a0 a1))∧st=⟨B,Rw,L⟩:=ZqV w0 B Rw L a0 la1 a1 hla1 _ rfl
def ZiG (rec:Vl→Option Vl) (n:Nat) (a0:Vl) (b2_k22_4:List Vl) (b2_k22_5:List (ByteArray × Vl)):Option Vl :=
 some (Vl.mk a0.kind a0.int a0.scale a0.text b2_k22_4 b2_k22_5)
def ZeG (rec:Vl→Option Vl) (n:Nat) (a0:Vl):Nat→Int→(List Vl)→(List (ByteArray × Vl))→Option Vl
 | 0,_,_,_=>none
 | m+1,x29_l25,b2_l25_4,b2_l25_5 =>
  if decide (x29_l25<((a0.fields.length:Int))) then
   (idx a0.fields x29_l25).bind fun x31 =>
   (rec x31.2).bind fun y32 =>
   if (b2_l25_5.length+1)*104≤140737488355328∧b2_l25_5.length+1≤4611686018427387904 then
    if I64 (x29_l25+1) then
     (ZeG rec n a0 m) (x29_l25+1) b2_l25_4 (b2_l25_5++([(x31.1,y32)]))
    else none
   else none
  else
   ZiG rec n a0 b2_l25_4 b2_l25_5
def ZjY (rec:Vl→Option Vl) (n:Nat) (a0:Vl) (b2_k5_4:List Vl):Option Vl :=
 ZeG rec n a0 n 0 b2_k5_4 ([])
def ZfC (rec:Vl→Option Vl) (n:Nat) (a0:Vl):Nat→Int→(List Vl)→Option Vl
 | 0,_,_=>none
 | m+1,x14_l8,b2_l8_4 =>
  if decide (x14_l8<((a0.list.length:Int))) then
   (idx a0.list x14_l8).bind fun x14 =>
   (rec x14).bind fun y15 =>
   if (b2_l8_4.length+1)*88≤140737488355328∧b2_l8_4.length+1≤4611686018427387904 then
    if I64 (x14_l8+1) then
     (ZfC rec n a0 m) (x14_l8+1) (b2_l8_4++([y15]))
    else none
   else none
  else
   ZjY rec n a0 b2_l8_4
def Zjy (rec:Vl→Option Vl) (n:Nat) (a0:Vl):Option Vl :=
 ZfC rec n a0 n 0 ([])
def Zbi:Nat→Vl→Option Vl
 | 0,_=>none
 | n+1,a0=>Zjy (Zbi n) n a0
def Zm2 (w0:World) (F:Vl→Option Vl):Prop:=∀ (B:List (List AV)) (Rw:List RowA) (L:List LoopA) (a0:Vl) (r:Vl),F a0=some r→ACalls Tryz.prog w0 66 [.agg (a0.cs)] ⟨B,Rw,L⟩ fun x st=>x = .agg (r.cs)∧st=⟨B,Rw,L⟩
theorem ZqR (w0:World) (rec:Vl→Option Vl) (ih:Zm2 w0 rec) (n:Nat):Zm2 w0 (Zjy rec n):=by
 intro B Rw L a0 r h
 rw [Zjy] at h
 refine hd [.cell 2 46] Tryz.func66 Tryz.ntmps66 fun M0 W0 hN aa ae x hu hO hs=>?_
 simp only [Zaq]
 refine rg [1,2] hs ?_
 refine rg [1,2,3] hs ?_
 have hs:=And.intro (Vl.cs_eqs a0) hs
 refine rg [1,2,3] hs ?_
 refine Zak (fun e st=>∃ (i:List Vl) (j:Ev.Own),Ck e st B Rw L [(1,true,.box B.length 0),(2,true,.box (B.length+1) 0),(3,true,.box (B.length+2) 0)] [a0.cs,[.val (.int .i64 0),.val (.int .i64 0),.val (.int .i64 0),.val (.string ((⟨#[]⟩:ByteArray))),.list ([]) .full,.list ([]) .full],[.val (.int .i64 a0.kind),.val (.int .i64 a0.int),.val (.int .i64 a0.scale),.val (.string a0.text),.list (i.map avV) j,.list ([]) .full]] [(6,i.length,j)] (ZjY rec n a0 i=some r)) ?_ ?_
 ·
  intro K6 a4
  refine rg [1,2,3,12,13,14] hs ?_
  apply Zad
  refine Zao (fun m e st=>∃ (w:Int) (d:List Vl) (o:Ev.Own),Ck e st B Rw L [(1,true,.box B.length 0),(2,true,.box (B.length+1) 0),(3,true,.box (B.length+2) 0),(12,true,.list (a0.list.map avV) .none),(13,true,.val (.int .i64 ((a0.list.length:Int)))),(14,true,.val (.int .i64 w))] [a0.cs,[.val (.int .i64 0),.val (.int .i64 0),.val (.int .i64 0),.val (.string ((⟨#[]⟩:ByteArray))),.list ([]) .full,.list ([]) .full],[.val (.int .i64 a0.kind),.val (.int .i64 a0.int),.val (.int .i64 a0.scale),.val (.string a0.text),.list (d.map avV) o,.list ([]) .full]] [(6,d.length,o)] (ZfC rec n a0 m w d=some r)) n ⟨0,([]),.full,([]),Rw,ef hs,ef hs,Owns.of_eq ((hO).full 6 0) le_,h⟩ ?_
  rintro ml8 e st ⟨w,d,o,Xl8,Rl8,rfl,rfl,hO,h⟩ Ul8 Vl8
  cases ml8 with
  | zero=>cases h
  | succ ml8 =>
  rw [ZfC] at h
  have hU:=hO.unders
  simp only [List.mem_cons,List.not_mem_nil,or_false,forall_eq_or_imp,forall_eq] at hU
  refine td hN aa ae x hO ?_
  refine rg [1,2,3,12,13,14,15] hs ?_
  apply Zaa;intro K10 aj
  refine cnd h hs (fun hs h=>?_) (fun hs h=>?_)
  rotate_left
  ·
   refine sx [1,2,3] hs a4 ?_
   exact ⟨d,o,([]),Rl8,ef hs,ef hs,Owns.of_eq (hO) le_,h⟩
  refine sk [1,2,3,12,13,14] hs aj ?_
  clear aj
  apply Zaa;intro K12 ak
  apply Zad
  obtain ⟨aw,au,h⟩:=bind_some h
  obtain ⟨a2,a5,ap⟩:=Zan au
  have am:=Zap (f:=avV) ap
  have hs:=And.intro am hs
  refine rg [1,2,3,5,12,13,14] hs ?_
  obtain ⟨ba,av,h⟩:=bind_some h
  obtain ⟨ah,h⟩:=Zab h
  obtain ⟨a9,ad,hO,v⟩:=hO.append (P:=Tryz.prog) Zou (by rw [ZjH];rfl) (by decide) 1 ah.1 ah.2
  replace v:=fun (ys:List AV) B L o2=>v (d.map avV) ys B L o2 le_
  replace v:=fun (y:AV) B L o2=>v [y] B L o2 le_ ev
  try simp only [List.mem_singleton,List.mem_cons,List.not_mem_nil,or_false,forall_eq_or_imp,forall_eq,List.map_append,List.map_cons,List.map_nil,Ze5,ZeV,Ze4,ZeU,Ze2,Zeu,Zdc,Zc0,ZeX,Zb9,Zcc,Zc1,Zc8,Zc7] at v
  have hs:=And.intro v hs
  refine dk 5 2 1 [1,2,3,12,13,14] hs mix ?_
  refine Zac _ (ih _ _ _ aw _ av) (hv hs) ?_
  refine dn hs ak ?_
  clear ak
  obtain ⟨bb,h⟩:=Zab h
  refine rl [1,2,3,12,13,14] hs (fun e s=>Vl8 ml8 e s (Nat.lt_succ_self _)) ?_
  exact ⟨(w+1),(d++([ba])),a9,([aw.cs]),ad,ef hs,ef hs,Owns.of_eq (hO) le_,h⟩
 ·
  clear h;rintro e st ⟨i,j,Xk5,Rk5,rfl,rfl,hO,h⟩
  rw [ZjY] at h
  have hU:=hO.unders
  simp only [List.mem_cons,List.not_mem_nil,or_false,forall_eq_or_imp,forall_eq] at hU
  refine td hN aa ae x hO ?_
  refine Zak (fun e st=>∃ (l:List Vl) (k:List (ByteArray × Vl)) (q:Ev.Own) (p:Ev.Own),Ck e st B Rw L [(2,true,.box (B.length+1) 0),(3,true,.box (B.length+2) 0)] [a0.cs,[.val (.int .i64 0),.val (.int .i64 0),.val (.int .i64 0),.val (.string ((⟨#[]⟩:ByteArray))),.list ([]) .full,.list ([]) .full],[.val (.int .i64 a0.kind),.val (.int .i64 a0.int),.val (.int .i64 a0.scale),.val (.string a0.text),.list (l.map avV) q,.list (k.map avF) p]] [(6,l.length,q),(7,k.length,p)] (ZiG rec n a0 l k=some r)) ?_ ?_
  ·
   intro K23 ay
   refine rg [2,3,27,28,29] hs ?_
   apply Zad
   refine Zao (fun m e st=>∃ (t:Int) (b:List Vl) (a:List (ByteArray × Vl)) (c:Ev.Own) (g:Ev.Own),Ck e st B Rw L [(2,true,.box (B.length+1) 0),(3,true,.box (B.length+2) 0),(27,true,.list (a0.fields.map avF) .none),(28,true,.val (.int .i64 ((a0.fields.length:Int)))),(29,true,.val (.int .i64 t))] [a0.cs,[.val (.int .i64 0),.val (.int .i64 0),.val (.int .i64 0),.val (.string ((⟨#[]⟩:ByteArray))),.list ([]) .full,.list ([]) .full],[.val (.int .i64 a0.kind),.val (.int .i64 a0.int),.val (.int .i64 a0.scale),.val (.string a0.text),.list (b.map avV) c,.list (a.map avF) g]] [(6,b.length,c),(7,a.length,g)] (ZeG rec n a0 m t b a=some r)) n ⟨0,i,([]),j,.full,([]),Rk5,ef hs,ef hs,Owns.of_eq (((hO).full 7 0).swap (List.Perm.swap _ _ _)) le_,h⟩ ?_
   rintro ml25 e st ⟨t,b,a,c,g,Xl25,Rl25,rfl,rfl,hO,h⟩ Ul25 Vl25
   cases ml25 with
   | zero=>cases h
   | succ ml25 =>
   rw [ZeG] at h
   have hU:=hO.unders
   simp only [List.mem_cons,List.not_mem_nil,or_false,forall_eq_or_imp,forall_eq] at hU
   obtain ⟨a8,a3⟩:=hU
   refine td hN aa ae x hO ?_
   refine rg [2,3,27,28,29,30] hs ?_
   apply Zaa;intro K27 ag
   refine cnd h hs (fun hs h=>?_) (fun hs h=>?_)
   rotate_left
   ·
    refine sx [2,3] hs ay ?_
    exact ⟨b,a,c,g,([]),Rl25,ef hs,ef hs,Owns.of_eq (((hO).swap (List.Perm.swap _ _ _)).swap (List.Perm.swap _ _ _)) le_,h⟩
   refine sk [2,3,27,28,29] hs ag ?_
   clear ag
   apply Zaa;intro K29 ai
   apply Zad
   obtain ⟨ab,ar,h⟩:=bind_some h
   obtain ⟨a1,a7,ao⟩:=Zan ar
   have aq:=Zap (f:=avF) ao
   have hs:=And.intro aq hs
   refine rg [2,3,7,27,28,29] hs ?_
   obtain ⟨az,ax,h⟩:=bind_some h
   obtain ⟨af,h⟩:=Zab h
   have hO:=hO.swap (List.Perm.swap _ _ _)
   obtain ⟨a6,z,hO,u⟩:=hO.append (P:=Tryz.prog) Zkb (by rw [Zf1];rfl) (by decide) 1 af.1 af.2
   replace u:=fun (ys:List AV) B L o2=>u (a.map avF) ys B L o2 le_
   replace u:=fun (y:AV) B L o2=>u [y] B L o2 le_ ev
   try simp only [List.mem_singleton,List.mem_cons,List.not_mem_nil,or_false,forall_eq_or_imp,forall_eq,List.map_append,List.map_cons,List.map_nil,Ze5,ZeV,Ze4,ZeU,Ze2,Zeu,Zdc,Zc0,ZeX,Zb9,Zcc,Zc1,Zc8,Zc7] at u
   have hs:=And.intro u hs
   refine dk 9 2 1 [2,3,27,28,29] hs mix ?_
   refine Zac _ (ih _ _ _ ab.2 _ ax) (hv hs) ?_
   refine dn hs ai ?_
   clear ai
   obtain ⟨bc,h⟩:=Zab h
   refine rl [2,3,27,28,29] hs (fun e s=>Vl25 ml25 e s (Nat.lt_succ_self _)) ?_
   exact ⟨(t+1),b,(a++([(ab.1,az)])),c,a6,([.val (.string ab.1)::(ab.2.cs)]),z,ef hs,ef hs,Owns.of_eq ((hO).swap (List.Perm.swap _ _ _)) le_,h⟩
  ·
   clear h;rintro e st ⟨l,k,q,p,Xk22,Rk22,rfl,rfl,hO,h⟩
   rw [ZiG] at h
   have hU:=hO.unders
   simp only [List.mem_cons,List.not_mem_nil,or_false,forall_eq_or_imp,forall_eq] at hU
   obtain ⟨a8,a3⟩:=hU
   refine td hN aa ae x hO ?_
   refine rg [2] hs ?_
   exact rt h hs x hO
theorem ZeZ (w0:World):∀ n:Nat,Zm2 w0 (Zbi n)
 | 0=>fun _ _ _ _ _ h=>(nomatch h)
 | n+1=>ZqR w0 (Zbi n) (ZeZ w0 n) n
def Zfq (rec:Ty→Option Ty) (n:Nat) (a0:Int × ByteArray × Int × Ty × List Vl) (y3:Ty) (x3_k8:List Vl):Option ((Int × ByteArray × Int × Ty × List Vl)) :=
 some ((a0.1,a0.2.1,a0.2.2.1,y3,x3_k8))
def Zch (rec:Ty→Option Ty) (n:Nat) (a0:Int × ByteArray × Int × Ty × List Vl) (y3:Ty):Nat→(List Vl)→Int→Option ((Int × ByteArray × Int × Ty × List Vl))
 | 0,_,_=>none
 | m+1,x3_l11,x17_l11 =>
  if decide (x17_l11<((a0.2.2.2.2.length:Int))) then
   (idx a0.2.2.2.2 x17_l11).bind fun x17 =>
   (Zbi n x17).bind fun y18 =>
   if (x3_l11.length+1)*88≤140737488355328∧x3_l11.length+1≤4611686018427387904 then
    if I64 (x17_l11+1) then
     (Zch rec n a0 y3 m) (x3_l11++([y18])) (x17_l11+1)
    else none
   else none
  else
   Zfq rec n a0 y3 x3_l11
def Zct (rec:Ty→Option Ty) (n:Nat) (a0:Int × ByteArray × Int × Ty × List Vl):Option ((Int × ByteArray × Int × Ty × List Vl)) :=
 (rec a0.2.2.2.1).bind fun y3 =>
 if 0≤(a0.2.2.2.2.length:Int)∧((a0.2.2.2.2.length:Int))*88≤140737488355328∧(a0.2.2.2.2.length:Int)≤4611686018427387904 then
  Zch rec n a0 y3 n ([]) 0
 else none
theorem Zi5 (w0:World) (rec:Ty→Option Ty) (ih:∀ (B:List (List AV)) (Rw:List RowA) (L:List LoopA) (a0:Ty) (r:Ty) (h:rec a0=some r),ACalls Tryz.prog w0 57 [.agg (a0.cs)] ⟨B,Rw,L⟩ fun x st=>x = .agg (r.cs)∧st=⟨B,Rw,L⟩) (n:Nat) (B:List (List AV)) (Rw:List RowA) (L:List LoopA) (a0:Int × ByteArray × Int × Ty × List Vl) (r:(Int × ByteArray × Int × Ty × List Vl)) (h:Zct rec n a0=some r) :
  ACalls Tryz.prog w0 105 [.agg (.val (.int .i64 a0.1)::(.val (.string a0.2.1)::(.val (.int .i64 a0.2.2.1)::((a0.2.2.2.1.cs)++([.list (a0.2.2.2.2.map avV) .none])))))] ⟨B,Rw,L⟩ fun x st=>x = .agg (.val (.int .i64 r.1)::(.val (.string r.2.1)::(.val (.int .i64 r.2.2.1)::((r.2.2.2.1.cs)++([.list (r.2.2.2.2.map avV) .none])))))∧st=⟨B,Rw,L⟩:=by
 rw [Zct] at h
 refine hd [.cell 2 54] Tryz.func105 Tryz.ntmps105 fun M0 W0 hN v aa j hu hO hs=>?_
 simp only [Zaq]
 refine rg [1,2] hs ?_
 obtain ⟨y3,af,h⟩:=bind_some h
 have hs:=And.intro (Ty.cs_eqs a0.2.2.2.1) hs
 have hs:=And.intro (Ty.cs_eqs y3) hs
 refine rc 2 [1,2] hs ?_;intro K2 ab
 refine Zac _ (ih _ _ _ a0.2.2.2.1 _ af) (hv hs) ?_
 refine ne hs ab ?_
 clear ab
 obtain ⟨ak,h⟩:=Zab h
 have hO:=hO.make 6 0
 refine rg [1,2,3] hs ?_
 refine Zak (fun e st=>∃ (i:List Vl) (g:Ev.Own),Ck e st B Rw L [(1,true,.box B.length 0),(2,true,.box (B.length+1) 0),(3,true,.list (i.map avV) g)] [[.val (.int .i64 a0.1),.val (.string a0.2.1),.val (.int .i64 a0.2.2.1),.val (.int .i64 y3.kind),.val (.int .i64 y3.min),.val (.int .i64 y3.max),.val (.int .i64 y3.scale),.list (y3.words.map avS) .none,.list (y3.elem.map avT) .none,.list (y3.fields.map ZeF) .none,.list (a0.2.2.2.2.map avV) .none],[.val (.int .i64 0),.val (.string ((⟨#[]⟩:ByteArray))),.val (.int .i64 0),.val (.int .i64 0),.val (.int .i64 0),.val (.int .i64 0),.val (.int .i64 0),.list ([]) .full,.list ([]) .full,.list ([]) .full,.list ([]) .full]] [(6,i.length,g)] (Zfq rec n a0 y3 i=some r)) ?_ ?_
 ·
  intro K9 ad
  refine rg [1,2,3,15,16,17] hs ?_
  apply Zad
  refine Zao (fun m e st=>∃ (a:List Vl) (b:Int) (c:Ev.Own),Ck e st B Rw L [(1,true,.box B.length 0),(2,true,.box (B.length+1) 0),(3,true,.list (a.map avV) c),(15,true,.list (a0.2.2.2.2.map avV) .none),(16,true,.val (.int .i64 ((a0.2.2.2.2.length:Int)))),(17,true,.val (.int .i64 b))] [[.val (.int .i64 a0.1),.val (.string a0.2.1),.val (.int .i64 a0.2.2.1),.val (.int .i64 y3.kind),.val (.int .i64 y3.min),.val (.int .i64 y3.max),.val (.int .i64 y3.scale),.list (y3.words.map avS) .none,.list (y3.elem.map avT) .none,.list (y3.fields.map ZeF) .none,.list (a0.2.2.2.2.map avV) .none],[.val (.int .i64 0),.val (.string ((⟨#[]⟩:ByteArray))),.val (.int .i64 0),.val (.int .i64 0),.val (.int .i64 0),.val (.int .i64 0),.val (.int .i64 0),.list ([]) .full,.list ([]) .full,.list ([]) .full,.list ([]) .full]] [(6,a.length,c)] (Zch rec n a0 y3 m a b=some r)) n ⟨([]),0,((.row Rw.length)),([]),((Rw++[.grow 0 6])),ef hs,ef hs,Owns.of_eq (hO) le_,h⟩ ?_
  rintro ml11 e st ⟨a,b,c,Xl11,Rl11,rfl,rfl,hO,h⟩ Ul11 Vl11
  cases ml11 with
  | zero=>cases h
  | succ ml11 =>
  rw [Zch] at h
  have hU:=hO.unders
  simp only [List.mem_cons,List.not_mem_nil,or_false,forall_eq_or_imp,forall_eq] at hU
  refine td hN v aa j hO ?_
  refine rg [1,2,3,15,16,17,18] hs ?_
  apply Zaa;intro K13 o
  refine cnd h hs (fun hs h=>?_) (fun hs h=>?_)
  rotate_left
  ·
   refine sx [1,2,3] hs ad ?_
   exact ⟨a,c,([]),Rl11,ef hs,ef hs,Owns.of_eq (hO) le_,h⟩
  refine sk [1,2,3,15,16,17] hs o ?_
  clear o
  apply Zaa;intro K15 l
  apply Zad
  obtain ⟨w,u,h⟩:=bind_some h
  obtain ⟨ai,ag,t⟩:=Zan u
  have q:=Zap (f:=avV) t
  have hs:=And.intro q hs
  refine rg [1,2,3,5,15,16,17] hs ?_
  obtain ⟨ae,z,h⟩:=bind_some h
  obtain ⟨p,h⟩:=Zab h
  obtain ⟨ah,k,hO,d⟩:=hO.append (P:=Tryz.prog) Zou (by rw [ZjH];rfl) (by decide) 1 p.1 p.2
  replace d:=fun (ys:List AV) B L o2=>d (a.map avV) ys B L o2 le_
  replace d:=fun (y:AV) B L o2=>d [y] B L o2 le_ ev
  try simp only [List.mem_singleton,List.mem_cons,List.not_mem_nil,or_false,forall_eq_or_imp,forall_eq,List.map_append,List.map_cons,List.map_nil,Ze5,ZeV,Ze4,ZeU,Ze2,Zeu,Zdc,Zc0,ZeX,Zb9,Zcc,Zc1,Zc8,Zc7] at d
  have hs:=And.intro d hs
  refine rk 2 [1,2,3,15,16,17] hs ?_
  refine Zac _ (ZeZ w0 n _ _ _ w _ z) (hv hs) ?_
  refine ne hs l ?_
  clear l
  obtain ⟨aj,h⟩:=Zab h
  refine rl [1,2,3,15,16,17] hs (fun e s=>Vl11 ml11 e s (Nat.lt_succ_self _)) ?_
  exact ⟨(a++([ae])),(b+1),ah,([w.cs]),k,ef hs,ef hs,Owns.of_eq (hO) le_,h⟩
 ·
  clear h;rintro e st ⟨i,g,Xk8,Rk8,rfl,rfl,hO,h⟩
  rw [Zfq] at h
  have hU:=hO.unders
  simp only [List.mem_cons,List.not_mem_nil,or_false,forall_eq_or_imp,forall_eq] at hU
  refine td hN v aa j hO ?_
  refine rg [1,2] hs ?_
  refine rg [2] hs ?_
  exact rt h hs j hO
def ZiB (rec:Ty→Option Ty) (n:Nat) (a0:Ty) (x3_k26:List Ty) (x6_k26:List (Int × ByteArray × Int × Ty × List Vl)):Option Ty :=
 if a0.words.length*16≤140737488355328 then
  some (Ty.mk a0.kind a0.min a0.max a0.scale a0.words x3_k26 x6_k26)
 else none
def ZeI (rec:Ty→Option Ty) (n:Nat) (a0:Ty):Nat→(List Ty)→(List (Int × ByteArray × Int × Ty × List Vl))→Int→Option Ty
 | 0,_,_,_=>none
 | m+1,x3_l29,x6_l29,x33_l29 =>
  if decide (x33_l29<((a0.fields.length:Int))) then
   (idx a0.fields x33_l29).bind fun x35 =>
   (Zct rec n x35).bind fun y36 =>
   if (x6_l29.length+1)*160≤140737488355328∧x6_l29.length+1≤4611686018427387904 then
    if I64 (x33_l29+1) then
     (ZeI rec n a0 m) x3_l29 (x6_l29++([y36])) (x33_l29+1)
    else none
   else none
  else
   ZiB rec n a0 x3_l29 x6_l29
def ZjV (rec:Ty→Option Ty) (n:Nat) (a0:Ty) (x3_k6:List Ty):Option Ty :=
 if 0≤(a0.fields.length:Int)∧((a0.fields.length:Int))*160≤140737488355328∧(a0.fields.length:Int)≤4611686018427387904 then
  ZeI rec n a0 n x3_k6 ([]) 0
 else none
def ZfE (rec:Ty→Option Ty) (n:Nat) (a0:Ty):Nat→(List Ty)→Int→Option Ty
 | 0,_,_=>none
 | m+1,x3_l9,x16_l9 =>
  if decide (x16_l9<((a0.elem.length:Int))) then
   (idx a0.elem x16_l9).bind fun x15 =>
   (rec x15).bind fun y16 =>
   if (x3_l9.length+1)*104≤140737488355328∧x3_l9.length+1≤4611686018427387904 then
    if I64 (x16_l9+1) then
     (ZfE rec n a0 m) (x3_l9++([y16])) (x16_l9+1)
    else none
   else none
  else
   ZjV rec n a0 x3_l9
def ZkE (rec:Ty→Option Ty) (n:Nat) (a0:Ty):Option Ty :=
 if 0≤(a0.elem.length:Int)∧((a0.elem.length:Int))*104≤140737488355328∧(a0.elem.length:Int)≤4611686018427387904 then
  ZfE rec n a0 n ([]) 0
 else none
def Zfd:Nat→Ty→Option Ty
 | 0,_=>none
 | n+1,a0=>ZkE (Zfd n) n a0
def ZmK (w0:World) (F:Ty→Option Ty):Prop:=∀ (B:List (List AV)) (Rw:List RowA) (L:List LoopA) (a0:Ty) (r:Ty),F a0=some r→ACalls Tryz.prog w0 57 [.agg (a0.cs)] ⟨B,Rw,L⟩ fun x st=>x = .agg (r.cs)∧st=⟨B,Rw,L⟩
theorem ZqB (w0:World) (rec:Ty→Option Ty) (ih:ZmK w0 rec) (n:Nat):ZmK w0 (ZkE rec n):=by
 intro B Rw L a0 r h
 rw [ZkE] at h
 refine hd [.cell 2 26] Tryz.func57 Tryz.ntmps57 fun M0 W0 hN aa ad w hu hO hs=>?_
 simp only [Zaq]
 refine rg [1,2] hs ?_
 obtain ⟨bg,h⟩:=Zab h
 have hO:=hO.make 7 0
 refine rg [1,2,3] hs ?_
 refine Zak (fun e st=>∃ (u:List Ty) (l:Ev.Own),Ck e st B Rw L [(1,true,.box B.length 0),(2,true,.box (B.length+1) 0),(3,true,.list (u.map avT) l)] [a0.cs,[.val (.int .i64 0),.val (.int .i64 0),.val (.int .i64 0),.val (.int .i64 0),.list ([]) .full,.list ([]) .full,.list ([]) .full]] [(7,u.length,l)] (ZjV rec n a0 u=some r)) ?_ ?_
 ·
  intro K7 a5
  refine rg [1,2,3,14,15,16] hs ?_
  apply Zad
  refine Zao (fun m e st=>∃ (d:List Ty) (t:Int) (p:Ev.Own),Ck e st B Rw L [(1,true,.box B.length 0),(2,true,.box (B.length+1) 0),(3,true,.list (d.map avT) p),(14,true,.list (a0.elem.map avT) .none),(15,true,.val (.int .i64 ((a0.elem.length:Int)))),(16,true,.val (.int .i64 t))] [a0.cs,[.val (.int .i64 0),.val (.int .i64 0),.val (.int .i64 0),.val (.int .i64 0),.list ([]) .full,.list ([]) .full,.list ([]) .full]] [(7,d.length,p)] (ZfE rec n a0 m d t=some r)) n ⟨([]),0,((.row Rw.length)),([]),((Rw++[.grow 0 7])),ef hs,ef hs,Owns.of_eq (hO) le_,h⟩ ?_
  rintro ml9 e st ⟨d,t,p,Xl9,Rl9,rfl,rfl,hO,h⟩ Ul9 Vl9
  cases ml9 with
  | zero=>cases h
  | succ ml9 =>
  rw [ZfE] at h
  have hU:=hO.unders
  simp only [List.mem_cons,List.not_mem_nil,or_false,forall_eq_or_imp,forall_eq] at hU
  refine td hN aa ad w hO ?_
  refine rg [1,2,3,14,15,16,17] hs ?_
  apply Zaa;intro K11 am
  refine cnd h hs (fun hs h=>?_) (fun hs h=>?_)
  rotate_left
  ·
   refine sx [1,2,3] hs a5 ?_
   exact ⟨d,p,([]),Rl9,ef hs,ef hs,Owns.of_eq (hO) le_,h⟩
  refine sk [1,2,3,14,15,16] hs am ?_
  clear am
  apply Zaa;intro K13 aj
  apply Zad
  obtain ⟨aw,av,h⟩:=bind_some h
  obtain ⟨a3,a7,ap⟩:=Zan av
  have aq:=Zap (f:=avT) ap
  have hs:=And.intro aq hs
  refine rg [1,2,3,5,14,15,16] hs ?_
  obtain ⟨a4,ay,h⟩:=bind_some h
  obtain ⟨ah,h⟩:=Zab h
  obtain ⟨a6,ab,hO,k⟩:=hO.append (P:=Tryz.prog) Zyt (by rw [Zte];rfl) (by decide) 1 ah.1 ah.2
  replace k:=fun (ys:List AV) B L o2=>k (d.map avT) ys B L o2 le_
  replace k:=fun (y:AV) B L o2=>k [y] B L o2 le_ ev
  try simp only [List.mem_singleton,List.mem_cons,List.not_mem_nil,or_false,forall_eq_or_imp,forall_eq,List.map_append,List.map_cons,List.map_nil,Ze5,ZeV,Ze4,ZeU,Ze2,Zeu,Zdc,Zc0,ZeX,Zb9,Zcc,Zc1,Zc8,Zc7] at k
  have hs:=And.intro k hs
  refine rk 2 [1,2,3,14,15,16] hs ?_
  refine Zac _ (ih _ _ _ aw _ ay) (hv hs) ?_
  refine ne hs aj ?_
  clear aj
  obtain ⟨bf,h⟩:=Zab h
  refine rl [1,2,3,14,15,16] hs (fun e s=>Vl9 ml9 e s (Nat.lt_succ_self _)) ?_
  exact ⟨(d++([a4])),(t+1),a6,([aw.cs]),ab,ef hs,ef hs,Owns.of_eq (hO) le_,h⟩
 ·
  clear h;rintro e st ⟨u,l,Xk6,Rk6,rfl,rfl,hO,h⟩
  rw [ZjV] at h
  have hU:=hO.unders
  simp only [List.mem_cons,List.not_mem_nil,or_false,forall_eq_or_imp,forall_eq] at hU
  refine td hN aa ad w hO ?_
  obtain ⟨bd,h⟩:=Zab h
  have hO:=hO.make 11 0
  refine rg [1,2,3,6] hs ?_
  refine Zak (fun e st=>∃ (o:List Ty) (q:List (Int × ByteArray × Int × Ty × List Vl)) (v:Ev.Own) (x:Ev.Own),Ck e st B Rw L [(1,true,.box B.length 0),(2,true,.box (B.length+1) 0),(3,true,.list (o.map avT) v),(6,true,.list (q.map ZeF) x)] [a0.cs,[.val (.int .i64 0),.val (.int .i64 0),.val (.int .i64 0),.val (.int .i64 0),.list ([]) .full,.list ([]) .full,.list ([]) .full]] [(7,o.length,v),(11,q.length,x)] (ZiB rec n a0 o q=some r)) ?_ ?_
  ·
   intro K27 au
   refine rg [1,2,3,6,31,32,33] hs ?_
   apply Zad
   refine Zao (fun m e st=>∃ (c:List Ty) (a:List (Int × ByteArray × Int × Ty × List Vl)) (i:Int) (b:Ev.Own) (g:Ev.Own),Ck e st B Rw L [(1,true,.box B.length 0),(2,true,.box (B.length+1) 0),(3,true,.list (c.map avT) b),(6,true,.list (a.map ZeF) g),(31,true,.list (a0.fields.map ZeF) .none),(32,true,.val (.int .i64 ((a0.fields.length:Int)))),(33,true,.val (.int .i64 i))] [a0.cs,[.val (.int .i64 0),.val (.int .i64 0),.val (.int .i64 0),.val (.int .i64 0),.list ([]) .full,.list ([]) .full,.list ([]) .full]] [(7,c.length,b),(11,a.length,g)] (ZeI rec n a0 m c a i=some r)) n ⟨u,([]),0,l,((.row Rk6.length)),([]),((Rk6++[.grow 0 11])),ef hs,ef hs,Owns.of_eq ((hO).swap (List.Perm.swap _ _ _)) le_,h⟩ ?_
   rintro ml29 e st ⟨c,a,i,b,g,Xl29,Rl29,rfl,rfl,hO,h⟩ Ul29 Vl29
   cases ml29 with
   | zero=>cases h
   | succ ml29 =>
   rw [ZeI] at h
   have hU:=hO.unders
   simp only [List.mem_cons,List.not_mem_nil,or_false,forall_eq_or_imp,forall_eq] at hU
   obtain ⟨a9,a2⟩:=hU
   refine td hN aa ad w hO ?_
   refine rg [1,2,3,6,31,32,33,34] hs ?_
   apply Zaa;intro K31 ak
   refine cnd h hs (fun hs h=>?_) (fun hs h=>?_)
   rotate_left
   ·
    refine sx [1,2,3,6] hs au ?_
    exact ⟨c,a,b,g,([]),Rl29,ef hs,ef hs,Owns.of_eq (((hO).swap (List.Perm.swap _ _ _)).swap (List.Perm.swap _ _ _)) le_,h⟩
   refine sk [1,2,3,6,31,32,33] hs ak ?_
   clear ak
   apply Zaa;intro K33 af
   apply Zad
   obtain ⟨z,ax,h⟩:=bind_some h
   obtain ⟨a8,bc,ar⟩:=Zan ax
   have ao:=Zap (f:=ZeF) ar
   have hs:=And.intro ao hs
   refine rg [1,2,3,6,8,31,32,33] hs ?_
   obtain ⟨bb,az,h⟩:=bind_some h
   obtain ⟨ai,h⟩:=Zab h
   have hO:=hO.swap (List.Perm.swap _ _ _)
   obtain ⟨ba,ae,hO,j⟩:=hO.append (P:=Tryz.prog) ZBP (by rw [ZwL];rfl) (by decide) 1 ai.1 ai.2
   replace j:=fun (ys:List AV) B L o2=>j (a.map ZeF) ys B L o2 le_
   replace j:=fun (y:AV) B L o2=>j [y] B L o2 le_ ev
   try simp only [List.mem_singleton,List.mem_cons,List.not_mem_nil,or_false,forall_eq_or_imp,forall_eq,List.map_append,List.map_cons,List.map_nil,Ze5,ZeV,Ze4,ZeU,Ze2,Zeu,Zdc,Zc0,ZeX,Zb9,Zcc,Zc1,Zc8,Zc7] at j
   have hs:=And.intro j hs
   refine rk 2 [1,2,3,6,31,32,33] hs ?_
   refine Zac _ (Zi5 w0 rec ih n _ _ _ z _ az) (hv hs) ?_
   refine ne hs af ?_
   clear af
   obtain ⟨be,h⟩:=Zab h
   refine rl [1,2,3,6,31,32,33] hs (fun e s=>Vl29 ml29 e s (Nat.lt_succ_self _)) ?_
   exact ⟨c,(a++([bb])),(i+1),b,ba,([.val (.int .i64 z.1)::(.val (.string z.2.1)::(.val (.int .i64 z.2.2.1)::((z.2.2.2.1.cs)++([.list (z.2.2.2.2.map avV) .none]))))]),ae,ef hs,ef hs,Owns.of_eq ((hO).swap (List.Perm.swap _ _ _)) le_,h⟩
  ·
   clear h;rintro e st ⟨o,q,v,x,Xk26,Rk26,rfl,rfl,hO,h⟩
   rw [ZiB] at h
   have hU:=hO.unders
   simp only [List.mem_cons,List.not_mem_nil,or_false,forall_eq_or_imp,forall_eq] at hU
   obtain ⟨a9,a2⟩:=hU
   refine td hN aa ad w hO ?_
   obtain ⟨a1,h⟩:=Zab h
   have hs:=And.intro (Ty.cs_eqs a0) hs
   refine rc 2 [1,2] hs ?_;intro K42 ag
   refine Zac _ (ZkC w0 _ _ _ a0.words a1) (hv hs) ?_
   refine ne hs ag ?_
   clear ag
   refine rg [2] hs ?_
   exact rt h hs w hO
theorem Zop (w0:World):∀ n:Nat,ZmK w0 (Zfd n)
 | 0=>fun _ _ _ _ _ h=>(nomatch h)
 | n+1=>ZqB w0 (Zfd n) (Zop w0 n) n
def ZcQ (n:Nat)  : Option Int :=
 some ((-1))
def Zaw (n:Nat) (a0:List (Int × ByteArray × Int × Ty × List Vl)) (a1:(Int × ByteArray × Int × Ty × List Vl)→Option Bool):Nat→Int→Option Int
 | 0,_=>none
 | m+1,x8_l6 =>
  if decide (x8_l6<((a0.length:Int))) then
   (idx a0 x8_l6).bind fun x13 =>
   (a1 x13).bind fun y14 =>
   if y14 then
    some (x8_l6)
   else
    if I64 (x8_l6+1) then
     (Zaw n a0 a1 m) (x8_l6+1)
    else none
  else
   ZcQ n 
def Zay (n:Nat) (a0:List (Int × ByteArray × Int × Ty × List Vl)) (a1:(Int × ByteArray × Int × Ty × List Vl)→Option Bool):Option Int :=
 Zaw n a0 a1 n 0
theorem ZbY (w0:World) (n:Nat) (B:List (List AV)) (Rw:List RowA) (L:List LoopA) (a0:List (Int × ByteArray × Int × Ty × List Vl)) (fa1:FuncId) (ca1:List AV) (a1:(Int × ByteArray × Int × Ty × List Vl)→Option Bool) (ha1:∀ (x0:Int × ByteArray × Int × Ty × List Vl) r,a1 x0=some r→∀ B' rows,B <+: B'→Rw <+: rows→ACalls Tryz.prog w0 fa1 ([.agg (.val (.int .i64 x0.1)::(.val (.string x0.2.1)::(.val (.int .i64 x0.2.2.1)::((x0.2.2.2.1.cs)++([.list (x0.2.2.2.2.map avV) .none])))))]++ca1) ⟨B',rows,L⟩ fun v s=>v = .val (.bool r)∧s=⟨B',rows,L⟩) (r:Int) (h:Zay n a0 a1=some r) :
  ACalls Tryz.prog w0 127 [.list (a0.map ZeF) .none,.clo fa1 ca1] ⟨B,Rw,L⟩ fun x st=>x = .val (.int .i64 r)∧st=⟨B,Rw,L⟩:=by
 rw [Zay] at h
 refine hd [.tmp 4] Tryz.func127 Tryz.ntmps127 fun M0 W0 hN k q a hu hO hs=>?_
 simp only [Zaq]
 have c:=ZbC (hu (.clo fa1 ca1) (by simp))
 refine rg [0,1] hs ?_
 refine Zak (fun e st=>Ck e st B Rw L [] [] [] (ZcQ n  = some r)) ?_ ?_
 ·
  intro K4 t
  refine rg [0,1,7,8] hs ?_
  apply Zad
  refine Zao (fun m e st=>∃ (b:Int),Ck e st B Rw L [(0,true,.list (a0.map ZeF) .none),(1,true,.clo fa1 ca1),(7,true,.val (.int .i64 ((a0.length:Int)))),(8,true,.val (.int .i64 b))] [] [] (Zaw n a0 a1 m b=some r)) n ⟨0,([]),Rw,ef hs,ef hs,hO,h⟩ ?_
  rintro ml6 e st ⟨b,Xl6,Rl6,rfl,rfl,hO,h⟩ Ul6 Vl6
  cases ml6 with
  | zero=>cases h
  | succ ml6 =>
  rw [Zaw] at h
  refine ZaD hN k q rfl a hO (owf c hO) (owf c hO) ?_
  refine rg [0,1,7,8,9] hs ?_
  apply Zaa;intro K8 o
  refine cnd h hs (fun hs h=>?_) (fun hs h=>?_)
  rotate_left
  ·
   refine sx [] hs t ?_
   exact ⟨([]),Rl6,ef hs,ef hs,hO,h⟩
  refine sk [0,1,7,8] hs o ?_
  clear o
  apply Zaa;intro K10 d
  apply Zad
  refine rg [0,1,5,7,8] hs ?_
  obtain ⟨u,l,h⟩:=bind_some h
  obtain ⟨w,y,i⟩:=Zan l
  have j:=Zap (f:=ZeF) i
  obtain ⟨aa,p,h⟩:=bind_some h
  have hs:=And.intro j hs
  refine rc 2 [0,1,5,7,8,16] hs ?_;intro K12 g
  refine ZeR _ (ha1 u _ p _ _ px hO.pre) (hv hs) ?_
  refine ne hs g ?_
  clear g
  refine cnd h hs (fun hs h=>?_) (fun hs h=>?_)
  ·
   refine rg [4] hs ?_
   exact rt h hs a hO
  refine sk [0,1,7,8] hs d ?_
  clear d
  obtain ⟨z,h⟩:=Zab h
  refine rl [0,1,7,8] hs (fun e s=>Vl6 ml6 e s (Nat.lt_succ_self _)) ?_
  exact ⟨(b+1),([]),Rl6,ef hs,ef hs,hO,h⟩
 ·
  clear h;rintro e st ⟨Xk3,Rk3,rfl,rfl,hO,h⟩
  rw [ZcQ] at h
  refine ZaD hN k q rfl a hO (owf c hO) (owf c hO) ?_
  refine rg [4] hs ?_
  exact rt h hs a hO
def ZfY (n:Nat) (a0:Ty) (a1:(Int × ByteArray × Int × Ty × List Vl)→Option Bool):Option ((Int × ByteArray × Int × Ty × List Vl) × Bool) :=
 if (!(decide (a0.kind=9)))&&(!(decide (a0.kind=10))) then
  some (((0,(⟨#[]⟩:ByteArray),0,Ty.mk 0 0 0 0 ([]) ([]) ([]),[]),false))
 else
  (Zay n a0.fields a1).bind fun y7 =>
  if decide (y7<0) then
   some (((0,(⟨#[]⟩:ByteArray),0,Ty.mk 0 0 0 0 ([]) ([]) ([]),[]),false))
  else
   (idx a0.fields y7).bind fun x13 =>
   (Zct (Zfd n) n x13).bind fun y14 =>
   some ((y14,true))
theorem Zvt (w0:World) (n:Nat) (B:List (List AV)) (Rw:List RowA) (L:List LoopA) (a0:Ty) (fa1:FuncId) (ca1:List AV) (a1:(Int × ByteArray × Int × Ty × List Vl)→Option Bool) (ha1:∀ (x0:Int × ByteArray × Int × Ty × List Vl) r,a1 x0=some r→∀ B' rows,B <+: B'→Rw <+: rows→ACalls Tryz.prog w0 fa1 ([.agg (.val (.int .i64 x0.1)::(.val (.string x0.2.1)::(.val (.int .i64 x0.2.2.1)::((x0.2.2.2.1.cs)++([.list (x0.2.2.2.2.map avV) .none])))))]++ca1) ⟨B',rows,L⟩ fun v s=>v = .val (.bool r)∧s=⟨B',rows,L⟩) (r:(Int × ByteArray × Int × Ty × List Vl) × Bool) (h:ZfY n a0 a1=some r) :
  ACalls Tryz.prog w0 70 [.agg (a0.cs),.clo fa1 ca1] ⟨B,Rw,L⟩ fun x st=>x = .tup [.agg (.val (.int .i64 r.1.1)::(.val (.string r.1.2.1)::(.val (.int .i64 r.1.2.2.1)::((r.1.2.2.2.1.cs)++([.list (r.1.2.2.2.2.map avV) .none]))))),.val (.bool r.2)]∧st=⟨B,Rw,L⟩:=by
 rw [ZfY] at h
 refine hd [.cell 4 54,.tmp 5] Tryz.func70 Tryz.ntmps70 fun M0 W0 hN w y a hu hO hs=>?_
 simp only [Zaq]
 have p:=ZbC (hu (.clo fa1 ca1) (by simp))
 refine rg [1,2,4] hs ?_
 apply Zaa;intro K2 l
 refine rg [1,2,4,14] hs ?_
 refine cnd h hs (fun hs h=>?_) (fun hs h=>?_)
 ·
  refine rg [4,5] hs ?_
  exact rt h hs a hO
 refine sk [1,2,4] hs l ?_
 clear l
 obtain ⟨y7,t,h⟩:=bind_some h
 refine rc 2 [2,4,6] hs ?_;intro K6 i
 refine Zac _ (ZbY w0 n _ _ _ a0.fields fa1 ca1 a1 (fun x0 r hx u b q1 q2=>ha1 x0 r hx u b (List.IsPrefix.trans px q1) (hO.pre.trans q2)) _ t) (hv hs) ?_
 refine ne hs i ?_
 clear i
 apply Zaa;intro K8 j
 refine rg [2,4,6,21] hs ?_
 refine cnd h hs (fun hs h=>?_) (fun hs h=>?_)
 ·
  refine rg [4,5] hs ?_
  exact rt h hs a hO
 refine sk [2,4,6] hs j ?_
 clear j
 obtain ⟨m,g,h⟩:=bind_some h
 obtain ⟨q,o,d⟩:=Zan g
 have e:=Zap (f:=ZeF) d
 obtain ⟨z,k,h⟩:=bind_some h
 have hs:=And.intro e hs
 refine rc 2 [4,5] hs ?_;intro K12 c
 refine Zac _ (Zi5 w0 (Zfd n) (Zop w0 n) n _ _ _ m _ k) (hv hs) ?_
 refine ne hs c ?_
 clear c
 exact rt h hs a hO
def Zfj (n:Nat) (a0:Ty) (a1:ByteArray):Option ((Int × ByteArray × Int × Ty × List Vl) × Bool) :=
 (ZfY n a0 (fun (x0:Int × ByteArray × Int × Ty × List Vl)=>some (Zg6 x0 a1))).bind fun y3 =>
 some ((y3.1,y3.2))
theorem ZlM (w0:World) (n:Nat) (B:List (List AV)) (Rw:List RowA) (L:List LoopA) (a0:Ty) (a1:ByteArray) (r:(Int × ByteArray × Int × Ty × List Vl) × Bool) (h:Zfj n a0 a1=some r) :
  ACalls Tryz.prog w0 25 [.agg (a0.cs),.val (.string a1)] ⟨B,Rw,L⟩ fun x st=>x = .tup [.agg (.val (.int .i64 r.1.1)::(.val (.string r.1.2.1)::(.val (.int .i64 r.1.2.2.1)::((r.1.2.2.2.1.cs)++([.list (r.1.2.2.2.2.map avV) .none]))))),.val (.bool r.2)]∧st=⟨B,Rw,L⟩:=by
 rw [Zfj] at h
 refine hd [.cell 4 54,.tmp 5] Tryz.func25 Tryz.ntmps25 fun M0 W0 hN d f a hu hO hs=>?_
 simp only [Zaq]
 refine rg [2,3,4] hs ?_
 obtain ⟨y3,hy3,h⟩:=bind_some h
 refine rc 2 [4,5] hs ?_;intro K2 b
 refine Zac _ (Zvt w0 n _ _ _ a0 71 [.box (B.length+1) 0] (fun (x0:Int × ByteArray × Int × Ty × List Vl)=>some (Zg6 x0 a1)) (fun x0 r hx B' c hB' e=>by cases hx;exact Zpw w0 _ _ _ x0 _ a1 (ZcE hB' ev)) _ hy3) (hv hs) ?_
 refine ne hs b ?_
 clear b
 exact rt h hs a hO
end Go.Proofs.YtgpmlelfkjfbiaaGreatDoor
namespace Go.Ev
open Go Go.RowKit
def Mem.start:Mem:=⟨0,0,fun _=>0,fun _=>0,fun _=>0,fun _=>0,fun _=>0,fun _=>0,0,fun _=>0⟩
theorem Zv7 (W:World):RelSt W Mem.start ⟨[],[],[]⟩ W where
 below := .refl _ _
 N:=rfl
 NR:=rfl
 top:=fun _ _=>rfl
 inj:=fun _ _ h=>absurd h (Nat.not_lt_zero _)
 box:=fun _ _ h=>by simp at h
 row:=fun _ _ h=>by simp at h
 rowinj:=fun _ _ h=>absurd h (Nat.not_lt_zero _)
 loop:=⟨rfl,fun _ _ h=>absurd h (Nat.not_lt_zero _),fun _ _ h=>by simp at h⟩
theorem ZnN {P:Program} {f:FuncId} {W:World} {vals:Array Value} {args:List AV} {r:Value} (h:ACalls P W f args ⟨[],[],[]⟩ fun v st=>v = .val r∧st=⟨[],[],[]⟩) (hr:RowR W Mem.start W vals args) :
  Calls P f vals W fun e w'=>e = .returned r∧Below W.heap.size W w' :=
 (h.2 Mem.start W vals (Zv7 W) hr).mono fun en w' ⟨v,M',a,st,h1,⟨h2,_⟩,_,h4,h5⟩=>by
  subst h2
  have:=h5.val_inv.1
  subst this
  exact ⟨h1,h4.below⟩
theorem Zyf {W:World} {v u:Value} {x y:AV} (h:R W Mem.start W v x) (k:R W Mem.start W u y):RowR W Mem.start W #[v,u] [x,y]:=⟨rfl,fun i h1 h2=>by
 have:i=0∨i=1:=by simp at h2;omega
 rcases this with rfl | rfl
 ·
  exact h
 ·
  exact k⟩
end Go.Ev
namespace Go.Proofs.YtgpmlelfkjfbiaaGreatDoor
open Go Go.Shelf Go.ChangeShapes Go.WideShapes Go.ChangeAt Go.RowKit Go.Lib Go.Ev
open Go.ChangeMaps (open_string shut_string)
set_option maxRecDepth 100000
theorem ZAp:ownKnob Tryz.prog.godebug=none:=by kernel_rfl
def ZDm:DataW Unit→List Value
 | .lit (.int k z)=>[.int k z]
 | .agg l=>l.flatMap fun | .lit (.int k z)=>[.int k z] | _=>[]
 | _=>[]
def ZCR:DataW Unit→List Value
 | .agg l=>l.flatMap ZDm
 | _=>[]
noncomputable def ZmA (os:Os):World :=
 let w0:=World.holding Tryz.prog os ⟨#[],#[],[]⟩
 let put (h:Array Obj) (g:Nat) (d:DataW Unit):Array Obj:=h.modify g fun
  | .cells _ t frozen => .cells (ZCR d).toArray t frozen
  | o=>o
 { w0 with heap:=put (put (put (put (put w0.heap 0 Rows.laid_unicode_utf8_first) 1 Rows.laid_unicode_utf8_acceptRanges) 3 Rows.laid_internal_strconv_uint64pow10) 4 Rows.laid_math_bits_deBruijn32tab) 5 Rows.laid_math_bits_deBruijn64tab }
theorem ZqJ (os:Os) (args:Array Value):laidMet Tryz.prog Rows.schemaLeavesRow.laid ((ZmA os).forCall (fun _ _=>0) ⟨#[],args,[]⟩).memory :=
 (LaidIn.of_run (l:=Rows.schemaLeavesRow.laid) [4,5,3,1,0] 8 (by kernel_rfl) (by kernel_rfl) (by kernel_rfl) (by kernel_rfl)).met
theorem Zn5 {W:World} (h:Lib.VarReads Tryz.prog W Zk5 Rows.laid_internal_strconv_uint64pow10):Pow10 W:=by
 obtain ⟨g,t,cs,a,p,h1,h2,h3,h4⟩:=h
 obtain rfl:=Option.some.inj ((show Tryz.prog.globalNamed Zk5=some 3 by kernel_rfl).symm.trans h1)
 obtain rfl:=Option.some.inj ((show (Tryz.prog.globals[3]?).map (·.type)=some 247 by kernel_rfl).symm.trans h2)
 have e:(Rows.laid_internal_strconv_uint64pow10:DataW Unit)=Lib.tabData .u64 Lib.pow10Tab:=by kernel_rfl
 rw [e] at h4
 unfold Pow10 Lib.TabIs
 rw [h3,←Lib.cells_of_tab (n:=20) (k := .u64) (zs:=Lib.pow10Tab) Tryz.underlying247 Tryz.underlying216 (by kernel_rfl) (by kernel_rfl) h4]
theorem ZwM {W:World} (hL:laidMet Tryz.prog Rows.schemaLeavesRow.laid W):Lib.Utf8Tabs 0 1 W∧Pow10 W :=
 ⟨utf8Tabs_of_readsT (U8Types.of196 Tryz.laysValid) ⟨by kernel_rfl,by kernel_rfl,by kernel_rfl,by kernel_rfl,by kernel_rfl,by kernel_rfl,by kernel_rfl⟩ (Lib.laidMet.reads hL (.tail _ (.tail _ (.tail _ (.tail _ (.head _)))))) (Lib.laidMet.reads hL (.tail _ (.tail _ (.tail _ (.head _))))),
  Zn5 (Lib.laidMet.reads hL (.tail _ (.tail _ (.head _))))⟩
set_option maxRecDepth 100000
mutual
def Vl.wf:Vl→Prop
 | .mk k i s t l f=>I64 k∧I64 i∧I64 s∧t.size≤maxLen∧l.length≤maxLen∧f.length≤maxLen∧ZBE l∧ZBy f
def ZBE:List Vl→Prop
 | []=>True
 | v::r=>v.wf∧ZBE r
def ZBy:List (ByteArray × Vl)→Prop
 | []=>True
 | (n,v)::r=>n.size≤maxLen∧v.wf∧ZBy r
end
theorem ZsV:∀ l,ZBE l↔∀ v∈l,v.wf
 | []=>by simp [ZBE]
 | v::r=>by simp [ZBE,ZsV r]
theorem ZsQ:∀ l,ZBy l↔∀ p∈l,p.1.size≤maxLen∧p.2.wf
 | []=>by simp [ZBy]
 | (n,v)::r=>by simp [ZBy,ZsQ r,and_assoc]
mutual
def Ty.wf:Ty→Prop
 | .mk k lo hi s w e f=>I64 k∧I64 lo∧I64 hi∧I64 s∧(∀ x∈w,x.size≤maxLen)∧w.length≤maxLen∧e.length≤maxLen∧f.length≤maxLen∧ZCo e∧ZvJ f
def ZCo:List Ty→Prop
 | []=>True
 | v::r=>v.wf∧ZCo r
def ZvJ:List (Int × ByteArray × Int × Ty × List Vl)→Prop
 | []=>True
 | (n,s,d,t,l)::r=>(I64 n∧s.size≤maxLen∧I64 d∧t.wf∧l.length≤maxLen∧∀ v∈l,v.wf)∧ZvJ r
end
theorem ZsD:∀ l,ZCo l↔∀ v∈l,v.wf
 | []=>by simp [ZCo]
 | v::r=>by simp [ZCo,ZsD r]
theorem Zru:∀ l,ZvJ l↔∀ p∈l,I64 p.1∧p.2.1.size≤maxLen∧I64 p.2.2.1∧p.2.2.2.1.wf∧p.2.2.2.2.length≤maxLen∧∀ v∈p.2.2.2.2,v.wf
 | []=>by simp [ZvJ]
 | (n,s,d,t,l)::r=>by simp [ZvJ,Zru r]
mutual
def Vl.bulk:Vl→Nat
 | .mk _ _ _ t l f=>1+t.size+ZgO l+Zl0 f
def ZgO:List Vl→Nat
 | []=>0
 | v::r=>v.bulk+ZgO r
def Zl0:List (ByteArray × Vl)→Nat
 | []=>0
 | (n,v)::r=>n.size+v.bulk+Zl0 r
end
def ZkN:List ByteArray→Nat
 | []=>0
 | w::r=>w.size+1+ZkN r
mutual
def Ty.bulk:Ty→Nat
 | .mk _ _ _ _ w e f=>1+ZkN w+Zmd e+Zjo f
def Zmd:List Ty→Nat
 | []=>0
 | v::r=>v.bulk+Zmd r
def Zjo:List (Int × ByteArray × Int × Ty × List Vl)→Nat
 | []=>0
 | (_,n,_,t,l)::r=>n.size+t.bulk+ZgO l+Zjo r
end
theorem ZlB:∀ l,ZgO l=(l.map Vl.bulk).sum
 | []=>rfl
 | v::r=>by rw [ZgO,ZlB r];rfl
theorem Zoh:∀ l,Zl0 l=(l.map fun p=>p.1.size+p.2.bulk).sum
 | []=>rfl
 | (n,v)::r=>by rw [Zl0,Zoh r];rfl
theorem ZoH:∀ l,ZkN l=(l.map fun w=>w.size+1).sum
 | []=>rfl
 | v::r=>by rw [ZkN,ZoH r];rfl
theorem Zow:∀ l,Zmd l=(l.map Ty.bulk).sum
 | []=>rfl
 | v::r=>by rw [Zmd,Zow r];rfl
theorem ZmE:∀ l,Zjo l=(l.map fun p=>p.2.1.size+p.2.2.2.1.bulk+ZgO p.2.2.2.2).sum
 | []=>rfl
 | (a,n,b,t,l)::r=>by rw [Zjo,ZmE r];rfl
def Part.wf (p:Part):Prop:=I64 p.kind∧I64 p.index∧p.name.size≤maxLen
def Sch.wf (s:Sch):Prop:=s.name.size≤maxLen∧I64 s.version∧s.type.wf
section
variable {H:Type} {enc:TypeId × Value→H} {W:World}
def RC (W:World) (cs:List Value) (xs:List AV):Prop:=cs.length=xs.length∧∀ i (h1:i<cs.length) (h2:i<xs.length),R W Mem.start W cs[i] xs[i]
theorem RC.nil:RC W [] []:=⟨rfl,fun i h1=>absurd h1 (by simp)⟩
theorem RC.cons {v:Value} {x:AV} {cs:List Value} {xs:List AV} (h:R W Mem.start W v x) (k:RC W cs xs):RC W (v::cs) (x::xs):=⟨by simp [k.1],fun i h1 h2=>by
 cases i with
 | zero=>exact h
 | succ i=>simpa using k.2 i (by simpa using h1) (by simpa using h2)⟩
theorem RC.app {cs ds:List Value} {xs ys:List AV} (h:RC W cs xs) (k:RC W ds ys):RC W (cs++ds) (xs++ys):=by
 refine ⟨by simp [h.1,k.1],fun i h1 h2=>?_⟩
 by_cases c:i<cs.length
 ·
  rw [List.getElem_append_left c,List.getElem_append_left (h.1▸c)];exact h.2 i c _
 ·
  rw [List.getElem_append_right (Nat.le_of_not_lt c),List.getElem_append_right (h.1▸Nat.le_of_not_lt c)]
  simp only [h.1]
  exact k.2 _ (by have:=h.1;rw [List.length_append] at h1;omega) (by have:=h.1;rw [List.length_append] at h2;omega)
theorem RC.agg {cs:List Value} {xs:List AV} (h:RC W cs xs) (h1:∀ x∈xs,x.one=true):R W Mem.start W (.agg cs.toArray) (.agg xs) := .agg (by simpa using h.1) h1 (fun i a b=>by simpa using h.2 i (by simpa using a) b)
noncomputable abbrev Td (enc:TypeId × Value→H) (W:World) (n:Nat) (t:TypeId) (cs:List Value):Option (DataW H × List MemPlace):=DataW.trod enc Tryz.prog W 0 (fun _=>true) true n t cs
theorem ZnJ (d:DataW H):1≤Rows.uptoBulk d:=by
 cases d with
 | lit l=>cases l<;>simp [Rows.uptoBulk]
 | _=>simp [Rows.uptoBulk]
theorem Zry {α:Type} (m:α→Nat):∀ (l:List α) (es:List (DataW H × List MemPlace)),l.length=es.length→(∀ i (h1:i<l.length) (h2:i<es.length),m l[i]≤Rows.uptoBulk es[i].1)→(l.map m).sum≤Rows.uptoBulkAll (es.map (·.1))
 | [],_,_,_=>by simp
 | y::r,[],h,_=>by simp at h
 | y::r,e::es,h,k=>by
  have h0:=k 0 (by simp) (by simp)
  have:=Zry m r es (by simpa using h) (fun i h1 h2=>by have:=k (i+1) (by simpa using h1) (by simpa using h2);simpa using this)
  simp only [List.map_cons,List.sum_cons,Rows.uptoBulkAll,List.getElem_cons_zero] at h0 ⊢
  omega
theorem ZkW {n:Nat} {cs:List Value} {x:DataW H × List MemPlace} (h:Td enc W n 3 cs=some x):∃ z,I64 z∧cs=[.int .i64 z]:=by
 obtain ⟨z,rfl,_,hw⟩:=DataW.trod_int Tryz.underlying3 h
 refine ⟨z,?_,rfl⟩
 simp [Lit.wf,IntKind.min,IntKind.max,IntKind.signed,IntKind.bits] at hw
 unfold I64
 omega
theorem Zs3 {n:Nat} {cs:List Value} {x:DataW H × List MemPlace} (h:Td enc W n 9 cs=some x):∃ s:ByteArray,s.size≤maxLen∧cs=[.string s]∧s.size+1≤Rows.uptoBulk x.1:=by
 obtain ⟨s,rfl,rfl,hw⟩:=DataW.trod_string Tryz.underlying9 h
 exact ⟨s,hw,rfl,by simp [Rows.uptoBulk]⟩
theorem ZjJ {α:Type} (f:α→AV) (p:α→Prop) (m:α→Nat) {t e:TypeId} {sz:Nat} (ht:Tryz.prog.underlying t=some (.slice e)) (hc:Tryz.prog.cellsOf e=sz) (hsz:0<sz) {n:Nat}
  (H0:∀ cs x,Td enc W n e cs=some x→∃ y u,p y∧u.cells.toList=cs∧R W Mem.start W u (f y)∧m y≤Rows.uptoBulk x.1) {cs:List Value} {x:DataW H × List MemPlace} (h:Td enc W (n+1) t cs=some x) :
  ∃ (l:List α) (v:Value),(∀ y∈l,p y)∧l.length≤maxLen∧cs=[v]∧R W Mem.start W v (.list (l.map f) .none)∧(l.map m).sum+1≤Rows.uptoBulk x.1:=by
 rcases DataW.trod_slice ht h with ⟨rfl,_⟩ | ⟨a,len,cap,elems,rest,n',hn,rfl,rfl,hb,hl,hm,hlen,hel,hsp,_⟩
 ·
  exact ⟨[],_,by simp,by simp,rfl,.nil (fun id=>by simp),by simpa using ZnJ x.1⟩
 ·
  cases hn
  by_cases hcap:cap=0
  ·
   subst hcap
   obtain rfl:len=0:=by omega
   exact ⟨[],_,by simp,by simp,rfl,.emp (fun id=>by simp),by simpa using ZnJ _⟩
  have hspot:a.spot=none:=by
   have get:∀ (c:DataW H × List MemPlace) (r:List Value→Option (DataW H × List MemPlace)),(W.cells? 0 (a.add (0*Tryz.prog.cellsOf e)) (Tryz.prog.cellsOf e)).bind r=some c→a.spot=none:=fun c r hr=>by
    obtain ⟨aa,h1,_⟩:=Option.bind_eq_some_iff.1 hr
    obtain ⟨_,h2,h3⟩:=World.cells?_some h1
    have h4:=h3 0 (by omega)
    rw [List.getElem?_eq_getElem (by omega)] at h4
    have e0:(a.add (0*Tryz.prog.cellsOf e)).add 0=a:=by simp [Addr.add]
    rw [e0] at h4
    unfold World.cell? at h4
    split at h4
    ·
     split at h4
     ·
      cases h4
     ·
      rename_i q;simpa using q
    ·
     cases h4
   by_cases h0:0<len
   ·
    have:=hel 0 h0
    rw [List.getElem?_eq_getElem (by omega)] at this
    exact get _ _ this
   ·
    obtain ⟨h1,h2⟩:=hsp rfl
    have:=h2 0 (by omega)
    rw [List.getElem?_eq_getElem (by omega)] at this
    obtain rfl:len=0:=by omega
    exact get _ _ this
  obtain ⟨b,off,sp⟩:=a
  simp only at hspot
  subst hspot
  have s:∀ i,i<len→∃ y u,p y∧R W Mem.start W u (f y)∧(∀ h:i<elems.length,m y≤Rows.uptoBulk elems[i].1)∧u.cells.size=sz∧∀ j,j<sz→W.cell? ⟨b,off+i*sz+j,none⟩=u.cells[j]? := fun i hi=>by
   have h1:=hel i hi
   rw [List.getElem?_eq_getElem (by omega)] at h1
   obtain ⟨aa,h2,h3⟩:=Option.bind_eq_some_iff.1 h1
   obtain ⟨y,u,h4,h5,h6,ab⟩:=H0 _ _ h3
   obtain ⟨_,h7,h8⟩:=World.cells?_some h2
   rw [hc] at h7 h8
   refine ⟨y,u,h4,h6,fun _=>ab,by rw [←h7,←h5,Array.length_toList],fun j hj=>?_⟩
   have:=h8 j hj
   rw [←h5,Array.getElem?_toList] at this
   rw [←this]
   congr 1
   have ea:∀ (o m:Nat),(⟨b,o,none⟩:Addr).add m=⟨b,o+m,none⟩:=fun o m=>by unfold Addr.add;split<;>simp_all
   rw [ea,ea]
  classical
  let y:Nat→Option (α × Value):=fun i=>if hi:i<len then some (Classical.choose (s i hi),Classical.choose (Classical.choose_spec (s i hi))) else none
  have ad:len=0∨Nonempty (α × Value):=by
   by_cases h0:0<len
   ·
    obtain ⟨z,u,_⟩:=s 0 h0;exact .inr ⟨(z,u)⟩
   ·
    exact .inl (by omega)
  rcases ad with h0 | ⟨⟨d⟩⟩
  ·
   subst h0
   exact ⟨[],_,by simp,by simp,rfl,.list (xs:=[]) 0 (fun _=>undef) (Nat.zero_le _) hm (fun i hi=>absurd hi (by simp)) (fun i hi=>absurd hi (by simp)) trivial,by simpa using ZnJ _⟩
  ·
   let g:Nat→α × Value:=fun i=>if hi:i<len then (Classical.choose (s i hi),Classical.choose (Classical.choose_spec (s i hi))) else d
   have hg:∀ i,i<len→p (g i).1∧R W Mem.start W (g i).2 (f (g i).1)∧(∀ h:i<elems.length,m (g i).1≤Rows.uptoBulk elems[i].1)∧(g i).2.cells.size=sz∧∀ j,j<sz→W.cell? ⟨b,off+i*sz+j,none⟩=(g i).2.cells[j]? := fun i hi=>by
    have:=Classical.choose_spec (Classical.choose_spec (s i hi))
    simp only [g,dif_pos hi]
    exact this
   have k:(((List.range len).map fun i=>(g i).1).map f).length=len:=by simp
   refine ⟨(List.range len).map fun i=>(g i).1,.slice (some ⟨b,off,none⟩) len cap,fun z hz=>?_,by simp;omega,rfl,?_,?_⟩
   ·
    obtain ⟨i,hi,rfl⟩:=List.mem_map.1 hz
    exact (hg i (by simpa using hi)).1
   ·
    have:=Ev.R.list (w0:=W) (M:=Ev.Mem.start) (w:=W) (b:=b) (off:=off) (cap:=cap) (xs:=((List.range len).map fun i=>(g i).1).map f) (o := .none) sz (fun i=>(g i).2) (by rw [k];exact hl) hm
     (fun i hi=>by
      rw [k] at hi
      obtain ⟨_,_,_,h3,h4⟩:=hg i hi
      refine ⟨h3,fun j hj=>⟨.inl ?_,h4 j hj⟩⟩
      have:=h4 j hj
      rw [Array.getElem?_eq_getElem (by rw [h3];exact hj)] at this
      exact World.block_lt_of_cell? W _ this) (fun i hi=>by
      rw [k] at hi
      simp only [List.getElem_map,List.getElem_range]
      exact (hg i hi).2.1) trivial
    rw [k] at this
    exact this
   ·
    have:=Zry m ((List.range len).map fun i=>(g i).1) elems (by simp;omega) (fun i h1 h2=>by
     simp only [List.getElem_map,List.getElem_range]
     exact (hg i (by omega)).2.2.1 h2)
    simp only [Rows.uptoBulk]
    omega
theorem Vl.ones (v:Vl):∀ x∈v.cs,x.one=true:=by
 cases v;intro x hx
 simp only [Vl.cs,List.mem_cons,List.not_mem_nil,or_false] at hx
 rcases hx with rfl | rfl | rfl | rfl | rfl | rfl<;>rfl
theorem Ty.ones (v:Ty):∀ x∈v.cs,x.one=true:=by
 cases v;intro x hx
 simp only [Ty.cs,List.mem_cons,List.not_mem_nil,or_false] at hx
 rcases hx with rfl | rfl | rfl | rfl | rfl | rfl | rfl<;>rfl
theorem ZsX:∀ (n:Nat) (cs:List Value) (x:DataW H × List MemPlace),Td enc W n 46 cs=some x→∃ v:Vl,v.wf∧RC W cs v.cs∧v.bulk≤Rows.uptoBulk x.1
 | 0,cs,x,h=>by simp [Td,DataW.trod] at h
 | n+1,cs,x,h=>by
  obtain ⟨xs,n',hn,rfl,hl,hx,hf⟩:=DataW.trod_struct Tryz.underlying46 h
  cases hn
  have e:cs.length=6:=hl.trans (by kernel_rfl)
  have y:xs.length=6:=hx
  match cs,e,xs,y,hf with
  | [c0,c1,c2,c3,c4,c5],_,[y0,y1,y2,y3,y4,y5],_,hf =>
  have f0:_=some y0:=hf 0 _ rfl;have f1:_=some y1:=hf 1 _ rfl;have f2:_=some y2:=hf 2 _ rfl;have f3:_=some y3:=hf 3 _ rfl;have f4:_=some y4:=hf 4 _ rfl;have f5:_=some y5:=hf 5 _ rfl
  obtain ⟨k,hk,ek⟩:=ZkW f0
  obtain ⟨i,hi,ei⟩:=ZkW f1
  obtain ⟨s,hs,es⟩:=ZkW f2
  obtain ⟨t,ht,et,bt⟩:=Zs3 f3
  cases n with
  | zero=>simp [DataW.trod] at f4
  | succ n =>
  obtain ⟨l,vl,o,c,el,u,bl⟩:=ZjJ avV Vl.wf Vl.bulk Tryz.underlying43 (sz:=6) (by kernel_rfl) (by omega) (fun cs x h=>by
   obtain ⟨v,hv,hR,hb⟩:=ZsX n cs x h
   exact ⟨v,.agg cs.toArray,hv,by simp [Value.cells],hR.agg v.ones,hb⟩) f4
  obtain ⟨fl,vf,w,r,ef,g,bf⟩:=ZjJ avF (fun p=>p.1.size≤maxLen∧p.2.wf) (fun p=>p.1.size+p.2.bulk) Tryz.underlying44 (sz:=7) (by kernel_rfl) (by omega) (fun cs x h=>by
   cases n with
   | zero=>simp [DataW.trod] at h
   | succ n =>
   obtain ⟨ys,n',hn,rfl,hl,hx,hf⟩:=DataW.trod_struct Tryz.underlying75 h
   cases hn
   have j:cs.length=7:=hl.trans (by kernel_rfl)
   have b:ys.length=2:=hx
   match ys,b,hf with
   | [w0,w1],_,hf =>
   have q0:_=some w0:=hf 0 _ rfl;have q1:_=some w1:=hf 1 _ rfl
   obtain ⟨nm,a,en,bn⟩:=Zs3 q0
   obtain ⟨v,hv,hR,hb⟩:=ZsX n _ _ q1
   have e2:Tryz.prog.cellsOf 46=6:=by kernel_rfl
   have e3:Tryz.prog.cellsOf 9=1:=by kernel_rfl
   simp only [List.getElem_toArray,List.getElem_cons_zero,List.getElem_cons_succ,e2,e3] at en hR
   match cs,j with
   | [c0,c1,c2,c3,c4,c5,c6],_ =>
   simp only [List.drop_zero,List.take_succ_cons,List.take_zero,List.cons.injEq,and_true,List.drop_succ_cons] at en hR
   subst en
   refine ⟨(nm,v),.agg #[.string nm,c1,c2,c3,c4,c5,c6],⟨a,hv⟩,rfl,?_,by simp only [List.map_cons,List.map_nil,Rows.uptoBulk,Rows.uptoBulkAll];omega⟩
   exact RC.agg (cs:=[.string nm,c1,c2,c3,c4,c5,c6]) (.cons (.flat (decide_eq_true a)) hR) (fun x hx=>by
    rcases List.mem_cons.1 hx with rfl | hx
    ·
     rfl
    ·
     exact v.ones x hx)) f5
  have f:Tryz.prog.cellsOf 3=1:=by kernel_rfl
  have q:Tryz.prog.cellsOf 9=1:=by kernel_rfl
  have m:Tryz.prog.cellsOf 43=1:=by kernel_rfl
  have d:Tryz.prog.cellsOf 44=1:=by kernel_rfl
  simp only [List.getElem_toArray,List.getElem_cons_zero,List.getElem_cons_succ,f,q,m,d,List.drop_zero,List.take_succ_cons,List.take_zero,List.cons.injEq,and_true,List.drop_succ_cons] at ek ei es et el ef
  subst ek ei es et el ef
  refine ⟨.mk k i s t l fl,?_,?_,by simp only [List.map_cons,List.map_nil,Rows.uptoBulk,Rows.uptoBulkAll,Vl.bulk,ZlB,Zoh];omega⟩
  ·
   unfold Vl.wf
   exact ⟨hk,hi,hs,ht,c,r,(ZsV l).2 o,(ZsQ fl).2 w⟩
  ·
   rw [Vl.cs,Zpv,Zs0]
   exact .cons (.flat rfl) (.cons (.flat rfl) (.cons (.flat rfl) (.cons (.flat (decide_eq_true ht)) (.cons u (.cons g .nil)))))
theorem ZsN:∀ (n:Nat) (cs:List Value) (x:DataW H × List MemPlace),Td enc W n 26 cs=some x→∃ v:Ty,v.wf∧RC W cs v.cs∧v.bulk≤Rows.uptoBulk x.1
 | 0,cs,x,h=>by simp [Td,DataW.trod] at h
 | n+1,cs,x,h=>by
  obtain ⟨xs,n',hn,rfl,hl,hx,hf⟩:=DataW.trod_struct Tryz.underlying26 h
  cases hn
  have aa:cs.length=7:=hl.trans (by kernel_rfl)
  have m:xs.length=7:=hx
  match cs,aa,xs,m,hf with
  | [c0,c1,c2,c3,c4,c5,c6],_,[y0,y1,y2,y3,y4,y5,y6],_,hf =>
  have f0:_=some y0:=hf 0 _ rfl;have f1:_=some y1:=hf 1 _ rfl;have f2:_=some y2:=hf 2 _ rfl;have f3:_=some y3:=hf 3 _ rfl;have f4:_=some y4:=hf 4 _ rfl;have f5:_=some y5:=hf 5 _ rfl;have f6:_=some y6:=hf 6 _ rfl
  obtain ⟨k,hk,ek⟩:=ZkW f0
  obtain ⟨lo,i,elo⟩:=ZkW f1
  obtain ⟨hi,e,ehi⟩:=ZkW f2
  obtain ⟨s,hs,es⟩:=ZkW f3
  cases n with
  | zero=>simp [DataW.trod] at f4
  | succ n =>
  obtain ⟨w,vw,c,y,ew,f,bw⟩:=ZjJ avS (fun s=>s.size≤maxLen) (fun w=>w.size+1) Tryz.underlying22 (sz:=1) (by kernel_rfl) (by omega) (fun cs x h=>by
   obtain ⟨s,hs,rfl,hb⟩:=Zs3 h
   exact ⟨s,.string s,hs,rfl,.flat (decide_eq_true hs),hb⟩) f4
  obtain ⟨el,ve,q,z,ee,o,be⟩:=ZjJ avT Ty.wf Ty.bulk Tryz.underlying23 (sz:=7) (by kernel_rfl) (by omega) (fun cs x h=>by
   obtain ⟨v,hv,hR,hb⟩:=ZsN n cs x h
   exact ⟨v,.agg cs.toArray,hv,by simp [Value.cells],hR.agg v.ones,hb⟩) f5
  obtain ⟨fl,vf,ah,ag,ef,u,bf⟩:=ZjJ ZeF (fun p=>I64 p.1∧p.2.1.size≤maxLen∧I64 p.2.2.1∧p.2.2.2.1.wf∧p.2.2.2.2.length≤maxLen∧∀ v∈p.2.2.2.2,v.wf) (fun p=>p.2.1.size+p.2.2.2.1.bulk+ZgO p.2.2.2.2) Tryz.underlying24 (sz:=11) (by kernel_rfl) (by omega) (fun cs x h=>by
   cases n with
   | zero=>simp [DataW.trod] at h
   | succ n =>
   obtain ⟨ys,n',hn,rfl,hl,hx,hf⟩:=DataW.trod_struct Tryz.underlying54 h
   cases hn
   have b:cs.length=11:=hl.trans (by kernel_rfl)
   have ad:ys.length=5:=hx
   match ys,ad,hf with
   | [w0,w1,w2,w3,w4],_,hf =>
   have q0:_=some w0:=hf 0 _ rfl;have q1:_=some w1:=hf 1 _ rfl;have q2:_=some w2:=hf 2 _ rfl;have q3:_=some w3:=hf 3 _ rfl;have q4:_=some w4:=hf 4 _ rfl
   obtain ⟨nu,g,enu⟩:=ZkW q0
   obtain ⟨nm,a,en,bn⟩:=Zs3 q1
   obtain ⟨nd,j,end'⟩:=ZkW q2
   obtain ⟨v,hv,hR,ai⟩:=ZsN n _ _ q3
   cases n with
   | zero=>simp [DataW.trod] at q4
   | succ n =>
   obtain ⟨dl,vd,r,af,ed,ae,bd⟩:=ZjJ avV Vl.wf Vl.bulk Tryz.underlying43 (sz:=6) (by kernel_rfl) (by omega) (fun cs x h=>by
    obtain ⟨v,hv,hR,hb⟩:=ZsX n cs x h
    exact ⟨v,.agg cs.toArray,hv,by simp [Value.cells],hR.agg v.ones,hb⟩) q4
   have e1:Tryz.prog.cellsOf 3=1:=by kernel_rfl
   have e2:Tryz.prog.cellsOf 26=7:=by kernel_rfl
   have e3:Tryz.prog.cellsOf 9=1:=by kernel_rfl
   have e4:Tryz.prog.cellsOf 43=1:=by kernel_rfl
   simp only [List.getElem_toArray,List.getElem_cons_zero,List.getElem_cons_succ,e1,e2,e3,e4] at enu en end' hR ed
   match cs,b with
   | [c0,c1,c2,c3,c4,c5,c6,c7,c8,c9,c10],_ =>
   simp only [List.drop_zero,List.take_succ_cons,List.take_zero,List.cons.injEq,and_true,List.drop_succ_cons] at enu en end' hR ed
   subst enu en end' ed
   refine ⟨(nu,nm,nd,v,dl),.agg #[.int .i64 nu,.string nm,.int .i64 nd,c3,c4,c5,c6,c7,c8,c9,c10],⟨g,a,j,hv,af,r⟩,rfl,?_,by simp only [List.map_cons,List.map_nil,Rows.uptoBulk,Rows.uptoBulkAll,ZlB];omega⟩
   exact RC.agg (cs:=[.int .i64 nu,.string nm,.int .i64 nd]++([c3,c4,c5,c6,c7,c8,c9]++[c10])) (.cons (.flat rfl) (.cons (.flat (show Zh8 (.string nm)=true from decide_eq_true a)) (.cons (.flat rfl) (hR.app (.cons ae .nil))))) (fun x hx=>by
    simp only [List.mem_cons,List.mem_append,List.not_mem_nil,or_false] at hx
    rcases hx with rfl | rfl | rfl | hx | rfl
    ·
     rfl
    ·
     rfl
    ·
     rfl
    ·
     exact v.ones x hx
    ·
     rfl)) f6
  have ab:Tryz.prog.cellsOf 3=1:=by kernel_rfl
  have d:Tryz.prog.cellsOf 22=1:=by kernel_rfl
  have l:Tryz.prog.cellsOf 23=1:=by kernel_rfl
  have t:Tryz.prog.cellsOf 24=1:=by kernel_rfl
  simp only [List.getElem_toArray,List.getElem_cons_zero,List.getElem_cons_succ,ab,d,l,t,List.drop_zero,List.take_succ_cons,List.take_zero,List.cons.injEq,and_true,List.drop_succ_cons] at ek elo ehi es ew ee ef
  subst ek elo ehi es ew ee ef
  refine ⟨.mk k lo hi s w el fl,?_,?_,by simp only [List.map_cons,List.map_nil,Rows.uptoBulk,Rows.uptoBulkAll,Ty.bulk,ZoH,Zow,ZmE];omega⟩
  ·
   unfold Ty.wf
   exact ⟨hk,i,e,hs,c,y,z,ag,(ZsD el).2 q,(Zru fl).2 ah⟩
  ·
   rw [Ty.cs,Zts,Zq2,Zxy]
   exact .cons (.flat rfl) (.cons (.flat rfl) (.cons (.flat rfl) (.cons (.flat rfl) (.cons f (.cons o (.cons u .nil))))))
end
section
variable {H:Type} {enc:TypeId × Value→H} {W:World} {base:Nat} {v:Value} {d:DataW H} {p:List MemPlace}
theorem Zzg {t:TypeId} {fs:Array Field} (ht:Tryz.prog.underlying t=some (.struct fs)) (hv:Value.okWide Tryz.prog W .any base t v):∃ cs,v = .agg cs:=by
 unfold Value.okWide at hv
 rw [ht] at hv
 obtain ⟨cs,h,_⟩:=hv
 exact ⟨cs,h⟩
theorem ZBv (hv:Value.okWide Tryz.prog W .any base 46 v) (h:DataW.Trod enc Tryz.prog W 0 (fun _=>true) true 46 v d p):∃ t:Vl,t.wf∧R W Mem.start W v (.agg t.cs)∧t.bulk≤Rows.uptoBulk d:=by
 obtain ⟨cs,rfl⟩:=Zzg Tryz.underlying46 hv
 obtain ⟨n,hn⟩:=h
 obtain ⟨t,h1,h2,h3⟩:=ZsX n _ _ hn
 exact ⟨t,h1,by simpa [Value.cells] using h2.agg t.ones,h3⟩
end
end Go.Proofs.YtgpmlelfkjfbiaaGreatDoor
namespace Go.Proofs.YtgpmlelfkjfbiaaGreatDoor
open Go Go.RowKit Go.Ev
theorem Zam {α:Type} {l:List α} {k:Nat} (h:k<l.length):idx l (k:Int)=some l[k]:=ZBT h
theorem Zal {a b:Nat}:decide ((a:Int)<(b:Int))=decide (a<b):=by simp
theorem Zaj {k:Nat} (h:k<1000000000000):I64 ((k:Int)+1):=by unfold I64;omega
theorem Ty.size_pos (t:Ty):0<t.size:=by cases t;simp [Ty.size];omega
theorem Ty.size_eq (t:Ty):t.size=1+Zgn t.elem+Zdz t.fields:=by cases t;simp [Ty.size,Ty.elem,Ty.fields]
theorem Zom:∀ (l:List Ty) (v:Ty),v∈l→v.size≤Zgn l
 | [],_,h=>by simp at h
 | a::r,v,h=>by
  rcases List.mem_cons.1 h with rfl | h
  ·
   simp [Zgn]
  ·
   have:=Zom r v h
   simp [Zgn];omega
theorem Znb:∀ (l:List (Int × ByteArray × Int × Ty × List Vl)) (p:Int × ByteArray × Int × Ty × List Vl),p∈l→p.2.2.2.1.size≤Zdz l
 | [],_,h=>by simp at h
 | (a,b,c,t,d)::r,p,h=>by
  rcases List.mem_cons.1 h with rfl | h
  ·
   simp [Zdz]
  ·
   have:=Znb r p h
   simp [Zdz];omega
theorem Zo4:∀ l:List Ty,l.length≤Zgn l
 | []=>Nat.le_refl _
 | v::r=>by have:=Zo4 r;have:=v.size_pos;simp [Zgn];omega
theorem Zne:∀ l:List (Int × ByteArray × Int × Ty × List Vl),l.length≤Zdz l
 | []=>Nat.le_refl _
 | (_,_,_,t,_)::r=>by have:=Zne r;have:=t.size_pos;simp [Zdz];omega
theorem Ty.elem_size (t x:Ty) (h:x∈t.elem):x.size<t.size:=by have:=Zom _ _ h;have:=t.size_eq;omega
theorem Ty.field_size (t:Ty) (p) (h:p∈t.fields):p.2.2.2.1.size<t.size:=by have:=Znb _ _ h;have:=t.size_eq;omega
theorem Ty.lens (t:Ty):t.elem.length<t.size∧t.fields.length<t.size:=by have:=Zo4 t.elem;have:=Zne t.fields;have:=t.size_eq;omega
theorem Vl.list_size (v x:Vl) (h:x∈v.list):x.size<v.size:=by have:=ZjZ _ _ h;have:=v.size_eq;omega
theorem Vl.field_size (v:Vl) (p) (h:p∈v.fields):p.2.size<v.size:=by have:=ZjU _ _ h;have:=v.size_eq;omega
mutual
def Ty.depth:Ty→Nat
 | .mk _ _ _ _ _ e f=>1+max (Zc3 e) (Zca f)
def Zc3:List Ty→Nat
 | []=>0
 | t::r=>max t.depth (Zc3 r)
def Zca:List (Int × ByteArray × Int × Ty × List Vl)→Nat
 | []=>0
 | (_,_,_,t,_)::r=>max t.depth (Zca r)
end
mutual
def Vl.ok:Vl→Prop
 | .mk _ _ _ t l f=>t.size≤1048576∧ZzD l∧ZzV f
def ZzD:List Vl→Prop
 | []=>True
 | v::r=>v.ok∧ZzD r
def ZzV:List (ByteArray × Vl)→Prop
 | []=>True
 | (n,v)::r=>n.size≤1048576∧v.ok∧ZzV r
end
theorem Ztl:∀ l,ZzD l↔∀ v∈l,v.ok
 | []=>by simp [ZzD]
 | v::r=>by simp [ZzD,Ztl r]
theorem Ztk:∀ l,ZzV l↔∀ p∈l,p.1.size≤1048576∧p.2.ok
 | []=>by simp [ZzV]
 | (n,v)::r=>by simp [ZzV,Ztk r,and_assoc]
def Vl.small (v:Vl):Prop:=v.size≤1048575∧v.depth≤1048576∧v.ok
mutual
def Ty.ok:Ty→Prop
 | .mk _ _ _ _ w e f=>w.length≤1048576∧(∀ x∈w,x.size≤1048576)∧ZAG e∧ZtS f
def ZAG:List Ty→Prop
 | []=>True
 | v::r=>v.ok∧ZAG r
def ZtS:List (Int × ByteArray × Int × Ty × List Vl)→Prop
 | []=>True
 | (_,n,_,t,d)::r=>(n.size≤1048576∧t.ok∧d.length≤1048576∧∀ v∈d,v.small)∧ZtS r
end
theorem Zsy:∀ l,ZAG l↔∀ v∈l,v.ok
 | []=>by simp [ZAG]
 | v::r=>by simp [ZAG,Zsy r]
theorem Zrk:∀ l,ZtS l↔∀ p∈l,p.2.1.size≤1048576∧p.2.2.2.1.ok∧p.2.2.2.2.length≤1048576∧∀ v∈p.2.2.2.2,v.small
 | []=>by simp [ZtS]
 | (_,n,_,t,d)::r=>by simp [ZtS,Zrk r]
theorem Ty.ok_eq (t:Ty):t.ok↔t.words.length≤1048576∧(∀ x∈t.words,x.size≤1048576)∧(∀ v∈t.elem,v.ok)∧∀ p∈t.fields,p.2.1.size≤1048576∧p.2.2.2.1.ok∧p.2.2.2.2.length≤1048576∧∀ v∈p.2.2.2.2,v.small:=by
 cases t;simp only [Ty.ok,Ty.words,Ty.elem,Ty.fields,Zsy,Zrk]
theorem Vl.ok_eq (v:Vl):v.ok↔v.text.size≤1048576∧(∀ x∈v.list,x.ok)∧∀ p∈v.fields,p.1.size≤1048576∧p.2.ok:=by
 cases v;simp only [Vl.ok,Vl.text,Vl.list,Vl.fields,Ztl,Ztk]
theorem ZjO:∀ (l:List Ty) (d:Nat),Zc3 l≤d↔∀ v∈l,v.depth≤d
 | [],d=>by simp [Zc3]
 | v::r,d=>by simp [Zc3,Nat.max_le,ZjO r d]
theorem Zio:∀ (l:List (Int × ByteArray × Int × Ty × List Vl)) (d:Nat),Zca l≤d↔∀ v∈l,v.2.2.2.1.depth≤d
 | [],d=>by simp [Zca]
 | (_,_,_,t,_)::r,d=>by simp [Zca,Nat.max_le,Zio r d]
theorem Ty.depth_eq (t:Ty):t.depth=1+Max.max (Zc3 t.elem) (Zca t.fields):=by cases t;simp [Ty.depth,Ty.elem,Ty.fields]
theorem Vl.eta (v:Vl):Vl.mk v.kind v.int v.scale v.text v.list v.fields=v:=by cases v;rfl
theorem Ty.eta (v:Ty):Ty.mk v.kind v.min v.max v.scale v.words v.elem v.fields=v:=by cases v;rfl
theorem ZoL (rec:Vl→Option Vl) (n:Nat) (v:Vl) (hs:v.fields.length≤1000000000000) (hr:∀ p∈v.fields,rec p.2=some p.2) (b:List Vl):∀ (k m i:Nat),i+k=v.fields.length→k<m→ZeG rec n v m i b (v.fields.take i)=some (Vl.mk v.kind v.int v.scale v.text b v.fields)
 | k,0,i,_,h=>absurd h (Nat.not_lt_zero _)
 | 0,m+1,i,hi,_=>by
  rw [ZeG,Zal,decide_eq_false (by omega)]
  simp only [Bool.false_eq_true,if_false,ZiG]
  rw [List.take_of_length_le (by omega)]
 | k+1,m+1,i,hi,hm=>by
  have a:i<v.fields.length:=by omega
  rw [ZeG,Zal,decide_eq_true a]
  simp only [if_true,Zam a,Option.bind_some,hr _ (List.getElem_mem a)]
  rw [if_pos (by rw [List.length_take];omega),if_pos (Zaj (by omega))]
  have e:v.fields.take i++[(v.fields[i].1,v.fields[i].2)]=v.fields.take (i+1):=by rw [List.take_succ_eq_append_getElem a]
  rw [e]
  exact ZoL rec n v hs hr b k m (i+1) (by omega) (by omega)
theorem Znt (rec:Vl→Option Vl) (n:Nat) (v:Vl) (hs:v.fields.length≤1000000000000∧v.list.length≤1000000000000) (hn:v.fields.length<n) (hr:(∀ x∈v.list,rec x=some x)∧∀ p∈v.fields,rec p.2=some p.2):∀ (k m i:Nat),i+k=v.list.length→k<m→ZfC rec n v m i (v.list.take i)=some v
 | k,0,i,_,h=>absurd h (Nat.not_lt_zero _)
 | 0,m+1,i,hi,_=>by
  rw [ZfC,Zal,decide_eq_false (by omega)]
  simp only [Bool.false_eq_true,if_false,ZjY]
  rw [List.take_of_length_le (by omega)]
  have:=ZoL rec n v hs.1 hr.2 v.list v.fields.length n 0 (by omega) hn
  rw [List.take_zero] at this
  exact this.trans (by rw [Vl.eta])
 | k+1,m+1,i,hi,hm=>by
  have a:i<v.list.length:=by omega
  rw [ZfC,Zal,decide_eq_true a]
  simp only [if_true,Zam a,Option.bind_some,hr.1 _ (List.getElem_mem a)]
  rw [if_pos (by rw [List.length_take];omega),if_pos (Zaj (by omega))]
  have e:v.list.take i++[v.list[i]]=v.list.take (i+1):=by rw [List.take_succ_eq_append_getElem a]
  rw [e]
  exact Znt rec n v hs hn hr k m (i+1) (by omega) (by omega)
theorem Zlw:∀ (n:Nat) (v:Vl),v.size<n→v.wide=true→Zbi n v=some v
 | 0,v,h,_=>absurd h (Nat.not_lt_zero _)
 | n+1,v,h,hs=>by
  have hl:=ZdR v
  obtain ⟨w1,w2,w3,w4⟩:=v.wide_iff.1 hs
  rw [Zbi,Zjy]
  have:=Znt (Zbi n) n v ⟨by omega,by omega⟩ (by omega) ⟨fun x hx=>Zlw n x (by have:=v.list_size x hx;omega) (w3 x hx),fun p hp=>Zlw n p.2 (by have:=v.field_size p hp;omega) (w4 p hp)⟩ v.list.length n 0 (by omega) (by omega)
  rw [List.take_zero] at this
  exact this
theorem Znn (n:Nat) (v:Vl) (h:v.size<n) (hs:v.size≤1000000000):Zbi n v=some v:=Zlw n v h (Ze9 _ v (Nat.le_refl _) (by omega))
abbrev TF:=Int × ByteArray × Int × Ty × List Vl
theorem Zwb (rec:Ty→Option Ty) (n:Nat) (p:TF) (y:Ty) (hs:p.2.2.2.2.length≤1000000000) (hr:∀ v∈p.2.2.2.2,Zbi n v=some v):∀ (k m i:Nat),i+k=p.2.2.2.2.length→k<m→Zch rec n p y m (p.2.2.2.2.take i) i=some (p.1,p.2.1,p.2.2.1,y,p.2.2.2.2)
 | k,0,i,_,h=>absurd h (Nat.not_lt_zero _)
 | 0,m+1,i,hi,_=>by
  rw [Zch,Zal,decide_eq_false (by omega)]
  simp only [Bool.false_eq_true,if_false,Zfq]
  rw [List.take_of_length_le (by omega)]
 | k+1,m+1,i,hi,hm=>by
  have a:i<p.2.2.2.2.length:=by omega
  rw [Zch,Zal,decide_eq_true a]
  simp only [if_true,Zam a,Option.bind_some,hr _ (List.getElem_mem a)]
  rw [if_pos (by rw [List.length_take];omega),if_pos (Zaj (by omega))]
  have e:p.2.2.2.2.take i++[p.2.2.2.2[i]]=p.2.2.2.2.take (i+1):=by rw [List.take_succ_eq_append_getElem a]
  rw [e]
  exact Zwb rec n p y hs hr k m (i+1) (by omega) (by omega)
theorem ZyD (rec:Ty→Option Ty) (n:Nat) (p:TF) (hs:p.2.2.2.2.length≤1000000000) (hn:p.2.2.2.2.length<n) (hr:∀ v∈p.2.2.2.2,Zbi n v=some v) (ht:rec p.2.2.2.1=some p.2.2.2.1):Zct rec n p=some p:=by
 rw [Zct,ht]
 simp only [Option.bind_some]
 rw [if_pos (by omega)]
 have:=Zwb rec n p p.2.2.2.1 hs hr p.2.2.2.2.length n 0 (by omega) hn
 rw [List.take_zero] at this
 exact this
theorem Zo7 (rec:Ty→Option Ty) (n:Nat) (t:Ty) (hw:t.words.length≤1000000000) (hs:t.fields.length≤1000000000) (hr:∀ p∈t.fields,Zct rec n p=some p) (e:List Ty):∀ (k m i:Nat),i+k=t.fields.length→k<m→ZeI rec n t m e (t.fields.take i) i=some (Ty.mk t.kind t.min t.max t.scale t.words e t.fields)
 | k,0,i,_,h=>absurd h (Nat.not_lt_zero _)
 | 0,m+1,i,hi,_=>by
  rw [ZeI,Zal,decide_eq_false (by omega)]
  simp only [Bool.false_eq_true,if_false,ZiB]
  rw [List.take_of_length_le (by omega),if_pos (by omega)]
 | k+1,m+1,i,hi,hm=>by
  have a:i<t.fields.length:=by omega
  rw [ZeI,Zal,decide_eq_true a]
  simp only [if_true,Zam a,Option.bind_some,hr _ (List.getElem_mem a)]
  rw [if_pos (by rw [List.length_take];omega),if_pos (Zaj (by omega))]
  have e':t.fields.take i++[t.fields[i]]=t.fields.take (i+1):=by rw [List.take_succ_eq_append_getElem a]
  rw [e']
  exact Zo7 rec n t hw hs hr e k m (i+1) (by omega) (by omega)
theorem Zrt (rec:Ty→Option Ty) (n:Nat) (t:Ty) (hw:t.words.length≤1000000000) (hs:t.fields.length≤1000000000∧t.elem.length≤1000000000) (hn:t.fields.length<n) (hr:(∀ x∈t.elem,rec x=some x)∧∀ p∈t.fields,Zct rec n p=some p):∀ (k m i:Nat),i+k=t.elem.length→k<m→ZfE rec n t m (t.elem.take i) i=some t
 | k,0,i,_,h=>absurd h (Nat.not_lt_zero _)
 | 0,m+1,i,hi,_=>by
  rw [ZfE,Zal,decide_eq_false (by omega)]
  simp only [Bool.false_eq_true,if_false,ZjV]
  rw [List.take_of_length_le (by omega),if_pos (by omega)]
  have:=Zo7 rec n t hw hs.1 hr.2 t.elem t.fields.length n 0 (by omega) hn
  rw [List.take_zero] at this
  exact this.trans (by rw [Ty.eta])
 | k+1,m+1,i,hi,hm=>by
  have a:i<t.elem.length:=by omega
  rw [ZfE,Zal,decide_eq_true a]
  simp only [if_true,Zam a,Option.bind_some,hr.1 _ (List.getElem_mem a)]
  rw [if_pos (by rw [List.length_take];omega),if_pos (Zaj (by omega))]
  have e:t.elem.take i++[t.elem[i]]=t.elem.take (i+1):=by rw [List.take_succ_eq_append_getElem a]
  rw [e]
  exact Zrt rec n t hw hs hn hr k m (i+1) (by omega) (by omega)
theorem ZmZ:∀ (n:Nat) (t:Ty),t.size+1400000<n→t.size≤1000000000→t.ok→Zfd n t=some t
 | 0,t,h,_,_=>absurd h (Nat.not_lt_zero _)
 | n+1,t,h,hs,hok=>by
  have hl:=t.lens
  obtain ⟨o1,o2,o3,o4⟩:=t.ok_eq.1 hok
  rw [Zfd,ZkE,if_pos (by omega)]
  have:=Zrt (Zfd n) n t (by omega) ⟨by omega,by omega⟩ (by omega) ⟨fun x hx=>ZmZ n x (by have:=t.elem_size x hx;omega) (by have:=t.elem_size x hx;omega) (o3 x hx),fun p hp=>by
   obtain ⟨_,q2,q3,q4⟩:=o4 p hp
   have:=t.field_size p hp
   exact ZyD _ n p (by omega) (by omega) (fun v hv=>Znn n v (by have:=(q4 v hv).1;omega) (by have:=(q4 v hv).1;omega)) (ZmZ n _ (by omega) (by omega) q2)⟩ t.elem.length n 0 (by omega) (by omega)
  rw [List.take_zero] at this
  exact this
def Zia (n:Nat)  (x3_k19:List Ty):Option ((List Ty)) :=
 some (x3_k19)
def ZlE (n:Nat)  : Option ((List Ty)) :=
 some ([])
def ZeP (n:Nat) (a0:Ty):Nat→(List Ty)→Int→Option ((List Ty))
 | 0,_,_=>none
 | m+1,x3_l22,x22_l22 =>
  if decide (x22_l22<((a0.fields.length:Int))) then
   (idx a0.fields x22_l22).bind fun x28 =>
   if (x3_l22.length+1)*104≤140737488355328∧x3_l22.length+1≤4611686018427387904 then
    if I64 (x22_l22+1) then
     (ZeP n a0 m) (x3_l22++([x28.2.2.2.1])) (x22_l22+1)
    else none
   else none
  else
   Zia n x3_l22
def ZfP (n:Nat) (a0:Ty) (x12_k10:Bool):Option ((List Ty)) :=
 if x12_k10 then
  if 0≤(a0.fields.length:Int)∧((a0.fields.length:Int))*104≤140737488355328∧(a0.fields.length:Int)≤4611686018427387904 then
   ZeP n a0 n ([]) 0
  else none
 else
  ZlE n 
def Zjv (n:Nat) (a0:Ty):Option ((List Ty)) :=
 if decide (a0.kind=8) then
  some (a0.elem)
 else
  if decide (a0.kind=9) then
   ZfP n a0 true
  else
   ZfP n a0 (decide (a0.kind=10))
theorem Zux (w0:World) (n:Nat) (B:List (List AV)) (Rw:List RowA) (L:List LoopA) (a0:Ty) (r:(List Ty)) (h:Zjv n a0=some r) :
  ACalls Tryz.prog w0 51 [.agg (a0.cs)] ⟨B,Rw,L⟩ fun x st=>x = .list (r.map avT) .none∧st=⟨B,Rw,L⟩:=by
 rw [Zjv] at h
 refine hd [.tmp 2] Tryz.func51 Tryz.ntmps51 fun M0 W0 hN o q b hu hO hs=>?_
 simp only [Zaq]
 refine rg [1] hs ?_
 refine Zak (fun e st=>Ck e st B Rw L [] [a0.cs] [] (ZlE n  = some r)) ?_ ?_
 ·
  intro K4 af
  refine rg [1,7] hs ?_
  apply Zad
  refine rg [1,7,8] hs ?_
  refine cnd h hs (fun hs h=>?_) (fun hs h=>?_)
  ·
   refine rg [2] hs ?_
   exact rt h hs b hO
  refine Zak (fun e st=>∃ (k:Bool),Ck e st B Rw L [(1,true,.box B.length 0),(12,true,.val (.bool k))] [a0.cs] [] (ZfP n a0 k=some r)) ?_ ?_
  ·
   intro K11 w
   refine rg [1,7,12] hs ?_
   refine cnd h hs (fun hs h=>?_) (fun hs h=>?_)
   ·
    refine sk [1,12] hs w ?_
    exact ⟨true,([]),Rw,ef hs,ef hs,hO,h⟩
   refine rl [1,12] hs w ?_
   exact ⟨(decide (a0.kind=10)),([]),Rw,ef hs,ef hs,hO,h⟩
  ·
   clear h;rintro e st ⟨k,Xk10,Rk10,rfl,rfl,hO,h⟩
   rw [ZfP] at h
   refine td hN o q b hO ?_
   refine cnd h hs (fun hs h=>?_) (fun hs h=>?_)
   ·
    obtain ⟨aj,h⟩:=Zab h
    have hO:=hO.make 7 0
    refine rg [1,3] hs ?_
    refine Zak (fun e st=>∃ (i:List Ty) (j:Ev.Own),Ck e st B Rw L [(3,true,.list (i.map avT) j)] [a0.cs] [(7,i.length,j)] (Zia n i=some r)) ?_ ?_
    ·
     intro K20 ab
     refine rg [3,20,21,22] hs ?_
     apply Zad
     refine Zao (fun m e st=>∃ (a:List Ty) (d:Int) (c:Ev.Own),Ck e st B Rw L [(3,true,.list (a.map avT) c),(20,true,.list (a0.fields.map ZeF) .none),(21,true,.val (.int .i64 ((a0.fields.length:Int)))),(22,true,.val (.int .i64 d))] [a0.cs] [(7,a.length,c)] (ZeP n a0 m a d=some r)) n ⟨([]),0,((.row Rk10.length)),([]),((Rk10++[.grow 0 7])),ef hs,ef hs,Owns.of_eq (hO) le_,h⟩ ?_
     rintro ml22 e st ⟨a,d,c,Xl22,Rl22,rfl,rfl,hO,h⟩ Ul22 Vl22
     cases ml22 with
     | zero=>cases h
     | succ ml22 =>
     rw [ZeP] at h
     have hU:=hO.unders
     simp only [List.mem_cons,List.not_mem_nil,or_false,forall_eq_or_imp,forall_eq] at hU
     refine td hN o q b hO ?_
     refine rg [3,20,21,22,23] hs ?_
     apply Zaa;intro K24 t
     refine cnd h hs (fun hs h=>?_) (fun hs h=>?_)
     rotate_left
     ·
      refine sx [3] hs ab ?_
      exact ⟨a,c,([]),Rl22,ef hs,ef hs,Owns.of_eq (hO) le_,h⟩
     refine sk [3,20,21,22] hs t ?_
     clear t
     apply Zaa;intro K26 v
     apply Zad
     obtain ⟨l,ad,h⟩:=bind_some h
     obtain ⟨ag,ah,aa⟩:=Zan ad
     have z:=Zap (f:=ZeF) aa
     have hs:=And.intro z hs
     refine rg [3,5,20,21,22] hs ?_
     obtain ⟨u,h⟩:=Zab h
     obtain ⟨ae,p,hO,g⟩:=hO.append (P:=Tryz.prog) Zyt (by rw [Zte];rfl) (by decide) 1 u.1 u.2
     replace g:=fun (ys:List AV) B L o2=>g (a.map avT) ys B L o2 le_
     replace g:=fun (y:AV) B L o2=>g [y] B L o2 le_ ev
     try simp only [List.mem_singleton,List.mem_cons,List.not_mem_nil,or_false,forall_eq_or_imp,forall_eq,List.map_append,List.map_cons,List.map_nil,Ze5,ZeV,Ze4,ZeU,Ze2,Zeu,Zdc,Zc0,ZeX,Zb9,Zcc,Zc1,Zc8,Zc7] at g
     have hs:=And.intro g hs
     refine rl [3,20,21,22] hs v ?_
     clear v
     obtain ⟨ai,h⟩:=Zab h
     refine rl [3,20,21,22] hs (fun e s=>Vl22 ml22 e s (Nat.lt_succ_self _)) ?_
     exact ⟨(a++([l.2.2.2.1])),(d+1),ae,([.val (.int .i64 l.1)::(.val (.string l.2.1)::(.val (.int .i64 l.2.2.1)::((l.2.2.2.1.cs)++([.list (l.2.2.2.2.map avV) .none]))))]),p,ef hs,ef hs,Owns.of_eq (hO) le_,h⟩
    ·
     clear h;rintro e st ⟨i,j,Xk19,Rk19,rfl,rfl,hO,h⟩
     rw [Zia] at h
     have hU:=hO.unders
     simp only [List.mem_cons,List.not_mem_nil,or_false,forall_eq_or_imp,forall_eq] at hU
     refine td hN o q b hO ?_
     refine rg [2] hs ?_
     exact rt h hs b hO
   refine sk [] hs af ?_
   exact ⟨([]),Rk10,ef hs,ef hs,hO,h⟩
 ·
  clear h;rintro e st ⟨Xk3,Rk3,rfl,rfl,hO,h⟩
  rw [ZlE] at h
  refine td hN o q b hO ?_
  refine rg [2] hs ?_
  exact rt h hs b hO
def Zti (t:Ty):List Ty:=if t.kind=8 then t.elem else if t.kind=9∨t.kind=10 then t.fields.map fun p=>p.2.2.2.1 else []
theorem ZyR (n:Nat) (t:Ty) (hs:t.fields.length≤1000000000):∀ (k m i:Nat) (x:List Ty),i+k=t.fields.length→k<m→x.length=i→ZeP n t m x i=some (x++(t.fields.drop i).map fun p=>p.2.2.2.1)
 | k,0,i,_,_,h,_=>absurd h (Nat.not_lt_zero _)
 | 0,m+1,i,x,hi,_,_=>by
  rw [ZeP,Zal,decide_eq_false (by omega)]
  simp only [Bool.false_eq_true,if_false,Zia]
  rw [List.drop_eq_nil_of_le (by omega),List.map_nil,List.append_nil]
 | k+1,m+1,i,x,hi,hm,hx=>by
  have a:i<t.fields.length:=by omega
  rw [ZeP,Zal,decide_eq_true a]
  simp only [if_true,Zam a,Option.bind_some]
  rw [if_pos (by omega),if_pos (Zaj (by omega))]
  have ih:=ZyR n t hs k m (i+1) (x++[t.fields[i].2.2.2.1]) (by omega) (by omega) (by simp [hx])
  rw [List.drop_eq_getElem_cons a,List.map_cons]
  rw [List.append_assoc] at ih
  exact ih
theorem ZvC (n:Nat) (t:Ty) (hn:t.fields.length<n) (hs:t.fields.length≤1000000000):Zjv n t=some (Zti t):=by
 have h9:ZfP n t true=some (t.fields.map fun p=>p.2.2.2.1):=by
  rw [ZfP,if_pos rfl,if_pos (by omega)]
  have:=ZyR n t hs t.fields.length n 0 [] (by omega) hn rfl
  rw [List.drop_zero,List.nil_append] at this
  exact this
 rw [Zjv,Zti]
 by_cases h1:t.kind=8
 ·
  rw [if_pos (decide_eq_true h1),if_pos h1]
 rw [if_neg (by rw [decide_eq_true_eq];exact h1),if_neg h1]
 by_cases h2:t.kind=9
 ·
  rw [if_pos (decide_eq_true h2),h9,if_pos (.inl h2)]
 rw [if_neg (by rw [decide_eq_true_eq];exact h2)]
 by_cases h3:t.kind=10
 ·
  rw [decide_eq_true h3,h9,if_pos (.inr h3)]
 ·
  rw [decide_eq_false h3,if_neg (by omega)];rfl
end Go.Proofs.YtgpmlelfkjfbiaaGreatDoor
