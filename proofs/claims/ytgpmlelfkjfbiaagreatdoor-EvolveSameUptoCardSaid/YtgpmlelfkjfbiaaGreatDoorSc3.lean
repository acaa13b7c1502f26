/-
  Part 3 of the proof: rules and walks that the claim's last text uses.
-/
import Derived.Carry
import Derived.ChangeOld
import Derived.ChangeSlices
import Derived.Deep.DeepHandedRow
import Derived.Deep.DeepWitnessRowRef
import Derived.Lib.AppendZeros
import Derived.Lib.Bytealg
import Derived.Lib.LaidIn
import Derived.Lib.LaidU8T
import Derived.PinnedBridge
import Derived.ProofKit
import Derived.SevenTiedAt
import Derived.Shelf.SlSortCmp.NoneTotal
import Derived.Shelf.SlSortCmp.WholeK
import Derived.Shelf.SlicesE.Clone
import Derived.SizedLaws
import Derived.Sort.Lot0
import Derived.Test.YtgpmlelfkjfbiaaGreatDoorCards
import Derived.Test.YtgpmlelfkjfbiaaGreatDoorProg
import Derived.Test.YtgpmlelfkjfbiaaGreatDoorRows
import Derived.Test.YtgpmlelfkjfbiaaGreatDoorTie
import Derived.Test.YtgpmlelfkjfbiaaGreatDoorSc2
set_option linter.unusedSimpArgs false
set_option linter.unusedVariables false
set_option maxRecDepth 100000
set_option maxHeartbeats 4000000
namespace Go.Proofs.YtgpmlelfkjfbiaaGreatDoor
open Go Go.RowKit Go.Ev
theorem LG (v:Vl):(ID v).length=(Fa 1 v).length:=by simp [ID]
theorem P3 (v:Vl) (i:Nat) (x:List AV) (h:(ID v)[i]? = some x):∃ p,(Fa 1 v)[i]? = some p∧x=[.val (.int .i64 p.1),.agg p.2.cs]∧i<(Fa 1 v).length:=by
 simp only [ID,List.getElem?_map,Option.map_eq_some_iff] at h
 obtain ⟨p,a,rfl⟩:=h
 exact ⟨p,a,rfl,(Ag.1 a).1⟩
theorem PG (v:Vl) (x:List AV) (h:x∈ID v):x.length=2:=by
 obtain ⟨p,_,rfl⟩:=List.mem_map.1 h
 rfl
theorem Oq (w0:World) (B:List (List AV)) (Rw:List RowA) (L:List LoopA) (v:Vl) :
  ACalls Tryz.prog w0 61 [.agg v.cs] ⟨B,Rw,L⟩ fun r st=>r = .clo 122 [.box B.length 0]∧st=⟨B++[v.cs],Rw,L⟩:=by
 refine Ep (rs:=[.tmp 2]) Tryz.func61 rfl rfl Tryz.ntmps61 (A9 Tryz.func61 rfl (by decide)) (Nat.le_of_ble_eq_true rfl) ?_
 intro M0 W0 g e d c f
 simp only [Au]
 apply Ah;intro K1 a
 apply Ao 1 [1]
 rw [Am];simp +decide only [go_sem]
 (repeat' apply Aa)<;>first | refine a _ _ ?_ | (intros;omega) | (intros;simp_all;done) | (intros;simp only [Bool.or_eq_false_iff,Bool.or_eq_true,Bool.and_eq_true,Bool.and_eq_false_iff,decide_eq_true_eq,decide_eq_false_iff_not,bne_iff_ne] at *; omega)
 clear a
 apply Ah;intro K2 b
 apply Ao 1 [2]
 rw [Am];simp +decide only [go_sem]
 (repeat' apply Aa)<;>first | refine b _ _ ?_ | (intros;omega) | (intros;simp_all;done) | (intros;simp only [Bool.or_eq_false_iff,Bool.or_eq_true,Bool.and_eq_true,Bool.and_eq_false_iff,decide_eq_true_eq,decide_eq_false_iff_not,bne_iff_ne] at *; omega)
 clear b
 apply A3;simp +decide only [go_sem]
 skip
def UF:List AV:=[.val .nilFunc,.clo 108 [],.clo 110 [],.clo 111 [],.clo 113 [],.clo 116 [],.clo 117 [],.clo 118 [],.clo 119 [],.clo 120 [],.clo 121 []]
theorem Zdw (w0:World) (B:List (List AV)) (Rw:List RowA) (L:List LoopA)  :
  ACalls Tryz.prog w0 60 [] ⟨B,Rw,L⟩ fun r st=>r = .agg UF∧st=⟨B,Rw,L⟩:=by
 refine ACalls.finP (Ep (rs:=[.cell 0 92]) Tryz.func60 rfl rfl Tryz.ntmps60 (A9 Tryz.func60 rfl (by decide)) (Nat.le_of_ble_eq_true rfl) ?_)
 intro M0 W0 g e d a f
 simp only [Au]
 apply Ah;intro K1 b
 apply Ao 1 [0]
 rw [Am];simp +decide only [go_sem,P9,Oz,JB,Dw,List.getElem?_cons_zero,List.getElem?_cons_succ,List.nil_append,List.cons_append]
 (repeat' apply Aa)<;>first | refine b _ _ ?_ | (intros;omega) | (intros;simp_all;done) | (intros;simp only [Bool.or_eq_false_iff,Bool.or_eq_true,Bool.and_eq_true,Bool.and_eq_false_iff,decide_eq_true_eq,decide_eq_false_iff_not,bne_iff_ne] at *; omega)
 clear b
 apply Ah;intro K2 c
 apply Ao 1 [0]
 rw [Am];simp +decide only [go_sem,P9,Oz,JB,Dw,List.getElem?_cons_zero,List.getElem?_cons_succ,List.nil_append,List.cons_append]
 (repeat' apply Aa)<;>first | refine c _ _ ?_ | (intros;omega) | (intros;simp_all;done) | (intros;simp only [Bool.or_eq_false_iff,Bool.or_eq_true,Bool.and_eq_true,Bool.and_eq_false_iff,decide_eq_true_eq,decide_eq_false_iff_not,bne_iff_ne] at *; omega)
 clear c
 apply A3;simp +decide only [go_sem]
 refine LR a (by first | exact List.prefix_append _ _ | exact List.prefix_refl _ | (rw [List.append_assoc];exact List.prefix_append _ _)) (by first | exact List.prefix_append _ _ | exact List.prefix_refl _ | (rw [List.append_assoc];exact List.prefix_append _ _)) (by first | exact List.prefix_append _ _ | exact List.prefix_refl _ | (rw [List.append_assoc];exact List.prefix_append _ _)) (by simp +decide only [go_sem]) ⟨?_,rfl⟩
 rfl
end Go.Proofs.YtgpmlelfkjfbiaaGreatDoor
namespace Go.Ev
open Go Go.RowKit
section
universe u v
variable {α:Type u} {β:Type v} {r:β}
theorem Aj {c:Prop} [Decidable c] {x:Option β} (h:(if c then x else none)=some r):c∧x=some r:=by
 by_cases q:c
 ·rw [Ae q] at h;exact ⟨q,h⟩
 ·rw [Af q] at h;cases h
theorem bind_some {o:Option α} {f:α→Option β} (h:o.bind f=some r):∃ x,o=some x∧f x=some r:=by
 cases o with
 | none=>cases h
 | some x=>exact ⟨x,rfl,h⟩
theorem AY {b:Bool} {x y:β} (h:(if b=true then x else y)=r) (hb:b=true):x=r:=by rwa [Ae hb] at h
theorem AZ {b:Bool} {x y:β} (h:(if b=true then x else y)=r) (hb:b=false):y=r:=by rwa [Af (by simp [hb])] at h
def Cb (xs:List α) (i:Int):Option α:=if 0≤i then xs[i.toNat]? else none
theorem AA {xs:List α} {i:Int} {x:α} (h:Cb xs i=some x):0≤i∧i<xs.length∧xs[i.toNat]? = some x:=by
 unfold Cb at h
 obtain ⟨b,a⟩:=Aj h
 have:=(Ag.1 a).1
 exact ⟨b,by omega,a⟩
theorem ZgT {xs:List α} {i:Nat} (h:i<xs.length):Cb xs (i:Int)=some xs[i]:=by simp [Cb,h]
theorem AB {f:α→AV} {xs:List α} {i:Nat} {x:α} (h:xs[i]? = some x):(xs.map f).getD i .junk=f x:=by simp [List.getD,h]
end
abbrev BV (n:Int):Prop := -9223372036854775808≤n∧n≤9223372036854775807
theorem CX {nb nr nl nb' nr' nl':Nat} {x:AV} (h1:nb≤nb') (h2:nr≤nr') (h3:nl≤nl') (h:Under nb nr nl x):Under nb' nr' nl' x:=by
 induction h with
 | val v=>exact .val v
 | list h ho ih=>exact .list ih (by rename_i o;cases o<;>first | trivial | exact Nat.lt_of_lt_of_le ho h2)
 | elem h ih=>exact .elem ih
 | box h=>exact .box (by omega)
 | clo h ih=>exact .clo ih
 | agg h ih=>exact .agg ih
 | tup h ih=>exact .tup ih
 | yld h=>exact .yld (by omega)
 | vec h=>exact .vec (by omega)
 | vel h=>exact .vel (by omega)
def OwnsAt (lo:Nat) (ho:Own) (rows:List RowA) (x:Nat × Nat × Own):Prop:=x.2.2 = .full∨∃ id,x.2.2 = .row id∧(lo≤id∨ho = .row id)∧rows[id]? = some (.grow x.2.1 x.1)
inductive VO where
 | nil
 | row (id ver:Nat)
def Ll:VO→Nat→AV
 | .nil,_ => .list [] .seed
 | .row id ver,n => .vec id ver 0 n
abbrev VE:=VO × Nat × List AV
def VAt (lo:Nat) (rows:List RowA) (x:VE):Prop:=(x.1 = .nil∧x.2.2=[])∨∃ id ver,x.1 = .row id ver∧lo≤id∧rows[id]? = some (.vec ver x.2.1 x.2.2)
def Z1 (v:List VE) (i:Nat):Prop:=∀ x∈v,∀ ver,x.1 ≠ .row i ver
theorem QK (i:Nat):Z1 [] i:=fun _ h=>(nomatch h)
structure Owns (Rw rows:List RowA) (l:List (Nat × Nat × Own)) (ho:Own := .none) (v:List VE:=[]):Prop where
 len:Rw.length≤rows.length
 keep:∀ i,i<Rw.length→ho ≠ .row i→rows[i]? = Rw[i]?
 calm:∀ i r,rows[i]? = some r→(Rw.length≤i∨ho = .row i)→Z1 v i→r.cells=[]
 each:∀ x∈l,OwnsAt Rw.length ho rows x
 apart:l.Pairwise fun x y=>∀ id,x.2.2 = .row id→y.2.2 ≠ .row id
 veach:∀ x∈v,VAt Rw.length rows x
 vapart:v.Pairwise fun x y=>∀ id a b,x.1 = .row id a→y.1 ≠ .row id b
section
variable {Rw rows:List RowA} {l:List (Nat × Nat × Own)} {ho:Own} {v:List VE}
theorem Owns.none (Rw:List RowA):Owns Rw Rw []:=by
 refine ⟨Nat.le_refl _,fun _ _ _=>rfl,fun i r h q _=>?_,by simp,.nil,by simp,.nil⟩
 have:=(Ag.1 h).1
 rcases q with q | q
 ·omega
 ·cases q
theorem Owns.pre (h:Owns Rw rows l .none v):Rw <+: rows:=by
 rw [List.prefix_iff_getElem?]
 intro i hi
 rw [h.keep i hi (fun q=>by cases q),List.getElem?_eq_getElem hi]
theorem Owns.sub {l':List (Nat × Nat × Own)} (h:Owns Rw rows l ho v) (hs:l'.Sublist l):Owns Rw rows l' ho v :=
 ⟨h.len,h.keep,h.calm,fun x a=>h.each x (hs.subset a),h.apart.sublist hs,h.veach,h.vapart⟩
theorem Owns.full (h:Owns Rw rows l ho v) (sz n:Nat):Owns Rw rows ((sz,n,.full)::l) ho v :=
 ⟨h.len,h.keep,h.calm,fun x hx=>by
  rcases List.mem_cons.1 hx with rfl | hx
  ·exact .inl rfl
  ·exact h.each x hx,List.pairwise_cons.2 ⟨fun _ _ id q=>(nomatch q),h.apart⟩,h.veach,h.vapart⟩
theorem VAt.up {lo:Nat} {x:VE} (h:VAt lo rows x) (r:List RowA):VAt lo (rows++r) x:=by
 rcases h with h | ⟨id,ver,h1,h2,h3⟩
 ·exact .inl h
 ·exact .inr ⟨id,ver,h1,h2,by rw [List.getElem?_append_left (Ag.1 h3).1];exact h3⟩
theorem VAt.set {lo:Nat} {x:VE} (h:VAt lo rows x) {i:Nat} (hi:∀ ver,x.1 ≠ .row i ver) (r:RowA):VAt lo (rows.set i r) x:=by
 rcases h with h | ⟨id,ver,h1,h2,h3⟩
 ·exact .inl h
 ·exact .inr ⟨id,ver,h1,h2,by rw [List.getElem?_set_ne (fun (e:i=id)=>hi ver (by rw [e];exact h1))];exact h3⟩
theorem Owns.make (h:Owns Rw rows l ho v) (sz n:Nat):Owns Rw (rows++[.grow n sz]) ((sz,n,.row rows.length)::l) ho v:=by
 have d:=h.len
 refine ⟨by simp;omega,fun i b e=>?_,fun i r a q c=>?_,fun x hx=>?_,List.pairwise_cons.2 ⟨fun y f id q k=>?_,h.apart⟩,fun x hx=>(h.veach x hx).up _,h.vapart⟩
 ·rw [List.getElem?_append_left (by omega)];exact h.keep i b e
 ·by_cases b:i<rows.length
  ·rw [List.getElem?_append_left b] at a;exact h.calm i r a q c
  ·rw [List.getElem?_append_right (by omega)] at a
   have:=List.mem_of_getElem? a
   simp only [List.mem_singleton] at this;subst this;rfl
 ·rcases List.mem_cons.1 hx with rfl | hx
  ·exact .inr ⟨_,rfl,.inl d,by simp⟩
  ·rcases h.each x hx with q | ⟨id,q1,q2,q3⟩
   ·exact .inl q
   ·exact .inr ⟨id,q1,q2,by rw [List.getElem?_append_left (Ag.1 q3).1];exact q3⟩
 ·rcases h.each y f with q' | ⟨id',q1,q2,q3⟩
  ·rw [q'] at k;cases k
  ·rw [q1] at k;cases k;cases q
   exact absurd (Ag.1 q3).1 (Nat.lt_irrefl _)
theorem Owns.unders (h:Owns Rw rows l ho v):∀ x∈l,x.2.2.under rows.length:=fun x a=>by
 rcases h.each x a with q | ⟨id,q1,q2,q3⟩
 ·rw [q];trivial
 ·rw [q1];exact (Ag.1 q3).1
theorem Owns.of_eq {l':List (Nat × Nat × Own)} (h:Owns Rw rows l ho v) (he:l=l'):Owns Rw rows l' ho v:=he▸h
theorem Owns.swap {l':List (Nat × Nat × Own)} (h:Owns Rw rows l ho v) (hp:l.Perm l'):Owns Rw rows l' ho v :=
 ⟨h.len,h.keep,h.calm,fun x c=>h.each x (hp.mem_iff.2 c),(hp.pairwise_iff (R:=fun x y:Nat × Nat × Own=>∀ id,x.2.2 = .row id→y.2.2 ≠ .row id) (fun q id a b=>q id b a)).1 h.apart,h.veach,h.vapart⟩
theorem Owns.grow_off (h:Owns Rw rows l ho v) {sz n id:Nat} (hx:(sz,n,Own.row id)∈l):Z1 v id:=by
 intro x hv a e
 rcases h.each _ hx with q | ⟨id',q1,q2,q3⟩
 ·cases q
 ·cases q1
  rcases h.veach x hv with w | ⟨id2,ver2,w1,w2,w3⟩
  ·rw [w.1] at e;cases e
  ·rw [w1] at e;cases e
   rw [w3] at q3;cases q3
end
theorem JO {Rw rows:List RowA} (h:Rw <+: rows) {id:Nat} (hi:Rw.length≤id) (x:RowA):Rw <+: rows.set id x:=by
 obtain ⟨t,rfl⟩:=h
 rw [List.set_append_right _ _ hi]
 exact List.prefix_append _ _
theorem Owns.more {Rw rows:List RowA} {l:List (Nat × Nat × Own)} {ho:Own} {v:List VE} {sz n id:Nat} (h:Owns Rw rows ((sz,n,.row id)::l) ho v) (m:Nat):Owns Rw (rows.set id (.grow m sz)) ((sz,m,.row id)::l) ho v:=by
 have b:=h.grow_off (List.mem_cons_self ..)
 obtain ⟨t,p,j,d,w,k,z⟩:=h
 obtain ⟨hid,hrow⟩:(Rw.length≤id∨ho = .row id)∧rows[id]? = some (.grow n sz):=by
  rcases d _ (List.mem_cons_self ..) with q | ⟨id',q1,q2,q3⟩
  ·cases q
  ·cases q1;exact ⟨q2,q3⟩
 have a:=(Ag.1 hrow).1
 obtain ⟨f,u⟩:=List.pairwise_cons.1 w
 refine ⟨by simpa using t,fun i o c=>?_,fun i r hr q g=>?_,fun x hx=>?_,List.pairwise_cons.2 ⟨fun y s=>f y s,u⟩,fun x hx=>(k x hx).set (b x hx) _,z⟩
 ·have:id≠i:=by
   rintro rfl
   rcases hid with q | q
   ·omega
   ·exact c q
  rw [List.getElem?_set_ne this];exact p i o c
 ·by_cases e:id=i
  ·subst e
   rw [List.getElem?_set_self a] at hr
   cases hr;rfl
  ·rw [List.getElem?_set_ne e] at hr;exact j i r hr q g
 ·rcases List.mem_cons.1 hx with rfl | hx
  ·exact .inr ⟨id,rfl,hid,by simp [a]⟩
  ·rcases d x (List.mem_cons_of_mem _ hx) with q | ⟨id',q1,q2,q3⟩
   ·exact .inl q
   ·have:id'≠id:=fun e=>f x hx id rfl (e▸q1)
    exact .inr ⟨id',q1,q2,by rw [List.getElem?_set_ne (Ne.symm this)];exact q3⟩
theorem Owns.inV {Rw rows:List RowA} {l:List (Nat × Nat × Own)} {ho:Own} {v:List VE} (h:Owns Rw rows l ho v) {i:Nat} {r:RowA} (hr:rows[i]? = some r) (hi:¬ Z1 v i):∃ x∈v,r.cells=x.2.2∧Rw.length≤i:=by
 simp only [Z1,ne_eq,Classical.not_forall,Classical.not_not] at hi
 obtain ⟨x,a,b,e⟩:=hi
 rcases h.veach x a with w | ⟨id,ver',w1,w2,w3⟩
 ·rw [w.1] at e;cases e
 ·rw [w1] at e;cases e
  rw [w3] at hr;cases hr
  exact ⟨x,a,rfl,w2⟩
theorem Owns.rowsCalm {Rw rows:List RowA} {l:List (Nat × Nat × Own)} {ho:Own} {v:List VE} (h:Owns Rw rows l ho v) {nb nb' nl:Nat} (hb:nb≤nb') (hc:∀ r∈Rw,∀ x∈r.cells,Under nb Rw.length nl x) (hv:∀ x∈v,∀ y∈x.2.2,Under nb' rows.length nl y:=by intro x hx;cases hx):∀ r∈rows,∀ x∈r.cells,Under nb' rows.length nl x:=fun r f x hx=>by
 obtain ⟨i,c,rfl⟩:=List.mem_iff_getElem.1 f
 have b:rows[i]? = some rows[i]:=List.getElem?_eq_getElem c
 by_cases qv:Z1 v i
 case neg =>
  obtain ⟨y,d,e,_⟩:=h.inV b qv
  rw [e] at hx
  exact hv y d x hx
 by_cases q:Rw.length≤i∨ho = .row i
 ·rw [h.calm i _ b q qv] at hx;cases hx
 ·have a:i<Rw.length:=by omega
  have:=h.keep i a (fun e=>q (.inr e))
  rw [b,List.getElem?_eq_getElem a] at this
  rw [Option.some.inj this] at hx
  exact CX hb h.len (Nat.le_refl _) (hc _ (List.getElem_mem a) x hx)
theorem Owns.call {Rw rows rows':List RowA} {l:List (Nat × Nat × Own)} {ho o o':Own} {v:List VE} {sz n n':Nat} (h:Owns Rw rows ((sz,n,o)::l) ho v) (hc:Owns rows rows' [(sz,n',o')] o):Owns Rw rows' ((sz,n',o')::l) ho v:=by
 have c:=h.each _ (List.mem_cons_self ..)
 have a:∀ i,o = .row i→Z1 v i:=fun i e=>h.grow_off (sz:=sz) (n:=n) (by rw [←e];exact List.mem_cons_self ..)
 obtain ⟨g,s⟩:=List.pairwise_cons.1 h.apart
 have own:∀ i,o = .row i→(Rw.length≤i∨ho = .row i)∧i<rows.length:=fun i e=>by
  rcases c with q | ⟨id,q1,q2,q3⟩
  ·simp only at q;rw [e] at q;cases q
  ·simp only at q1;rw [e] at q1;cases q1
   exact ⟨q2,(Ag.1 q3).1⟩
 have t:=h.len
 have u:=hc.len
 have b:=hc.each _ (List.mem_cons_self ..)
 refine ⟨by omega,fun i p f=>?_,fun i r d q m=>?_,fun x hxm=>?_,List.pairwise_cons.2 ⟨fun y j id e=>?_,s⟩,fun x c=>?_,h.vapart⟩
 ·have:o ≠ .row i:=fun e=>by
   rcases (own i e).1 with q | q
   ·omega
   ·exact f q
  rw [hc.keep i (by omega) this];exact h.keep i p f
 ·by_cases e:rows.length≤i∨o = .row i
  ·exact hc.calm i r d e (QK i)
  ·rw [hc.keep i (by omega) (fun k=>e (.inr k))] at d
   exact h.calm i r d q m
 ·rcases List.mem_cons.1 hxm with rfl | hxm
  ·rcases b with q | ⟨id,q1,q2,q3⟩
   ·exact .inl q
   ·refine .inr ⟨id,q1,?_,q3⟩
    rcases q2 with q2 | q2
    ·exact .inl (by omega)
    ·exact (own id q2).1
  ·rcases h.each x (List.mem_cons_of_mem _ hxm) with q | ⟨id,q1,q2,q3⟩
   ·exact .inl q
   ·refine .inr ⟨id,q1,q2,?_⟩
    rw [hc.keep id (Ag.1 q3).1 (fun e=>g x hxm id e q1)]
    exact q3
 ·intro k
  rcases b with q | ⟨id',q1,q2,q3⟩
  ·simp only at q e;rw [q] at e;cases e
  ·simp only at q1 e
   rw [q1] at e;cases e
   rcases q2 with q2 | q2
   ·rcases h.each y (List.mem_cons_of_mem _ j) with w | ⟨id,w1,w2,w3⟩
    ·rw [w] at k;cases k
    ·rw [w1] at k;cases k
     have:=(Ag.1 w3).1
     omega
   ·exact g y j _ q2 k
 ·rcases h.veach x c with w | ⟨id,ver,w1,w2,w3⟩
  ·exact .inl w
  ·refine .inr ⟨id,ver,w1,w2,?_⟩
   rw [hc.keep id (Ag.1 w3).1 (fun e=>a id e x c ver w1)]
   exact w3
theorem Owns.append {P:Program} {t el:TypeId} {sz by8 n:Nat} {ag:Bool} {Rw rows:List RowA} {l:List (Nat × Nat × Own)} {o ho:Own} {v:List VE} (h:Owns Rw rows ((sz,n,o)::l) ho v) (he:JX P t=some (el,sz,ag,by8)) (hz:(CW P el).isSome=true) (hs:0<sz) (m:Nat)
  (hb:(n+m)*by8≤140737488355328) (hb2:n+m≤4611686018427387904):∃ o' rows',Owns Rw rows' ((sz,n+m,o')::l) ho v ∧
   ∀ (xs ys:List AV) (B:List (List AV)) (L:List LoopA) (o2:Own),xs.length=n→ys.length=m→(∀ y∈xs,y.cells.length=sz) →
    Bq P ⟨B,rows,L⟩ t (.list xs o) (.list ys o2)=((∀ y∈ys,y.cells.length=sz∧A4 y=true),.list (xs++ys.map AV.pub) o',⟨B,rows',L⟩):=by
 have b:∀ (ys:List AV),ys.length=m→Cm P el sz by8 n ys=(∀ y∈ys,y.cells.length=sz∧A4 y=true):=by
  intro ys f
  simp only [Cm,hs,hz,f,hb,hb2,true_and]
 rcases h.each _ (List.mem_cons_self ..) with q | ⟨id,q1,q2,q3⟩
 ·simp only at q;subst q
  have e:=h.sub (List.sublist_cons_self _ _)
  by_cases hm:m=0
  ·subst hm
   refine ⟨.full,rows,e.full _ _,fun xs ys B L o2 d a c=>?_⟩
   have:ys=[]:=List.length_eq_zero_iff.1 a
   subst this
   simp [Bq,he,AX,Cc,hs]
  ·refine ⟨.row rows.length,rows++[.grow (n+m) sz],e.make _ _,fun xs ys B L o2 d a c=>?_⟩
   simp only [Bq,he,AX,Cc]
   rw [Af (by omega),d,b ys a,a]
   simp only [true_and,Prod.mk.injEq,eq_iff_iff,and_true]
   exact ⟨fun q=>q.1,fun q=>⟨q,c⟩⟩
 ·simp only at q1;subst q1
  refine ⟨.row id,_,h.more (n+m),fun xs ys B L o2 d a c=>?_⟩
  simp only [Bq,he,AX,Cc]
  rw [d,b ys a,a]
  simp only [true_and,Prod.mk.injEq,eq_iff_iff,and_true]
  exact ⟨fun q=>q.1,fun q=>⟨q,c,q3⟩⟩
theorem Uy {α:Type} {xs:List α} {i:Nat} {x:α} (h:xs[i]? = some x):xs.drop i=x::xs.drop (i+1):=by
 obtain ⟨a,rfl⟩:=Ag.1 h
 exact List.drop_eq_getElem_cons a
theorem A7 {M1:Mem} {B bs bs' XB:List (List AV)} {Rw rows rows':List RowA} {L XL lp:List LoopA} {la:LoopA} {l l':List (Nat × Nat × Own)} {oh:Own} (hra:RoundAt M1 ((St.push ⟨B++bs,rows,L⟩ la).ext ⟨XB,[],XL⟩)) (ho:Owns Rw rows l oh) (ho':Owns Rw rows' l' oh) (hlen:bs'.length=bs.length) (hr:rows.length≤rows'.length)
  (hlp:lp=(L++[la])++XL) (hbs:∀ cs∈bs',∀ x∈cs,Under (B.length+bs.length+XB.length) rows'.length lp.length x):Calm ((B++bs).length+XB.length) rows'.length lp.length ⟨(B++bs')++XB,rows',lp⟩:=by
 subst hlp
 have b:=hra.calm
 simp only [St.ext,St.push,List.append_nil] at b
 have e:((B++bs)++XB).length=(B++bs).length+XB.length:=List.length_append
 rw [e] at b
 refine ⟨fun r h x hx=>?_,fun cs h x hx=>?_,fun a n k x hx j=>CX (Nat.le_refl _) hr (Nat.le_refl _) (b.loops a n k x hx j)⟩
 ·obtain ⟨i,g,rfl⟩:=List.mem_iff_getElem.1 h
  have d:rows'[i]? = some rows'[i]:=List.getElem?_eq_getElem g
  by_cases q:Rw.length≤i∨oh = .row i
  ·rw [ho'.calm i _ d q (QK i)] at hx;cases hx
  ·have c:i<Rw.length:=by omega
   have f:=ho'.keep i c (fun e=>q (.inr e))
   have m:=ho.keep i c (fun e=>q (.inr e))
   rw [d,←m] at f
   exact CX (Nat.le_refl _) hr (Nat.le_refl _) (b.rows _ (List.mem_of_getElem? f.symm) x hx)
 ·rcases List.mem_append.1 h with h | h
  ·rcases List.mem_append.1 h with h | h
   ·exact CX (Nat.le_refl _) hr (Nat.le_refl _) (b.boxes cs (by simp [h]) x hx)
   ·have:=hbs cs h x hx
    rwa [List.length_append]
  ·exact CX (Nat.le_refl _) hr (Nat.le_refl _) (b.boxes cs (by simp [h]) x hx)
section
variable {P:Program} {w0:World} {n:Nat} {e:Env} {st:St} {M0:Mem} {W0:World} {ro:Option Nat} {Q:AQ} {c:Code}
theorem RO (l i:Nat) {cs:List AV} {x:AV} (hl:st.boxes[l]? = some cs) (hi:cs[i]? = some x) (h1:x.one=true) (h:GE P w0 n M0 W0 ro c Q e { st with boxes:=st.boxes.set l (cs.set i x.pubCell) }):GE P w0 n M0 W0 ro c Q e st :=
 N9 _ _ (fun M _ w a=>⟨M,.refl _ _ _,a.st.setBox hl hi (by rw [AV.one_pubCell];exact h1) (fun v hv=>hv.pubCell),a.size,a.env⟩) h
theorem RelSt.pubBox {M:Mem} {w:World} (h:RelSt w0 M st w) {l:Nat} {cs:List AV} (hl:st.boxes[l]? = some cs):RelSt w0 M { st with boxes:=st.boxes.set l (cs.map AV.pubCell) } w:=by
 have b:l<st.boxes.length:=(Ag.1 hl).1
 refine ⟨h.below,by simp [h.N],h.NR,h.top,h.inj,fun d a hl'=>?_,h.row,h.rowinj,h.loop⟩
 by_cases q:d=l
 ·subst q
  rw [List.getElem?_set_self b] at hl'
  cases hl'
  obtain ⟨a1,a2,c,i,a3,a4,a5,a6⟩:=h.box d cs hl
  refine ⟨a1,a2,c,i,a3,by simp [a4],fun z k=>?_,fun j f e=>?_⟩
  ·obtain ⟨y,g,rfl⟩:=List.mem_map.1 k
   rw [AV.one_pubCell];exact a5 y g
  ·simp only [List.getElem_map]
   exact (a6 j f (by simpa using e)).pubCell
 ·rw [List.getElem?_set_ne (Ne.symm q)] at hl'
  exact h.box d a hl'
theorem LH (l:Nat) {cs cs':List AV} (hl:st.boxes[l]? = some cs) (he:cs.map AV.pubCell=cs') (h:GE P w0 n M0 W0 ro c Q e { st with boxes:=st.boxes.set l cs' }):GE P w0 n M0 W0 ro c Q e st:=by
 subst he
 exact N9 _ _ (fun M _ w a=>⟨M,.refl _ _ _,a.st.pubBox hl,a.size,a.env⟩) h
theorem WR {a:AV} {xs:List AV} (h:a.pub = .list xs .none):∃ o,a = .list xs o:=by
 cases a<;>simp only [AV.pub,reduceCtorEq] at h
 ·cases h;exact ⟨_,rfl⟩
theorem QL (l i:Nat) {cs:List AV} {a:AV} {xs:List AV} (hl:st.boxes[l]? = some cs) (hi:cs[i]? = some a) (ha:a.pub = .list xs .none) (h:GE P w0 n M0 W0 ro c Q e { st with boxes:=st.boxes.set l (cs.set i (.list xs .none)) }):GE P w0 n M0 W0 ro c Q e st:=by
 obtain ⟨o,rfl⟩:=WR ha
 exact RO l i hl hi rfl h
theorem Ci {nb nr nl:Nat} {f:FuncId} {cs:List AV} (h:Under nb nr nl (.clo f cs)):∀ nb' nr' nl',nb≤nb'→nr≤nr'→nl≤nl'→∀ x∈cs,Under nb' nr' nl' x :=
 fun _ _ _ c a d x b=>CX c a d (Rf.1 h x b)
theorem Re {B0 B bs X:List (List AV)} {Rw rows:List RowA} {L l':List LoopA} {l:List (Nat × Nat × Own)} {oh:Own} {v:List VE} (hN:M0.N=B0.length) (hNR:M0.NR=Rw.length) (hNL:M0.NL=L.length) (hB:B.length=B0.length) (hc:Calm B0.length Rw.length L.length ⟨B,Rw,L⟩) (ho:Owns Rw rows l oh v)
  (hbs:∀ cs∈bs,∀ x∈cs,Under (B0.length+bs.length) rows.length L.length x) (he:Lq (B0.length+bs.length) rows.length L.length e)
  (h:GE P w0 n M0 W0 ro c Q e ⟨B++bs,rows,L⟩) (hv:∀ x∈v,∀ y∈x.2.2,Under (B0.length+bs.length) rows.length L.length y:=by intro x hx;cases hx):GE P w0 n M0 W0 ro c Q e ⟨B++(bs++X),rows,L++l'⟩:=by
 rw [←hB] at hN hc hbs he hv
 clear hB B0
 have i:=ho.len
 have b:St.cut ⟨B++(bs++X),rows,L++l'⟩ (B.length+bs.length) rows.length L.length=⟨B++bs,rows,L⟩:=by
  simp only [St.cut,List.take_length,←List.append_assoc]
  rw [List.take_left' (by simp),List.take_left' rfl]
 refine SX (B.length+bs.length) rows.length L.length (by simp) (Nat.le_refl _) (by simp) (by omega) (by omega) (by omega) ?_ he (by rw [b];exact h)
 rw [b]
 refine ⟨fun r f x hx=>?_,fun cs hcs x hx=>?_,fun g a k x hx d=>?_⟩
 ·exact ho.rowsCalm (by omega) hc.rows hv r f x hx
 ·rcases List.mem_append.1 hcs with hcs | hcs
  ·exact CX (by omega) (by omega) (Nat.le_refl _) (hc.boxes cs hcs x hx)
  ·exact hbs cs hcs x hx
 ·exact CX (by omega) (by omega) (Nat.le_refl _) (hc.loops g a k x hx d)
theorem AP {B0 B bs X:List (List AV)} {Rw rows:List RowA} {L:List LoopA} {l:List (Nat × Nat × Own)} {oh:Own} {v:List VE} (hN:M0.N=B0.length) (hNR:M0.NR=Rw.length) (hNL:M0.NL=L.length) (hB:B.length=B0.length) (hc:Calm B0.length Rw.length L.length ⟨B,Rw,L⟩) (ho:Owns Rw rows l oh v)
  (hbs:∀ cs∈bs,∀ x∈cs,Under (B0.length+bs.length) rows.length L.length x) (he:Lq (B0.length+bs.length) rows.length L.length e)
  (h:GE P w0 n M0 W0 ro c Q e ⟨B++bs,rows,L⟩) (hv:∀ x∈v,∀ y∈x.2.2,Under (B0.length+bs.length) rows.length L.length y:=by intro x hx;cases hx):GE P w0 n M0 W0 ro c Q e ⟨B++(bs++X),rows,L⟩:=by
 rw [←hB] at hN hc hbs he hv
 clear hB B0
 have i:=ho.len
 have b:St.cut ⟨B++(bs++X),rows,L⟩ (B.length+bs.length) rows.length L.length=⟨B++bs,rows,L⟩:=by
  simp only [St.cut,List.take_length,←List.append_assoc]
  rw [List.take_left' (by simp)]
 refine SX (B.length+bs.length) rows.length L.length (by simp) (Nat.le_refl _) (Nat.le_refl _) (by omega) (by omega) (by omega) ?_ he (by rw [b];exact h)
 rw [b]
 refine ⟨fun r f x hx=>?_,fun cs hcs x hx=>?_,fun g a k x hx d=>?_⟩
 ·exact ho.rowsCalm (by omega) hc.rows hv r f x hx
 ·rcases List.mem_append.1 hcs with hcs | hcs
  ·exact CX (by omega) (by omega) (Nat.le_refl _) (hc.boxes cs hcs x hx)
  ·exact hbs cs hcs x hx
 ·exact CX (by omega) (by omega) (Nat.le_refl _) (hc.loops g a k x hx d)
end
section
variable {P:Program} {w0:World} {st:St}
theorem F6 {c d:Bool} {f:FuncId} {cs args args':List AV} {k:AV→St→Prop} (v:AV)
  (h:ACalls P w0 f args' st fun r s=>r=v∧s=st) (he:args++cs=args') (hk:k v st):MF P w0 c d (.clo f cs) args st k := .inl ⟨v,fun _=>by
 show ACalls P w0 f (args++cs) st _
 rw [he];exact h,hk⟩
theorem Az {d:Bool} {fv:AV} {args:List AV} {k:AV→St→Prop} (h:k .junk st):MF P w0 false d fv args st k := .inl ⟨.junk,fun q=>(nomatch q),h⟩
theorem E9 {B B' X:List (List AV)} {Rw rows:List RowA} {L:List LoopA} {Post:AV→St→Prop} {v:AV} (hc:Calm B.length Rw.length L.length ⟨B',Rw,L⟩) (hB:B'.length=B.length) (h2:Rw <+: rows) (hu:Under B.length Rw.length L.length v.pubA) (hp:Post v.pubA ⟨B',Rw,L⟩) :
  Go.Ev.finP ⟨B,Rw,L⟩ Post v ⟨B'++X,rows,L⟩:=by
 obtain ⟨r,rfl⟩:=h2
 have e:St.cut ⟨B'++X,Rw++r,L⟩ B.length Rw.length L.length=⟨B',Rw,L⟩:=by simp [St.cut,←hB]
 exact ⟨by simp [hB],by simp,by simp,by simp only [e];exact hc,hu,by simp only [e];exact hp⟩
end
theorem DL {B B':List (List AV)} {Rw rows:List RowA} {L:List LoopA} {Post:AV→St→Prop} {v:AV} (hc:Calm B.length Rw.length L.length ⟨B',Rw,L⟩) (hB:B'.length=B.length) (h2:Rw <+: rows) (hu:Under B.length Rw.length L.length v.pubA) (hp:Post v.pubA ⟨B',Rw,L⟩) :
  Go.Ev.finP ⟨B,Rw,L⟩ Post v ⟨B',rows,L⟩:=by
 have:=E9 (X:=[]) hc hB h2 hu hp
 rwa [List.append_nil] at this
theorem Ap {nb nr nl:Nat} {B:List (List AV)} {Rw:List RowA} {L:List LoopA} {l:Nat} {cs:List AV} (h:Calm nb nr nl ⟨B,Rw,L⟩) (hc:∀ x∈cs,Under nb nr nl x):Calm nb nr nl ⟨B.set l cs,Rw,L⟩ :=
 ⟨h.rows,fun b hd x a=>by
  rcases List.mem_or_eq_of_mem_set hd with hd | rfl
  ·exact h.boxes b hd x a
  ·exact hc x a,h.loops⟩
theorem Zj8 {B B' X:List (List AV)} {Rw rows:List RowA} {L l:List LoopA} {Post:AV→St→Prop} {v:AV} (hc:Calm B.length Rw.length L.length ⟨B',Rw,L⟩) (hB:B'.length=B.length) (h2:Rw <+: rows) (hu:Under B.length Rw.length L.length v.pubA) (hp:Post v.pubA ⟨B',Rw,L⟩) :
  Go.Ev.finP ⟨B,Rw,L⟩ Post v ⟨B'++X,rows,L++l⟩:=by
 obtain ⟨r,rfl⟩:=h2
 have e:St.cut ⟨B'++X,Rw++r,L++l⟩ B.length Rw.length L.length=⟨B',Rw,L⟩:=by simp [St.cut,←hB]
 exact ⟨by simp [hB],by simp,by simp,by simp only [e];exact hc,hu,by simp only [e];exact hp⟩
theorem An {B:List (List AV)} {l:Nat} {cs:List AV} (h:B[l]? = some cs) :
  (∀ X R L o,Dx ⟨B++X,R,L⟩ (.box l o)=true)∧(∀ R L o,Dx ⟨B,R,L⟩ (.box l o)=true)∧(∀ X R L o,Bj ⟨B++X,R,L⟩ (.box l o)=cs)∧(∀ R L o,Bj ⟨B,R,L⟩ (.box l o)=cs) ∧
  (∀ X,(B++X)[l]? = some cs)∧B[l]? = some cs∧(∀ X,(B++X).getD l []=cs)∧B.getD l []=cs∧(∀ X c,(B++X).set l c=B.set l c++X) ∧
  (∀ X R L o c,Dx ⟨B.set l c++X,R,L⟩ (.box l o)=true)∧(∀ R L o c,Dx ⟨B.set l c,R,L⟩ (.box l o)=true)∧(∀ X R L o c,Bj ⟨B.set l c++X,R,L⟩ (.box l o)=c)∧(∀ R L o c,Bj ⟨B.set l c,R,L⟩ (.box l o)=c) ∧
  (∀ X c,(B.set l c++X)[l]? = some c)∧(∀ c,(B.set l c)[l]? = some c)∧(∀ X c,(B.set l c++X).getD l []=c)∧(∀ c,(B.set l c).getD l []=c)∧(∀ X c d,(B.set l c++X).set l d=B.set l d++X)∧(∀ c d,(B.set l c).set l d=B.set l d)∧B.set l cs=B:=by
 have a:=(Ag.1 h).1
 have f:∀ X,(B++X)[l]? = some cs:=fun X=>by rw [List.getElem?_append_left a];exact h
 have e:∀ X c,(B.set l c++X)[l]? = some c:=fun X c=>by rw [List.getElem?_append_left (by simpa using a)];simp [a]
 have b:∀ c,(B.set l c)[l]? = some c:=fun c=>by simp [a]
 refine ⟨?_,?_,?_,?_,f,h,?_,?_,?_,?_,?_,?_,?_,e,b,?_,?_,?_,?_,?_⟩
 ·intro X R L o;simp [Dx];omega
 ·intro R L o;simp [Dx,a]
 ·intro X R L o;simp only [Bj,List.getD_eq_getElem?_getD,f,Option.getD_some]
 ·intro R L o;simp only [Bj,List.getD_eq_getElem?_getD,h,Option.getD_some]
 ·intro X;rw [List.getD_eq_getElem?_getD,f];rfl
 ·rw [List.getD_eq_getElem?_getD,h];rfl
 ·intro X c;exact List.set_append_left _ _ a
 ·intro X R L o c;simp [Dx];omega
 ·intro R L o c;simp [Dx,a]
 ·intro X R L o c;simp only [Bj,List.getD_eq_getElem?_getD,e,Option.getD_some]
 ·intro R L o c;simp only [Bj,List.getD_eq_getElem?_getD,b,Option.getD_some]
 ·intro X c;rw [List.getD_eq_getElem?_getD,e];rfl
 ·intro c;rw [List.getD_eq_getElem?_getD,b];rfl
 ·intro X c d;rw [List.set_append_left _ _ (by simpa using a),List.set_set]
 ·intro c d;exact List.set_set ..
 ·obtain ⟨g,rfl⟩:=Ag.1 h;exact List.set_getElem_self _
@[go_sem] theorem Zhc (B X:List (List AV)) (R:List RowA) (L:List LoopA) (i k o:Nat) (c:List AV):Dx ⟨B.set i c++X,R,L⟩ (.box (B.length+k) o)=decide (k<X.length):=by simp [Dx]
@[go_sem] theorem Zgk (B X:List (List AV)) (R:List RowA) (L:List LoopA) (i o:Nat) (c:List AV):Dx ⟨B.set i c++X,R,L⟩ (.box B.length o)=decide (0<X.length):=by simp [Dx]
@[go_sem] theorem VY (B X:List (List AV)) (i k:Nat) (c:List AV):(B.set i c++X).getD (B.length+k) []=X.getD k []:=by
 have:=YE (B.set i c) X k
 rwa [List.length_set] at this
@[go_sem] theorem UH (B X:List (List AV)) (i:Nat) (c:List AV):(B.set i c++X).getD B.length []=X.getD 0 []:=by
 have:=Wn (B.set i c) X
 rwa [List.length_set] at this
@[go_sem] theorem ZfL (B X:List (List AV)) (R:List RowA) (L:List LoopA) (i k o:Nat) (c:List AV):Bj ⟨B.set i c++X,R,L⟩ (.box (B.length+k) o)=X.getD k []:=VY B X i k c
@[go_sem] theorem ZdZ (B X:List (List AV)) (R:List RowA) (L:List LoopA) (i o:Nat) (c:List AV):Bj ⟨B.set i c++X,R,L⟩ (.box B.length o)=X.getD 0 []:=UH B X i c
@[go_sem] theorem Zc4 (B X:List (List AV)) (i k:Nat) (c x:List AV):(B.set i c++X).set (B.length+k) x=B.set i c++X.set k x:=by
 have:=Ze3 (B.set i c) X k x
 rwa [List.length_set] at this
@[go_sem] theorem Zbw (B X:List (List AV)) (i:Nat) (c x:List AV):(B.set i c++X).set B.length x=B.set i c++X.set 0 x:=by
 have:=Zb1 (B.set i c) X x
 rwa [List.length_set] at this
@[go_sem] theorem Kr (B X:List (List AV)) (i k:Nat) (c:List AV):(B.set i c++X)[B.length+k]? = X[k]? := by
 rw [List.getElem?_append_right (by simp),List.length_set,Nat.add_sub_cancel_left]
@[go_sem] theorem IF (B X:List (List AV)) (i:Nat) (c:List AV):(B.set i c++X)[B.length]? = X[0]? := by
 rw [List.getElem?_append_right (by simp),List.length_set,Nat.sub_self]
attribute [go_sem] List.length_set
theorem DI {α:Type} {B B':List α} {l:Nat} {c:α} (h:B <+: B') (hl:B[l]? = some c):B'[l]? = some c:=by
 obtain ⟨t,rfl⟩:=h
 rw [List.getElem?_append_left (Ag.1 hl).1];exact hl
theorem G9 {α:Type} {f:α→List AV} (sz:Nat) (hf:∀ x,(f x).length=sz):∀ {xs:List α} {i:Nat} {x:α},xs[i]? = some x→((xs.flatMap f).drop (i*sz)).take sz=f x
 | [],i,x,h=>by simp at h
 | y::ys,0,x,h=>by
  simp only [List.getElem?_cons_zero,Option.some.injEq] at h
  subst h
  simp [List.flatMap_cons,←hf y]
 | y::ys,i+1,x,h=>by
  simp only [List.getElem?_cons_succ] at h
  rw [List.flatMap_cons,Nat.succ_mul,Nat.add_comm,List.drop_append,hf y,Nat.add_sub_cancel_left,List.drop_eq_nil_of_le (by rw [hf y];omega),List.nil_append]
  exact G9 sz hf h
@[go_sem] theorem Zg0 (l:List AV):Dw l 0 []=l:=by simp [Dw]
@[go_sem] theorem ZeZ (a x:AV) (l xs:List AV):Dw (a::l) 0 (x::xs)=x::Dw l 0 xs:=by simp [Dw]
@[go_sem] theorem ZfR (a:AV) (l xs:List AV) (n:Nat):Dw (a::l) (n+1) xs=a::Dw l n xs:=by simp [Dw,Nat.succ_add]
@[go_sem] theorem JM (B l:List (List AV)) (k:Nat):(B++l)[B.length+k]? = l[k]? := by rw [List.getElem?_append_right (by omega),Nat.add_sub_cancel_left]
@[go_sem] theorem Iu (B l:List (List AV)):(B++l)[B.length]? = l[0]? := by rw [List.getElem?_append_right (by omega),Nat.sub_self]
theorem Owns.enter {Rw rows:List RowA} {l:List (Nat × Nat × Own)} {ho o:Own} {v:List VE} {sz n:Nat} (h:Owns Rw rows ((sz,n,o)::l) ho v):Owns rows rows [(sz,n,o)] o:=by
 have b:=h.each _ (List.mem_cons_self ..)
 refine ⟨Nat.le_refl _,fun _ _ _=>rfl,fun i r a q _=>?_,fun x c=>?_,by simp,by simp,.nil⟩
 ·rcases q with q | q
  ·have:=(Ag.1 a).1;omega
  ·rcases b with w | ⟨id,w1,w2,w3⟩
   ·simp only at w;rw [q] at w;cases w
   ·simp only at w1 w3;rw [q] at w1;cases w1
    rw [a] at w3;rw [Option.some.inj w3];rfl
 ·rw [List.mem_singleton.1 c]
  rcases b with w | ⟨id,w1,w2,w3⟩
  ·exact .inl w
  ·exact .inr ⟨id,w1,.inr w1,w3⟩
theorem Fo {nb nr nr' nl:Nat} {st:St} (h:Calm nb nr nl st) (hr:nr≤nr'):Calm nb nr' nl st :=
 ⟨fun r a x b=>CX (Nat.le_refl _) hr (Nat.le_refl _) (h.rows r a x b),fun cs a x b=>CX (Nat.le_refl _) hr (Nat.le_refl _) (h.boxes cs a x b),fun d a k x b c=>CX (Nat.le_refl _) hr (Nat.le_refl _) (h.loops d a k x b c)⟩
section
variable {P:Program} {w0:World} {f:FuncId} {st:St}
def finG (st:St) (Post:AV→St→Prop) (r:AV) (s:St):Prop :=
 st.boxes.length≤s.boxes.length∧st.rows.length≤s.rows.length∧st.loops.length≤s.loops.length∧Calm st.boxes.length s.rows.length st.loops.length (s.cut st.boxes.length s.rows.length st.loops.length) ∧
  Under st.boxes.length s.rows.length st.loops.length r.pubA∧Post r.pubA (s.cut st.boxes.length s.rows.length st.loops.length)
theorem ACalls.finG {args:List AV} {Post:AV→St→Prop} (h:ACalls P w0 f args st (finG st Post)):ACalls P w0 f args st Post:=by
 refine ⟨h.1,fun M w c a b=>(h.2 M w c a b).mono ?_⟩
 rintro en m ⟨v,M',r,d,j,⟨k,n,e,i,g,l⟩,h3,h4,h5⟩
 exact ⟨v,M'.cut st.boxes.length d.rows.length st.loops.length,r.pubA,_,j,l,h3.cut (by have:=a.N;omega) (by have:=a.NR;omega) (by have:=a.loop.NL;omega) (by rw [h4.loop.NL];exact e),h4.cut k (Nat.le_refl _) e i,h5.pubA.cut g⟩
theorem Zkg {B B' X:List (List AV)} {R0 rows:List RowA} {L l:List LoopA} {Post:AV→St→Prop} {v:AV} {ow:List (Nat × Nat × Own)} {oh:Own} (ho:Owns R0 rows ow oh) (hc:Calm B.length rows.length L.length ⟨B',R0,L⟩) (hB:B'.length=B.length) (hu:Under B.length rows.length L.length v.pubA) (hp:Post v.pubA ⟨B',rows,L⟩) :
  Go.Ev.finG ⟨B,R0,L⟩ Post v ⟨B'++X,rows,L++l⟩:=by
 have e:St.cut ⟨B'++X,rows,L++l⟩ B.length rows.length L.length=⟨B',rows,L⟩:=by simp [St.cut,←hB]
 refine ⟨by simp [hB],ho.len,by simp,?_,hu,by simp only [e];exact hp⟩
 simp only [e]
 refine ⟨fun r d x hx=>?_,hc.boxes,hc.loops⟩
 obtain ⟨i,c,rfl⟩:=List.mem_iff_getElem.1 d
 have b:rows[i]? = some rows[i]:=List.getElem?_eq_getElem c
 by_cases q:R0.length≤i∨oh = .row i
 ·rw [ho.calm i _ b q (QK i)] at hx;cases hx
 ·have a:i<R0.length:=by omega
  have:=ho.keep i a (fun e=>q (.inr e))
  rw [b,List.getElem?_eq_getElem a] at this
  rw [Option.some.inj this] at hx
  exact hc.rows _ (List.getElem_mem a) x hx
end
theorem Q1 {B B' X:List (List AV)} {R0 rows:List RowA} {L:List LoopA} {Post:AV→St→Prop} {v:AV} {ow:List (Nat × Nat × Own)} {oh:Own} (ho:Owns R0 rows ow oh) (hc:Calm B.length rows.length L.length ⟨B',R0,L⟩) (hB:B'.length=B.length) (hu:Under B.length rows.length L.length v.pubA) (hp:Post v.pubA ⟨B',rows,L⟩) :
  Go.Ev.finG ⟨B,R0,L⟩ Post v ⟨B'++X,rows,L⟩:=by
 have:=Zkg (X:=X) (l:=[]) ho hc hB hu hp
 rwa [List.append_nil] at this
section
variable {P:Program} {w0:World} {n:Nat} {e:Env} {st:St} {M0:Mem} {W0:World} {ro:Option Nat} {Q:AQ} {c:Code}
theorem H8 {B0 B bs X:List (List AV)} {Rw rows:List RowA} {L:List LoopA} {l:List (Nat × Nat × Own)} {oh:Own} (hN:M0.N=B0.length) (hNR:M0.NR=Rw.length) (hNL:M0.NL=L.length) (hB:B.length=B0.length) (hc:Calm B0.length rows.length L.length ⟨B,Rw,L⟩) (ho:Owns Rw rows l oh)
  (hbs:∀ cs∈bs,∀ x∈cs,Under (B0.length+bs.length) rows.length L.length x) (he:Lq (B0.length+bs.length) rows.length L.length e)
  (h:GE P w0 n M0 W0 ro c Q e ⟨B++bs,rows,L⟩):GE P w0 n M0 W0 ro c Q e ⟨B++(bs++X),rows,L⟩:=by
 rw [←hB] at hN hc hbs he
 clear hB B0
 have p:=ho.len
 have f:St.cut ⟨B++(bs++X),rows,L⟩ (B.length+bs.length) rows.length L.length=⟨B++bs,rows,L⟩:=by
  simp only [St.cut,List.take_length,←List.append_assoc]
  rw [List.take_left' (by simp)]
 refine SX (B.length+bs.length) rows.length L.length (by simp) (Nat.le_refl _) (Nat.le_refl _) (by omega) (by omega) (by omega) ?_ he (by rw [f];exact h)
 rw [f]
 refine ⟨fun r m x hx=>?_,fun cs hcs x hx=>?_,fun o b k x hx j=>?_⟩
 ·obtain ⟨i,g,rfl⟩:=List.mem_iff_getElem.1 m
  have d:rows[i]? = some rows[i]:=List.getElem?_eq_getElem g
  by_cases q:Rw.length≤i∨oh = .row i
  ·rw [ho.calm i _ d q (QK i)] at hx;cases hx
  ·have a:i<Rw.length:=by omega
   have:=ho.keep i a (fun e=>q (.inr e))
   rw [d,List.getElem?_eq_getElem a] at this
   rw [Option.some.inj this] at hx
   exact CX (by omega) (Nat.le_refl _) (Nat.le_refl _) (hc.rows _ (List.getElem_mem a) x hx)
 ·rcases List.mem_append.1 hcs with hcs | hcs
  ·exact CX (by omega) (Nat.le_refl _) (Nat.le_refl _) (hc.boxes cs hcs x hx)
  ·exact hbs cs hcs x hx
 ·exact CX (by omega) (Nat.le_refl _) (Nat.le_refl _) (hc.loops o b k x hx j)
end
def U5 (acc:List Nat) (o:Oper):Nat:=o.after.toList.foldl (fun m e=>if Region.binds .any e then m ||| 2 ^ e.on ||| acc.getD e.on 0 else m) 0
def Ir:List Oper→List Nat→List Nat
 | [],acc=>acc
 | o::os,acc=>Ir os (acc++[U5 acc o])
def PD (ms:List Nat) (i j:Nat):Bool:=(ms.getD i 0).testBit j
theorem X9 (acc:List Nat) (j:Nat):∀ (es:List Edge) (m:Nat),(es.foldl (fun m e=>if Region.binds .any e then m ||| 2 ^ e.on ||| acc.getD e.on 0 else m) m).testBit j=true→m.testBit j=true∨∃ e∈es,Region.binds .any e=true∧(e.on=j∨PD acc e.on j=true)
 | [],m,h => .inl h
 | e::es,m,h=>by
  simp only [List.foldl_cons] at h
  rcases X9 acc j es _ h with h | ⟨e',h1,h2⟩
  ·by_cases c:Region.binds .any e=true
   ·rw [Ae c] at h
    simp only [Nat.testBit_or,Bool.or_eq_true,Nat.testBit_two_pow,decide_eq_true_eq] at h
    rcases h with (h | h) | h
    ·exact .inl h
    ·exact .inr ⟨e,List.mem_cons_self .., c,.inl h⟩
    ·exact .inr ⟨e,List.mem_cons_self .., c,.inr h⟩
   ·rw [Af c] at h;exact .inl h
  ·exact .inr ⟨e',List.mem_cons_of_mem _ h1,h2⟩
theorem Tq (acc acc':List Nat):∀ (es:List Edge) (m:Nat),(∀ e∈es,Region.binds .any e=true→acc.getD e.on 0=acc'.getD e.on 0) →
  es.foldl (fun m e=>if Region.binds .any e then m ||| 2 ^ e.on ||| acc.getD e.on 0 else m) m=es.foldl (fun m e=>if Region.binds .any e then m ||| 2 ^ e.on ||| acc'.getD e.on 0 else m) m
 | [],_,_=>rfl
 | e::es,m,h=>by
  simp only [List.foldl_cons]
  have:(if Region.binds .any e=true then m ||| 2 ^ e.on ||| acc.getD e.on 0 else m)=if Region.binds .any e=true then m ||| 2 ^ e.on ||| acc'.getD e.on 0 else m:=by
   by_cases c:Region.binds .any e=true
   ·rw [Ae c,Ae c,h e (List.mem_cons_self ..) c]
   ·rw [Af c,Af c]
  rw [this]
  exact Tq acc acc' es _ fun b a=>h b (List.mem_cons_of_mem _ a)
theorem Ri:∀ (os:List Oper) (acc:List Nat) (i:Nat),i<acc.length→(Ir os acc).getD i 0=acc.getD i 0
 | [],_,_,_=>rfl
 | o::os,acc,i,h=>by
  rw [Ir,Ri os _ i (by simp;omega),List.getD_eq_getElem?_getD,List.getElem?_append_left h,List.getD_eq_getElem?_getD]
theorem X2:∀ (os:List Oper) (acc:List Nat) (k:Nat) (o:Oper),os[k]? = some o→(∀ (k:Nat) (o:Oper),os[k]? = some o→∀ e∈o.after,Region.binds .any e=true→e.on<acc.length+k)→(Ir os acc).getD (acc.length+k) 0=U5 (Ir os acc) o
 | [],_,_,_,h,_=>by simp at h
 | o'::os,acc,0,o,h,hb=>by
  simp only [List.getElem?_cons_zero,Option.some.injEq] at h
  subst h
  rw [Ir,Ri os _ _ (by simp)]
  have c:(acc++[U5 acc o']).getD (acc.length+0) 0=U5 acc o':=by simp [List.getD_eq_getElem?_getD]
  rw [c]
  refine Tq _ _ _ _ fun e b a=>?_
  have:=hb 0 o' rfl e (by simpa using b) a
  rw [Ri os _ _ (by simp;omega),List.getD_eq_getElem?_getD,List.getD_eq_getElem?_getD,List.getElem?_append_left (by omega)]
 | o'::os,acc,k+1,o,h,hb=>by
  rw [Ir]
  have:=X2 os (acc++[U5 acc o']) k o (by simpa using h) (fun k o h e b a=>by
   have:=hb (k+1) o (by simpa using h) e b a
   simp;omega)
  rw [List.length_append,List.length_singleton,Nat.add_assoc,Nat.add_comm 1 k] at this
  exact this
def QA (ef:List Nat) (ms:List Nat) (i j:Nat):Bool :=
 if ef.contains i then ef.contains j||PD ms i j else if ef.contains j then PD ms j i else decide (j<i)&&PD ms i j
def SQ (ef:List Nat) (ms:List Nat) (i j:Nat):Bool :=
 if ef.contains i then ef.contains j||PD ms i j else ef.contains j&&PD ms j i
def TM (l:List Oper) (ef:List Nat):Bool:=(ef.all fun i=>decide (i<l.length)) &&
 (List.range l.length).all fun i=>match l[i]? with
  | some o=>(o.after.toList.all fun e => !Region.binds .any e||decide (e.on<i))&&(List.range l.length).all fun j=>match l[j]? with
   | some p=>match p.dst with
    | some s=>(decide (i=j)||o.dst != some s||SQ ef (Ir l []) i j)&&(!(R2 l o).contains s||QA ef (Ir l []) i j)
    | none=>true
   | none=>true
  | none=>true
theorem FM {l:List Oper} {ef:List Nat} (hB:TM l ef=true) {i:Nat} {o:Oper} (ho:l[i]? = some o) :
  (∀ e∈o.after,Region.binds .any e=true→e.on<i)∧∀ j p s,l[j]? = some p→p.dst=some s→(o.dst=some s→i=j∨SQ ef (Ir l []) i j=true)∧(s∈R2 l o→QA ef (Ir l []) i j=true):=by
 have b:=List.all_eq_true.1 (Bool.and_eq_true_iff.1 hB).2 i (List.mem_range.2 (Ag.1 ho).1)
 simp only [ho,Bool.and_eq_true] at b
 refine ⟨fun e d g=>?_,fun j p s c hs=>?_⟩
 ·have:=List.all_eq_true.1 b.1 e (by simpa using d)
  simpa [g] using this
 ·have a:=List.all_eq_true.1 b.2 j (List.mem_range.2 (Ag.1 c).1)
  simp only [c,hs,Bool.and_eq_true,Bool.or_eq_true,decide_eq_true_eq,bne_iff_ne,Bool.not_eq_true'] at a
  refine ⟨fun hd=>?_,fun f=>?_⟩
  ·rcases a.1 with (h | h) | h
   ·exact .inl h
   ·exact absurd hd h
   ·exact .inr h
  ·rcases a.2 with h3 | h3
   ·have:(R2 l o).contains s=true:=by simpa using f
    rw [h3] at this;cases this
   ·exact h3
theorem Uu {l:List Oper} {ef:List Nat} (hB:TM l ef=true) {listed:Array Bool} (closed:∀ (j:Nat) (oj:Oper),l[j]? = some oj→listed.getD j false=true→∀ e∈oj.after,Region.binds .any e=true→listed.getD e.on false=true) (j:Nat) :
  ∀ (i:Nat) (o:Oper),l[i]? = some o→(∀ e∈o.after,Region.binds .any e=true→listed.getD e.on false=true)→PD (Ir l []) i j=true→listed.getD j false=true:=by
 intro i
 induction i using Nat.strongRecOn with
 | _ i ih =>
  intro o ho g a
  have f:=X2 l [] i o ho (fun k o h e c m=>by have:=(FM hB h).1 e c m;simpa using this)
  simp only [List.length_nil,Nat.zero_add] at f
  unfold PD at a
  rw [f] at a
  rcases X9 _ _ _ _ a with h | ⟨e,h1,h2,h3⟩
  ·simp at h
  ·have c:e∈o.after:=by simpa using h1
   have b:=g e c h2
   have d:=(FM hB ho).1 e c h2
   rcases h3 with rfl | h3
   ·exact b
   ·have n:=(Ag.1 ho).1
    exact ih e.on d _ (List.getElem?_eq_getElem (by omega)) (closed e.on _ (List.getElem?_eq_getElem (by omega)) b) h3
def EO (ef:List Nat):Nat→List Oper→List Oper
 | _,[]=>[]
 | i,o::os=>(if ef.contains i then { o with dst:=none,op := .move (.const (.bool true)),guard:=none } else o)::EO ef (i+1) os
theorem RA (ef:List Nat):∀ (l:List Oper) (k i:Nat),(EO ef k l)[i]? = (l[i]?).map fun o=>if ef.contains (k+i) then { o with dst:=none,op := .move (.const (.bool true)),guard:=none } else o
 | [],_,_=>by simp [EO]
 | o::os,k,0=>by simp [EO]
 | o::os,k,i+1=>by simp only [EO,List.getElem?_cons_succ];rw [RA ef os (k+1) i,Nat.add_assoc,Nat.add_comm 1 i]
theorem JJ (ef:List Nat):∀ (l:List Oper) (k:Nat),(EO ef k l).length=l.length
 | [],_=>rfl
 | o::os,k=>by simp [EO,JJ ef os]
section
variable {P:Program} {w0:World} {n:Nat}
def Gt (P:Program) (w0:World) (ev:Env) (s:St) (o:Oper) (v:AV) (s':St):Prop :=
 match o.op with
 | .call ⟨.value f,args,_⟩=>AM ev true f∧(∀ x∈args.toList,AM ev true x)∧Oy P w0 (Ar ev f) (args.toList.map fun x=>argP ev (Ar ev x)) s fun r t=>r=v∧t=s'
 | op=>(Ba P ev true s op).1∧(Ba P ev true s op).2.1=v∧(Ba P ev true s op).2.2=s'
theorem WM {ev:Env} {s s':St} {o:Oper} {v:AV} (hc:¬ KX o.op=true):Gt P w0 ev s o v s'=((Ba P ev true s o.op).1∧(Ba P ev true s o.op).2.1=v∧(Ba P ev true s o.op).2.2=s'):=by
 obtain ⟨e,op,c,g,b,a⟩:=o
 cases op with
 | call cc =>
  obtain ⟨callee,d,h⟩:=cc
  cases callee with
  | value f=>exact absurd rfl hc
  | _=>rfl
 | _=>rfl
def Yo (P:Program) (w0:World) (ev:Env) (s:St) (o:Oper) (Post:AV→St→Prop):Prop :=
 (KX o.op=true∧match o.op with
  | .call ⟨.value f,args,_⟩=>AM ev true f∧(∀ x∈args.toList,AM ev true x)∧Oy P w0 (Ar ev f) (args.toList.map fun x=>argP ev (Ar ev x)) s Post
  | _=>False)∨∃ v s',Gt P w0 ev s o v s'∧∀ r t,r=v∧t=s'→Post r t
theorem XA {M:Mem} {ev:Env} {s s':St} {a:Act} {w:World} (h:Rel w0 n M ev s a w) (ro:Option Nat) (m:Nat) {o:Oper} {v:AV} (hv:Gt P w0 ev s o v s')
  (Q:Exit→Act→World→Prop) (K:Act→World→Prop) (hK:∀ u w' M',Ext w0 M w M' w'→RelSt w0 M' s' w'→R w0 M' w' u v→K (a.put o.dst u) w'):o.wpIn (FW ro) m P a w K Q:=by
 by_cases hc:KX o.op=true
 ·obtain ⟨dst,op,l,x,d,i⟩:=o
  cases op<;>try cases hc
  rename_i cc
  obtain ⟨callee,p,y⟩:=cc
  cases callee<;>try cases hc
  rename_i f
  obtain ⟨g,j,e⟩:=hv
  refine KG h ro m g j e Q _ (fun r t q u w' M' k b c=>?_)
  obtain ⟨rfl,rfl⟩:=q
  exact hK u w' M' k b c
 ·rw [WM hc] at hv
  obtain ⟨g,j,e⟩:=hv
  refine RB h ro m o g Q _ (fun u w' M' k b c=>?_)
  rw [e] at b
  rw [j] at c
  exact hK u w' M' k b c
theorem XZ {M:Mem} {ev:Env} {s:St} {a:Act} {w:World} (h:Rel w0 n M ev s a w) (ro:Option Nat) (m:Nat) {o:Oper} {Post:AV→St→Prop} (hv:Yo P w0 ev s o Post)
  (Q:Exit→Act→World→Prop) (K:Act→World→Prop) (hK:∀ v s' u w' M',Post v s'→Ext w0 M w M' w'→RelSt w0 M' s' w'→R w0 M' w' u v→K (a.put o.dst u) w'):o.wpIn (FW ro) m P a w K Q:=by
 rcases hv with ⟨hc,hv⟩ | ⟨v,s',hv,c⟩
 ·obtain ⟨dst,op,j,l,d,g⟩:=o
  cases op<;>try cases hc
  rename_i cc
  obtain ⟨callee,k,y⟩:=cc
  cases callee<;>try cases hc
  rename_i f
  obtain ⟨q,x,p⟩:=hv
  exact KG h ro m q x p Q _ (fun r t c u w' M' i b e=>hK r t u w' M' c i b e)
 ·exact XA h ro m hv Q K fun u w' M' i b e=>hK v s' u w' M' (c _ _ ⟨rfl,rfl⟩) i b e
def Good (P:Program) (w0:World) (n:Nat) (l:List Oper) (ef:List Nat) (F:St→Prop) (T:Env→St→Prop):Nat→List Nat→Env→St→Prop
 | 0,_,_,_=>False
 | k+1,dn,ev,s=>F s∧((ef.all fun i=>dn.contains i)=true→T ev s)∧∀ i∈ef,dn.contains i=false→(ef.all fun j => !PD (Ir l []) i j||dn.contains j)=true →
   ∃ o,l[i]? = some o∧o.guard=none∧KP n o.dst∧∃ Post:AV→St→Prop,Yo P w0 (Dy true l o ev) s o Post∧∀ v s',Post v s'→Good P w0 n l ef F T k (i::dn) (KN ev o.dst true v) s'
structure AInv (w0:World) (n:Nat) (l:List Oper) (ef:List Nat) (e e1:Env) (M1:Mem) (w1:World) (ds:List Deferred) (dn:List Nat) (ev:Env) (s:St) (listed:Array Bool) (a:Act) (w:World) (M:Mem):Prop where
 size:listed.size=l.length
 closed:∀ (j:Nat) (oj:Oper),l[j]? = some oj→listed.getD j false=true→∀ e∈oj.after,Region.binds .any e=true→listed.getD e.on false=true
 eff:∀ i∈ef,(listed.getD i false=true↔i∈dn)
 sub:∀ i∈dn,i∈ef
 rel:RelSt w0 M s w
 tmps:a.tmps.size=n
 defers:a.defers=ds
 ext:Ext w0 M1 w1 M w
 evn:∀ t,(∀ j∈dn,∀ o,l[j]? = some o→o.dst≠some t)→DG ev t=DG e1 t
 done:∀ t x,(∃ j∈dn,∃ o,l[j]? = some o∧o.dst=some t)→DG ev t=some x→entryOk w0 M w (a.tmps.getD t undef) x
 new:∀ t x,(∀ j∈dn,∀ o,l[j]? = some o→o.dst≠some t)→(∃ i o,i ∉ ef∧l[i]? = some o∧o.dst=some t∧listed.getD i false=true)→DG e1 t=some x→entryOk w0 M w (a.tmps.getD t undef) x
 old:∀ t x,(∀ i o,l[i]? = some o→o.dst=some t→listed.getD i false=false)→DG e t=some x→entryOk w0 M w (a.tmps.getD t undef) x
theorem Wg {l:List Oper} {ef:List Nat} {e e1:Env} {F:St→Prop} {T:Env→St→Prop} {M1:Mem} {w1:World} {ds:List Deferred} {ro:Option Nat} {m:Nat} {Q:Exit→Act→World→Prop} (hB:TM l ef=true)
  (hF:∀ s,F s→∃ c,XT P w0 n true l (fun e' s'=>e'=e1∧s'=s) c (EO ef 0 l) e s)
  (hT:∀ ev s M a w,T ev s→Rel w0 n M ev s a w→Ext w0 M1 w1 M w→a.defers=ds→Q .normal a w) :
  ∀ fuel listed a w M k dn ev s,fuel=listed.toList.count false→Good P w0 n l ef F T k dn ev s→AInv w0 n l ef e e1 M1 w1 ds dn ev s listed a w M→wpAnyIn (FW ro) m P .any l.toArray Q fuel listed a w:=by
 -- what the z of the operations apart from the effects tells
 have z:∀ s,F s→∃ E C V,Trail P w0 n l (EO ef 0 l) e s E C V∧E l.length=e1:=by
  intro s hs
  obtain ⟨c,hc⟩:=hF s hs
  obtain ⟨E,C,V,h1,h2,_⟩:=TI c _ _ hc
  rw [JJ] at h2
  exact ⟨E,C,V,h1,h2⟩
 have ah:∀ {i:Nat} {o:Oper},i ∉ ef→l[i]? = some o→(EO ef 0 l)[i]? = some o:=by
  intro i o hi ho
  rw [RA,ho]
  simp [hi]
 have G:∀ {i:Nat} {o:Oper} {t:Nat},(EO ef 0 l)[i]? = some o→o.dst=some t→i ∉ ef∧l[i]? = some o:=by
  intro i o t hi hd
  rw [RA] at hi
  cases hl:l[i]? with
  | none=>simp [hl] at hi
  | some p =>
   rw [hl] at hi
   simp only [Option.map_some,Nat.zero_add,Option.some.injEq] at hi
   by_cases c:i∈ef
   ·simp [c] at hi
    subst hi
    cases hd
   ·simp [c] at hi
    subst hi
    exact ⟨c,rfl⟩
 have ae:∀ (i j:Nat) (o p:Oper) (t:Nat),(EO ef 0 l)[i]? = some o→(EO ef 0 l)[j]? = some p→o.dst=some t→p.dst=some t→i=j:=by
  intro i j o p t hi hj h1 h2
  obtain ⟨a1,a2⟩:=G hi h1
  obtain ⟨b1,b2⟩:=G hj h2
  rcases ((FM hB a2).2 j p t b2 h2).1 h1 with h | h
  ·exact h
  ·simp [SQ,a1,b1] at h
 have Z:∀ s,F s→∀ t,(∀ i o,i ∉ ef→l[i]? = some o→o.dst≠some t)→DG e1 t=DG e t:=by
  intro s hs t ht
  obtain ⟨E,C,V,T',H⟩:=z s hs
  have:=(MJ T' ae t l.length (by rw [JJ];exact Nat.le_refl _)).1 fun i o _ hi hd=>by
   obtain ⟨a1,a2⟩:=G hi hd
   exact ht i o a1 a2 hd
  rw [H] at this
  exact this
 intro fuel
 induction fuel with
 | zero =>
  intro listed a w M k dn ev s hf hg inv
  have q:∀ j,j<l.length→listed.getD j false=true:=by
   intro j hj
   cases hq:listed.getD j false with
   | true=>rfl
   | false =>
    exfalso
    have aq:j<listed.size:=by rw [inv.size];omega
    have:false∈listed.toList:=by
     have e1:listed[j]=false:=by simpa [aq] using hq
     rw [←e1];simp
    have:=List.count_pos_iff.2 this
    omega
  cases k with
  | zero=>exact hg.elim
  | succ k =>
  obtain ⟨g1,g2,_⟩:=hg
  have a5:(ef.all fun i=>dn.contains i)=true:=by
   refine List.all_eq_true.2 fun i hi=>?_
   have c:i<l.length:=by simpa using List.all_eq_true.1 (Bool.and_eq_true_iff.1 hB).1 i hi
   simpa using (inv.eff i hi).1 (q i c)
  refine ⟨?_,hT ev s M a w (g2 a5) ⟨inv.rel,inv.tmps,fun t x g=>?_⟩ inv.ext inv.defers⟩
  ·refine List.eq_nil_iff_forall_not_mem.2 fun i hi=>?_
   obtain ⟨Y,o,ho,_⟩:=mem_ready.1 hi
   have ho':l[i]? = some o:=by simpa using ho
   have:=q i (Ag.1 ho').1
   obtain ⟨q1,q2⟩:=Zx Y
   obtain ⟨q3,q4⟩:=ZaP this
   rw [q2] at q4;cases q4
  ·by_cases A:∃ j∈dn,∃ o,l[j]? = some o∧o.dst=some t
   ·exact inv.done t x A g
   ·have N:∀ j∈dn,∀ o,l[j]? = some o→o.dst≠some t:=fun j hj o ho hd=>A ⟨j,hj,o,ho,hd⟩
    rw [inv.evn t N] at g
    by_cases Bf:∃ i o,i ∉ ef∧l[i]? = some o∧o.dst=some t
    ·obtain ⟨i,o,b1,b2,b3⟩:=Bf
     exact inv.new t x N ⟨i,o,b1,b2,b3,q i (Ag.1 b2).1⟩ g
    ·rw [Z s g1 t fun i o b1 b2 b3=>Bf ⟨i,o,b1,b2,b3⟩] at g
     refine inv.old t x (fun i o ho hd=>?_) g
     by_cases c:i∈ef
     ·exact absurd hd (N i ((inv.eff i c).1 (q i (Ag.1 ho).1)) o ho)
     ·exact absurd ⟨i,o,c,ho,hd⟩ Bf
 | succ fuel ih =>
  intro listed a w M k dn ev s hf hg inv
  cases k with
  | zero=>exact hg.elim
  | succ k =>
  obtain ⟨g1,g2,g3⟩:=hg
  have af:∃ j,j<l.length∧listed.getD j false=false∧∀ i,i<j→listed.getD i false=true:=by
   refine RQ fun q=>?_
   have:0<listed.toList.count false:=by omega
   have hm:=List.count_pos_iff.1 this
   obtain ⟨i,hi,H⟩:=List.mem_iff_getElem.1 hm
   have b:i<listed.size:=by simpa using hi
   have:=q i (by rw [←inv.size];exact b)
   simp only [Array.getD_eq_getD_getElem?,Array.getElem?_eq_getElem b,Option.getD_some] at this
   rw [Array.getElem_toList] at H
   rw [H] at this;cases this
  obtain ⟨k0,ar,az,ax⟩:=af
  have a3:k0<listed.size:=by rw [inv.size];omega
  have ay:l[k0]? = some l[k0]:=List.getElem?_eq_getElem ar
  have U:k0∈Region.ready .any l.toArray listed :=
   mem_ready.2 ⟨by simpa [a3] using az,l[k0],by simp,fun ed H hb=>ax _ ((FM hB ay).1 ed H hb)⟩
  refine ⟨fun h0=>absurd U (by rw [h0];simp),fun i hi=>?_⟩
  obtain ⟨Y,o,ho,ab⟩:=mem_ready.1 hi
  have ho':l[i]? = some o:=by simpa using ho
  have ag:i<l.length:=(Ag.1 ho').1
  have b:i<listed.size:=by rw [inv.size];omega
  have aa:listed.getD i false=false:=by simpa [b] using Y
  have K:∀ j,PD (Ir l []) i j=true→listed.getD j false=true:=fun j hj=>Uu hB inv.closed j i o ho' ab hj
  have ad:fuel=(listed.setIfInBounds i true).toList.count false:=by
   have ap:listed[i]=false:=by simpa [b] using Y
   have a6:0<listed.toList.count false:=List.count_pos_iff.2 (by rw [←ap];simp)
   rw [Array.toList_setIfInBounds,List.count_set (by simpa using b)]
   simp only [Array.getElem_toList,ap]
   rw [Ae (show (false == false)=true from rfl),Af (show ¬ (true == false)=true by decide)]
   omega
  have y:∀ (j:Nat) (oj:Oper),l[j]? = some oj→(listed.setIfInBounds i true).getD j false=true→∀ ed∈oj.after,Region.binds .any ed=true→(listed.setIfInBounds i true).getD ed.on false=true:=by
   intro j oj hj hl ed H hb
   rw [EV b] at hl ⊢
   split
   ·rfl
   ·by_cases c:i=j
    ·subst c
     rw [ho'] at hj;cases hj
     exact ab ed H hb
    ·rw [Af c] at hl
     exact inv.closed j oj hj hl ed H hb
  unfold wpOpIn
  simp only [ho]
  by_cases hie:i∈ef
  ·-- an effect
   have aw:dn.contains i=false:=by
    cases hq:dn.contains i with
    | false=>rfl
    | true=>have:=(inv.eff i hie).2 (by simpa using hq);rw [aa] at this;cases this
   obtain ⟨o2,q1,q2,q3,Post,q4,au⟩:=g3 i hie aw (by
    refine List.all_eq_true.2 fun j hj=>?_
    cases hq:PD (Ir l []) i j with
    | false=>rfl
    | true=>simpa using (inv.eff j hj).1 (K j hq))
   rw [ho'] at q1;cases q1
   have J:Rel w0 n M (Dy true l o ev) s a w:=by
    refine ⟨inv.rel,inv.tmps,fun t x hs=>?_⟩
    simp only [Dy,if_true] at hs
    have hm:=L2 _ _ _ _ hs
    have g:=IL _ _ _ _ hs
    by_cases A:∃ j∈dn,∃ o,l[j]? = some o∧o.dst=some t
    ·exact inv.done t x A g
    ·have N:∀ j∈dn,∀ o,l[j]? = some o→o.dst≠some t:=fun j hj o ho hd=>A ⟨j,hj,o,ho,hd⟩
     rw [inv.evn t N] at g
     by_cases Bf:∃ i o,i ∉ ef∧l[i]? = some o∧o.dst=some t
     ·obtain ⟨j,p,b1,b2,b3⟩:=Bf
      have hl:=((FM hB ho').2 j p t b2 b3).2 hm
      have:PD (Ir l []) i j=true:=by simpa [QA,hie,b1] using hl
      exact inv.new t x N ⟨j,p,b1,b2,b3,K j this⟩ g
     ·rw [Z s g1 t fun i o b1 b2 b3=>Bf ⟨i,o,b1,b2,b3⟩] at g
      refine inv.old t x (fun j p hp hd=>?_) g
      by_cases c:j∈ef
      ·cases hq:listed.getD j false with
       | false=>rfl
       | true=>exact absurd hd (N j ((inv.eff j c).1 hq) p hp)
      ·exact absurd ⟨j,p,c,hp,hd⟩ Bf
   have hw:Region.wanted o (yielded l.toArray a.tmps)=true:=by simp [Region.wanted,q2]
   rw [hw,Ae rfl]
   refine XZ J ro m q4 Q _ fun v s' u w' M' aj g ak hu=>?_
   have q5:=au v s' aj
   have keep:∀ t x,o.dst≠some t→entryOk w0 M w (a.tmps.getD t undef) x→entryOk w0 M' w' ((a.put o.dst u).tmps.getD t undef) x:=by
    intro t x f h1
    rw [Ko a o.dst u t (by rw [inv.tmps];exact q3),Af f]
    exact h1.mono g
   refine ih _ _ _ M' k (i::dn) _ s' ad q5 ⟨by simp [inv.size],y,fun j hj=>?_,fun j hj=>?_,ak,by rw [Ql];exact inv.tmps,by rw [KF];exact inv.defers,inv.ext.trans g,fun t ht=>?_,fun t x O hx'=>?_,fun t x O hN hx'=>?_,fun t x hO hx'=>?_⟩
   ·rw [EV b]
    by_cases c:i=j
    ·subst c;simp
    ·rw [Af c,inv.eff j hj];simp [Ne.symm c]
   ·rcases List.mem_cons.1 hj with rfl | hj
    ·exact hie
    ·exact inv.sub j hj
   ·have f:=ht i (List.mem_cons_self ..) o ho'
    have:DG (KN ev o.dst true v) t=DG ev t:=by
     cases hd:o.dst with
     | none=>rfl
     | some d=>rw [hd] at f;simp only [KN,DG];rw [Af (fun h=>f (by rw [h]))]
    rw [this]
    exact inv.evn t fun j hj=>ht j (List.mem_cons_of_mem _ hj)
   ·by_cases c:o.dst=some t
    ·rw [c] at hx'
     simp only [KN,DG,if_true,Option.some.injEq] at hx'
     subst hx'
     rw [Ko a o.dst u t (by rw [inv.tmps];exact q3),Ae c]
     simpa only [entryOk,if_true] using hu
    ·have:DG (KN ev o.dst true v) t=DG ev t:=by
      cases hd:o.dst with
      | none=>rfl
      | some d=>rw [hd] at c;simp only [KN,DG];rw [Af (fun h=>c (by rw [h]))]
     rw [this] at hx'
     refine keep t x c (inv.done t x ?_ hx')
     obtain ⟨j,hj,p,hp,hd⟩:=O
     rcases List.mem_cons.1 hj with rfl | hj
     ·rw [ho'] at hp;cases hp;exact absurd hd c
     ·exact ⟨j,hj,p,hp,hd⟩
   ·have f:=O i (List.mem_cons_self ..) o ho'
    refine keep t x f (inv.new t x (fun j hj=>O j (List.mem_cons_of_mem _ hj)) ?_ hx')
    obtain ⟨j,p,b1,b2,b3,b4⟩:=hN
    rw [EV b] at b4
    by_cases c:i=j
    ·subst c;exact absurd hie b1
    ·rw [Af c] at b4;exact ⟨j,p,b1,b2,b3,b4⟩
   ·have f:o.dst≠some t:=fun hd=>by
     have:=hO i o ho' hd
     rw [EV b,Ae rfl] at this;cases this
    refine keep t x f (inv.old t x (fun j p hp hd=>?_) hx')
    have:=hO j p hp hd
    rw [EV b] at this
    by_cases c:i=j
    ·rw [Ae c] at this;cases this
    ·rwa [Af c] at this
  ·-- one of the others
   obtain ⟨E,C,V,T',H⟩:=z s g1
   have ao:=ah hie ho'
   obtain ⟨t1,t2,t3,t4,t5⟩:=T'.step i o ao
   have r:∀ t j,j≤l.length→_:=fun t j hj=>MJ T' ae t j (by rw [JJ];exact hj)
   have D:∀ j∈dn,∀ p,l[j]? = some p→PD (Ir l []) j i=true→False:=by
    intro j hj p hp a0
    have a4:=(inv.eff j (inv.sub j hj)).2 hj
    have:=Uu hB inv.closed i j p hp (inv.closed j p hp a4) a0
    rw [aa] at this;cases this
   have J:Rel w0 n M (Dy true l o (E i)) s a w:=by
    refine ⟨inv.rel,inv.tmps,fun t x hs=>?_⟩
    simp only [Dy,if_true] at hs
    have hm:=L2 _ _ _ _ hs
    have g:=IL _ _ _ _ hs
    have N:∀ j∈dn,∀ p,l[j]? = some p→p.dst≠some t:=by
     intro j hj p hp hd
     have hl:=((FM hB ho').2 j p t hp hd).2 hm
     have hje:=inv.sub j hj
     exact D j hj p hp (by simpa [QA,hie,hje] using hl)
    by_cases Bf:∃ i o,i ∉ ef∧l[i]? = some o∧o.dst=some t
    ·obtain ⟨j,p,b1,b2,b3⟩:=Bf
     have hl:=((FM hB ho').2 j p t b2 b3).2 hm
     have am:j<i∧PD (Ir l []) i j=true:=by simpa [QA,hie,b1] using hl
     have e2:=(r t i (Nat.le_of_lt ag)).2 j p am.1 (ah b1 b2) b3
     have e3:=(r t l.length (Nat.le_refl _)).2 j p (by omega) (ah b1 b2) b3
     rw [e2] at g
     rw [H] at e3
     exact inv.new t x N ⟨j,p,b1,b2,b3,K j am.2⟩ (e3.trans g)
    ·have:=(r t i (Nat.le_of_lt ag)).1 fun j p _ hj hd=>by
      obtain ⟨a1,a2⟩:=G hj hd
      exact Bf ⟨j,p,a1,a2,hd⟩
     rw [this] at g
     refine inv.old t x (fun j p hp hd=>?_) g
     by_cases c:j∈ef
     ·cases hq:listed.getD j false with
      | false=>rfl
      | true=>exact absurd hd (N j ((inv.eff j c).1 hq) p hp)
     ·exact absurd ⟨j,p,c,hp,hd⟩ Bf
   refine RV J ro m t2 (by rw [t4];exact t5) Q _ fun u w' M' g ak hu=>?_
   rw [t4] at hu
   have keep:∀ t x,o.dst≠some t→entryOk w0 M w (a.tmps.getD t undef) x→entryOk w0 M' w' ((a.put o.dst u).tmps.getD t undef) x:=by
    intro t x f h1
    rw [Ko a o.dst u t (by rw [inv.tmps];exact t3),Af f]
    exact h1.mono g
   have av:∀ t,o.dst=some t→∀ j∈dn,∀ p,l[j]? = some p→p.dst≠some t:=by
    intro t hd j hj p hp ai
    have hje:=inv.sub j hj
    rcases ((FM hB ho').2 j p t hp ai).1 hd with h | h
    ·subst h;exact hie hje
    ·exact D j hj p hp (by simpa [SQ,hie,hje] using h)
   refine ih _ _ _ M' (k+1) dn ev s ad ⟨g1,g2,g3⟩ ⟨by simp [inv.size],y,fun j hj=>?_,inv.sub,ak,by rw [Ql];exact inv.tmps,by rw [KF];exact inv.defers,inv.ext.trans g,inv.evn,fun t x O hx'=>?_,fun t x O hN hx'=>?_,fun t x hO hx'=>?_⟩
   ·rw [EV b,Af (fun (h:i=j)=>hie (h▸hj))]
    exact inv.eff j hj
   ·refine keep t x (fun hd=>?_) (inv.done t x O hx')
    obtain ⟨j,hj,p,hp,ai⟩:=O
    exact av t hd j hj p hp ai
   ·by_cases c:o.dst=some t
    ·rw [Ko a o.dst u t (by rw [inv.tmps];exact t3),Ae c]
     have e3:=(r t l.length (Nat.le_refl _)).2 i o ag ao c
     rw [H,hx'] at e3
     cases e3
     exact hu
    ·refine keep t x c (inv.new t x O ?_ hx')
     obtain ⟨j,p,b1,b2,b3,b4⟩:=hN
     rw [EV b] at b4
     by_cases c':i=j
     ·subst c';rw [ho'] at b2;cases b2;exact absurd b3 c
     ·rw [Af c'] at b4;exact ⟨j,p,b1,b2,b3,b4⟩
   ·have f:o.dst≠some t:=fun hd=>by
     have:=hO i o ho' hd
     rw [EV b,Ae rfl] at this;cases this
    refine keep t x f (inv.old t x (fun j p hp hd=>?_) hx')
    have:=hO j p hp hd
    rw [EV b] at this
    by_cases c:i=j
    ·rw [Ae c] at this;cases this
    ·rwa [Af c] at this
def Conv (w0:World) (n nb:Nat) (e:Env) (s:St) (e':Env) (s':St):Prop:=∀ M a w,Rel w0 n M e s a w→∃ M',(∀ Ms ws,Ms.N=nb→Ext w0 Ms ws M w→Ext w0 Ms ws M' w)∧Rel w0 n M' e' s' a w
theorem JP {M0:Mem} {W0:World} {ro:Option Nat} {Q:AQ} {e:Env} {st:St} (hm:P.follows .mixedOrders=true) (ef:List Nat) (L:List Nat) {id:Nat} {l:List Oper} (hB:TM l ef=true) (F:St→Prop) (k nb:Nat) {e1 e2:Env} {s2:St} (hnb:st.boxes.length=nb)
  (hF:∀ s,F s→∃ c,XT P w0 n true l (fun e' s'=>e'=e1∧s'=s) c (EO ef 0 l) e s) (hG:Good P w0 n l ef F (fun ev s=>Conv w0 n nb ev s e2 s2) k [] e1 st) (hQ:Q .normal (Do L e2) s2):GE P w0 n M0 W0 ro (.region id l.toArray true) Q e st:=by
 intro m M a w hr
 obtain ⟨d1,d2⟩:=hr.rel.st.drew
 refine wpIn_region_any hm (Wg (e:=e) (e1:=e1) (M1:=M) (w1:=w) (ds:=a.defers) hB hF (fun ev s g p q o b u hd=>?_) _ _ a _ M k [] e1 st ?_ hG ?_)
 ·obtain ⟨M2,r,f⟩:=o g p q b
  have d:=r M w (hr.rel.st.N.trans hnb) u
  refine ⟨M2,_,_,⟨f.sub (Bg L _),hr.ext.trans d,?_⟩,hQ⟩
  rw [hd]
  exact hr.marks.later d hr.rel.st
 ·simp
 ·have hnl:∀ j,(Array.replicate l.toArray.size false).getD j false=false:=fun j=>by
   by_cases c:j<l.length
   ·simp [Array.getD_eq_getD_getElem?,c]
   ·simp [Array.getD_eq_getD_getElem?,c]
  exact ⟨by simp,fun j _ _ hl=>(by rw [hnl] at hl;cases hl),fun i _=>(by rw [hnl];simp),fun _ h=>(nomatch h),d1,hr.rel.size,rfl,d2,fun _ _=>rfl,fun _ _ ⟨_,h,_⟩=>(nomatch h),
   fun _ _ _ ⟨i,_,_,_,_,h⟩=>(by rw [hnl] at h;cases h),fun t x _ hs=>(hr.rel.env t x hs).mono d2⟩
theorem DJ (L:List Nat) {nb:Nat} {e e':Env} {s:St} (h:Do L e=e'):Conv w0 n nb e s e' s:=fun M _ w a=>⟨M,fun _ _ _ h=>h,by rw [←h];exact a.sub (Bg L e)⟩
def ZgS (l:List Oper) (ef dn:List Nat):List Nat:=ef.filter fun i => !dn.contains i&&ef.all fun j => !PD (Ir l []) i j||dn.contains j
theorem Good.mk {l:List Oper} {ef dn:List Nat} {F:St→Prop} {T:Env→St→Prop} {k:Nat} {ev:Env} {s:St} (rs:List Nat) (hr:ZgS l ef dn=rs) (hF:F s) (hT:(ef.all fun i=>dn.contains i)=true→T ev s)
  (h:∀ i∈rs,∃ o,l[i]? = some o∧o.guard=none∧KP n o.dst∧∃ Post:AV→St→Prop,Yo P w0 (Dy true l o ev) s o Post∧∀ v s',Post v s'→Good P w0 n l ef F T k (i::dn) (KN ev o.dst true v) s'):Good P w0 n l ef F T (k+1) dn ev s :=
 ⟨hF,hT,fun i b hd a=>h i (by rw [←hr];exact List.mem_filter.2 ⟨b,by rw [hd,a];rfl⟩)⟩
theorem D3 {l:List Oper} {ef dn:List Nat} {F:St→Prop} {T:Env→St→Prop} {k i:Nat} {ev:Env} {s:St} {o:Oper} {v:AV} {s':St} (ho:l[i]? = some o) (hg:o.guard=none) (hd:KP n o.dst) (hs:Gt P w0 (Dy true l o ev) s o v s')
  (hk:Good P w0 n l ef F T k (i::dn) (KN ev o.dst true v) s'):∃ o,l[i]? = some o∧o.guard=none∧KP n o.dst∧∃ Post:AV→St→Prop,Yo P w0 (Dy true l o ev) s o Post∧∀ v s',Post v s'→Good P w0 n l ef F T k (i::dn) (KN ev o.dst true v) s' :=
 ⟨o,ho,hg,hd,fun r t=>r=v∧t=s',.inr ⟨v,s',hs,fun _ _ h=>h⟩,by rintro _ _ ⟨rfl,rfl⟩;exact hk⟩
theorem I0 {l:List Oper} {ef dn:List Nat} {F:St→Prop} {T:Env→St→Prop} {k i:Nat} {ev:Env} {s:St} {o:Oper} {f:Operand} {args:Array Operand} {ts:Array TypeId} {Post:AV→St→Prop} (ho:l[i]? = some o) (hg:o.guard=none) (hd:KP n o.dst) (hop:o.op = .call ⟨.value f,args,ts⟩)
  (h1:AM (Dy true l o ev) true f) (h2:∀ x∈args.toList,AM (Dy true l o ev) true x) (h3:Oy P w0 (Ar (Dy true l o ev) f) (args.toList.map fun x=>argP (Dy true l o ev) (Ar (Dy true l o ev) x)) s Post)
  (hk:∀ v s',Post v s'→Good P w0 n l ef F T k (i::dn) (KN ev o.dst true v) s'):∃ o,l[i]? = some o∧o.guard=none∧KP n o.dst∧∃ Post:AV→St→Prop,Yo P w0 (Dy true l o ev) s o Post∧∀ v s',Post v s'→Good P w0 n l ef F T k (i::dn) (KN ev o.dst true v) s' :=
 ⟨o,ho,hg,hd,Post,.inl ⟨by rw [hop];rfl,by rw [hop];exact ⟨h1,h2,h3⟩⟩,hk⟩
end
def Tg {α:Type} (_:α):Prop:=True
theorem tg {α:Type} {a:α}:Tg a:=trivial
theorem cl {p:Prop} (h:p:=by first | (intros;omega) | (intros;simp_all;done) | (intros;simp only [Bool.or_eq_false_iff,Bool.or_eq_true,Bool.and_eq_true,Bool.and_eq_false_iff,decide_eq_true_eq,decide_eq_false_iff_not,bne_iff_ne] at *; omega)):p:=h
theorem ev {p:Prop} (h:p:=by simp +decide only [go_sem,Nat.reduceAdd]):p:=h
theorem ef {p F:Prop} (f:F) (h:F→p:=by intro hs;first | rfl | (simp +decide only [go_sem,Nat.reduceAdd,hs];done)):p:=h f
theorem en {p F:Prop} (f:F) (h:F→p:=by intro hs;first | (simp +decide only [go_sem,Nat.reduceAdd,hs];done) | (simp +decide only [go_sem,Nat.reduceAdd,hs];rfl)):p:=h f
theorem ow {p:Prop} (h:p:=by (simp +decide only [go_sem,Nat.reduceAdd,Lq])<;>(try (repeat' apply Aa))<;>first | omega | assumption):p:=h
theorem Zaz:(0:Nat)=0:=rfl
section
variable {P:Program} {w0:World} {n:Nat} {M0:Mem} {W0:World} {ro:Option Nat} {e:Env} {st:St} {Q:AQ}
theorem KT {c:Nat} {L:List Nat} (tc:Tg c) (tL:Tg L) {id:Nat} {l:List Oper} (h:XT P w0 n false l (fun e' st'=>Q .normal (Do L e') st') c l e st):GE P w0 n M0 W0 ro (.region id l.toArray false) Q e st:=Ao c L h
theorem X1 {L:List Nat} (t:Tg L) {c:Code} (h:GE P w0 n M0 W0 ro c Q (Do L e) st):GE P w0 n M0 W0 ro c Q e st:=DU _ h (Bg _ _)
theorem OU {h c1 c2:Nat} {L:List Nat} (tt:Tg (h,c1,c2,L)) (hm:P.follows .mixedOrders=true) {id:Nat} {l:List Oper} (hB:Yz l h=true)
  (hev:XT P w0 n true l (fun e1 s1=>XT P w0 n false l (fun e2 s2=>Q .normal (Do L e2) s2) c2 (l.drop h) e1 s1) c1 (l.take h) e st):GE P w0 n M0 W0 ro (.region id l.toArray true) Q e st:=Zcc hm h c1 c2 L hB hev
theorem Hv {c d:Bool} {fv:AV} {args:List AV} {k:AV→St→Prop} (h:MF P w0 c d fv args st k):MF P w0 c d fv args st k:=h
theorem AL {β:Type} {F:Prop} {b:Bool} {X Y r:β} (h:(if b=true then X else Y)=r) (f:F) {c:Operand} {x y:Code} (ht:(b=true∧F)→X=r→GE P w0 n M0 W0 ro x Q e st) (hf:(b=false∧F)→Y=r→GE P w0 n M0 W0 ro y Q e st)
  (hc:AM e true c:=by simp +decide only [go_sem,Nat.reduceAdd]) (hb:F→Ar e c = .val (.bool b):=by intro hs;first | (simp +decide only [go_sem,Nat.reduceAdd,hs];done) | (simp +decide only [go_sem,Nat.reduceAdd,hs];rfl)):GE P w0 n M0 W0 ro (.cond c x y) Q e st :=
 A2 b hc (hb f) (fun q=>ht ⟨q,f⟩ (AY h q)) (fun q=>hf ⟨q,f⟩ (AZ h q))
theorem td {B0 B bs X:List (List AV)} {Rw rows:List RowA} {L:List LoopA} {l:List (Nat × Nat × Own)} {c:Code} (hN:M0.N=B0.length) (hNR:M0.NR=Rw.length) (hNL:M0.NL=L.length) (hc:Calm B0.length Rw.length L.length ⟨B,Rw,L⟩) (ho:Owns Rw rows l)
  (h:GE P w0 n M0 W0 ro c Q e ⟨B++bs,rows,L⟩) (hB:B.length=B0.length:=by first | rfl | simp only [List.length_set])
  (hbs:∀ cs∈bs,∀ x∈cs,Under (B0.length+bs.length) rows.length L.length x:=by (simp +decide only [go_sem,Nat.reduceAdd])<;>(try (repeat' apply Aa))<;>first | omega | assumption)
  (he:Lq (B0.length+bs.length) rows.length L.length e:=by (simp +decide only [go_sem,Nat.reduceAdd,Lq])<;>(try (repeat' apply Aa))<;>first | omega | assumption):GE P w0 n M0 W0 ro c Q e ⟨B++(bs++X),rows,L⟩ :=
 AP hN hNR hNL hB hc ho hbs he h
end
section
variable {P:Program} {w0:World} {n:Nat} {M0:Mem} {W0:World} {ro:Option Nat} {e:Env} {st:St} {Q:AQ}
theorem XX (t:TypeId) (hn:n≤1000000) {c:Code} (h:GE P w0 n M0 W0 ro c Q ((1000000+t,false,.junk)::e) st):GE P w0 n M0 W0 ro c Q e st :=
 N9 _ _ (fun M a w b=>⟨M,.refl _ _ _,b.st,b.size,fun s x hs=>by
  simp only [DG] at hs
  by_cases q:1000000+t=s
  ·rw [Ae q] at hs
   cases hs
   have d:1000000≤s:=by rw [←q];exact Nat.le_add_right _ _
   simp only [entryOk,Bool.false_eq_true,if_false]
   rw [Array.getD_eq_getD_getElem?,Array.getElem?_eq_none (by rw [b.size];omega)]
   rfl
  ·rw [Af q] at hs
   exact b.env s x hs⟩) h
end
theorem rg {F p q:Prop} (L:List Nat) (f:F) (k:q) (h:Tg L→F→q→p:=by
  intro tL hs hq
  apply Ah;intro K hK
  refine KT (c:=1) tg tL ?_
  rw [Am];simp +decide only [go_sem,Nat.reduceAdd,hs]
  first | (refine hK _ _ ?_;exact hq) | ((repeat' apply Aa)<;>first | (refine hK _ _ ?_;exact hq) | (clear hq;exact cl))):p:=h tg f k
theorem rc {F p q:Prop} (c:Nat) (L:List Nat) (f:F) (k:q) (h:Tg c→Tg L→F→q→p:=by
  intro tc tL hs hq
  apply Ah;intro K hK
  refine KT tc tL ?_
  rw [Am];simp +decide only [go_sem,Nat.reduceAdd,hs]
  first | (refine Hv ?_;revert K;exact hq) | ((repeat' apply Aa)<;>first | (refine Hv ?_;revert K;exact hq) | (clear hq;exact cl))):p:=h tg tg f k
theorem nc {F p q:Prop} (f:F) (k:q) (h:F→q→p:=by
  intro hs hq
  rw [Am];simp +decide only [go_sem,Nat.reduceAdd,hs]
  first | (refine Hv ?_;exact hq) | ((repeat' apply Aa)<;>first | (refine Hv ?_;exact hq) | (clear hq;exact cl))):p:=h f k
theorem ne {F p q:Prop} (f:F) {K:Env→St→Prop} {A:Env→St→Prop} (hK:∀ e s,A e s→K e s) (k:q) (h:F→(∀ e s,A e s→K e s)→q→p:=by
  intro hs hK hq
  rw [Am];simp +decide only [go_sem,Nat.reduceAdd,hs]
  first | (refine hK _ _ ?_;exact hq) | ((repeat' apply Aa)<;>first | (refine hK _ _ ?_;exact hq) | (clear hq;exact cl))):p:=h f hK k
theorem dg {F p q:Prop} (m c1 c2:Nat) (L:List Nat) (f:F) {P:Program} (hm:P.follows .mixedOrders=true) (k:q) (h:Tg (m,c1,c2,L)→F→P.follows .mixedOrders=true→q→p:=by
  intro tt hs hm hq
  apply Ah;intro K hK
  refine OU tt hm (by kernel_rfl) ?_
  rw [Am];simp +decide only [go_sem,Nat.reduceAdd,hs]
  (repeat' with_reducible apply Aa)<;>first | (rw [Am];simp +decide only [go_sem,Nat.reduceAdd,hs]) | (clear hq;exact cl)
  first | (refine hK _ _ ?_;exact hq) | ((repeat' apply Aa)<;>first | (refine hK _ _ ?_;exact hq) | (clear hq;exact cl))):p:=h tg f hm k
theorem sk {F p q:Prop} (L:List Nat) (f:F) {A K:Env→St→Prop} (hK:∀ e s,A e s→K e s) (k:q) (h:Tg L→F→(∀ e s,A e s→K e s)→q→p:=by
  intro tL hs hK hq
  refine X1 tL ?_
  apply Bl;simp +decide only [go_sem,Nat.reduceAdd]
  first | (refine hK _ _ ?_;exact hq) | ((repeat' apply Aa)<;>first | (refine hK _ _ ?_;exact hq) | (clear hq;exact cl))):p:=h tg f hK k
theorem sx {F p q:Prop} (L:List Nat) (f:F) {A K:Env→St→Prop} (hK:∀ e s,A e s→K e s) (k:q) (h:Tg L→F→(∀ e s,A e s→K e s)→q→p:=by
  intro tL hs hK hq
  refine X1 tL ?_
  apply KE;simp +decide only [go_sem,Nat.reduceAdd]
  first | (refine hK _ _ ?_;exact hq) | ((repeat' apply Aa)<;>first | (refine hK _ _ ?_;exact hq) | (clear hq;exact cl))):p:=h tg f hK k
theorem rl {F p q:Prop} (L:List Nat) (f:F) {A K:Env→St→Prop} (hK:∀ e s,A e s→K e s) (k:q) (h:Tg L→F→(∀ e s,A e s→K e s)→q→p:=by
  intro tL hs hK hq
  refine KT (c:=1) tg tL ?_
  rw [Am];simp +decide only [go_sem,Nat.reduceAdd,hs]
  first | (refine hK _ _ ?_;exact hq) | ((repeat' apply Aa)<;>first | (refine hK _ _ ?_;exact hq) | (clear hq;exact cl))):p:=h tg f hK k
theorem rk {F p q:Prop} (c:Nat) (L:List Nat) (f:F) (k:q) (h:Tg c→Tg L→F→q→p:=by
  intro tc tL hs hq
  refine KT tc tL ?_
  rw [Am];simp +decide only [go_sem,Nat.reduceAdd,hs]
  first | (refine Hv ?_;exact hq) | ((repeat' apply Aa)<;>first | (refine Hv ?_;exact hq) | (clear hq;exact cl))):p:=h tg tg f k
theorem hd {P:Program} {w0:World} {f:FuncId} {fn:Func} {c:Code} {n:Nat} {args:List AV} {B:List (List AV)} {Rw:List RowA} {L:List LoopA} {Post:AV→St→Prop} (rs:List ResultVar) (hf:P.funcs[f]? = some fn) (hn:fn.ntmps=n)
  (k:∀ (M0:Mem) (W0:World),M0.N=B.length→M0.NR=Rw.length→M0.NL=L.length→Calm B.length Rw.length L.length ⟨B,Rw,L⟩→(∀ x∈args,Under B.length Rw.length L.length x)→Owns Rw Rw []→(0:Nat)=0 →
   GE P w0 n M0 W0 none c (Zb8 P rs (finP ⟨B,Rw,L⟩ Post)) (Au 0 args) ⟨B,Rw,L⟩)
  (hb:fn.body=some c:=by rfl) (hrs:fn.results=rs.toArray:=by rfl) (hm:fn.name ≠ "runtime.NumGoroutine" := by decide) (ha:args.length≤n:=by exact Nat.le_of_ble_eq_true rfl):ACalls P w0 f args ⟨B,Rw,L⟩ Post :=
 ACalls.finP (Ep (rs:=rs) hf hb hrs hn (A9 hf (by rw [hb];rfl) hm) ha fun M0 W0 e b a g d=>k M0 W0 e b a g d (Owns.none Rw) rfl)
theorem ix {α β:Type} {l:List α} {i:Int} {F:α→Option β} {r:β} (g:α→AV) (h:(Cb l i).bind F=some r):∃ x,0≤i∧i<l.length∧(l.map g).getD i.toNat .junk=g x∧F x=some r:=by
 obtain ⟨x,d,h⟩:=bind_some h
 obtain ⟨a,b,c⟩:=AA d
 exact ⟨x,a,b,AB c,h⟩
abbrev Ck (e:Env) (st:St) (B:List (List AV)) (Rw:List RowA) (L:List LoopA) (e0:Env) (bs:List (List AV)) (ow:List (Nat × Nat × Own)) (c:Prop):Prop :=
 ∃ (X:List (List AV)) (rows:List RowA),e=e0∧st=⟨B++(bs++X),rows,L⟩∧Owns Rw rows ow∧c
end Go.Ev
namespace Go.Proofs.YtgpmlelfkjfbiaaGreatDoor
open Go Go.RowKit Go.Ev
structure Part where
 kind:Int
 index:Int
 name:ByteArray
structure Itm where
 v:Vl
 level:Int
structure Lim where
 name:ByteArray
 low:Int
 high:Int
 bounds:Bool
 scale:Bool
 text:Bool
 list:Bool
 fields:Bool
structure Sch where
 name:ByteArray
 version:Int
 type:Ty
def Y3 {α:Type} (f:α→AV) (l:List α):AV := .list (l.map f) .none
@[go_sem] theorem Hj {α:Type} (f:α→AV) (l:List α):Y3 f l = .list (l.map f) .none:=rfl
@[go_sem] theorem ZjD {α:Type} (f:α→AV) (l:List α) (n:Nat):(l.map f).take n=(l.take n).map f:=List.map_take.symm
@[go_sem] theorem Zjz {α:Type} (f:α→AV) (l:List α) (n:Nat):(l.map f).drop n=(l.drop n).map f:=List.map_drop.symm
attribute [go_sem] List.length_map List.take_length
def Yf (x:Int):AV := .val (.int .i64 x)
@[go_sem] theorem Hn (x:Int):Yf x = .val (.int .i64 x):=rfl
@[go_sem] theorem Zis (l:List (Int)):(∀ y∈l.map Yf,y.cells.length=1)↔True:=iff_true_intro fun y a=>by
 obtain ⟨x,_,rfl⟩:=List.mem_map.1 a
 simp +decide only [go_sem]
@[go_sem] theorem Zl3 (l:List (Int)):(∀ y∈l.map Yf,y.cells.length=1∧A4 y=true)↔True:=iff_true_intro fun y a=>by
 obtain ⟨x,_,rfl⟩:=List.mem_map.1 a
 simp +decide only [go_sem]
@[go_sem] theorem Zim (nb nr nl:Nat) (l:List (Int)):(∀ y∈l.map Yf,Under nb nr nl y)↔True:=iff_true_intro fun y a=>by
 obtain ⟨x,_,rfl⟩:=List.mem_map.1 a
 exact .val _
@[go_sem] theorem ZlC (l:List (Int)):(l.map Yf).map AV.pub=l.map Yf:=by
 rw [List.map_map]
 refine List.map_congr_left fun x _=>?_
 simp +decide only [Function.comp,go_sem]
def avB (x:Bool):AV := .val (.bool x)
@[go_sem] theorem Hk (x:Bool):avB x = .val (.bool x):=rfl
@[go_sem] theorem ZiD (l:List (Bool)):(∀ y∈l.map avB,y.cells.length=1)↔True:=iff_true_intro fun y a=>by
 obtain ⟨x,_,rfl⟩:=List.mem_map.1 a
 simp +decide only [go_sem]
@[go_sem] theorem Zmd (l:List (Bool)):(∀ y∈l.map avB,y.cells.length=1∧A4 y=true)↔True:=iff_true_intro fun y a=>by
 obtain ⟨x,_,rfl⟩:=List.mem_map.1 a
 simp +decide only [go_sem]
@[go_sem] theorem ZiP (nb nr nl:Nat) (l:List (Bool)):(∀ y∈l.map avB,Under nb nr nl y)↔True:=iff_true_intro fun y a=>by
 obtain ⟨x,_,rfl⟩:=List.mem_map.1 a
 exact .val _
@[go_sem] theorem Zli (l:List (Bool)):(l.map avB).map AV.pub=l.map avB:=by
 rw [List.map_map]
 refine List.map_congr_left fun x _=>?_
 simp +decide only [Function.comp,go_sem]
def NI (x:ByteArray):AV := .val (.string x)
@[go_sem] theorem Ht (x:ByteArray):NI x = .val (.string x):=rfl
@[go_sem] theorem ZiG (l:List (ByteArray)):(∀ y∈l.map NI,y.cells.length=1)↔True:=iff_true_intro fun y a=>by
 obtain ⟨x,_,rfl⟩:=List.mem_map.1 a
 simp +decide only [go_sem]
@[go_sem] theorem Zmz (l:List (ByteArray)):(∀ y∈l.map NI,y.cells.length=1∧A4 y=true)↔True:=iff_true_intro fun y a=>by
 obtain ⟨x,_,rfl⟩:=List.mem_map.1 a
 simp +decide only [go_sem]
@[go_sem] theorem ZiJ (nb nr nl:Nat) (l:List (ByteArray)):(∀ y∈l.map NI,Under nb nr nl y)↔True:=iff_true_intro fun y a=>by
 obtain ⟨x,_,rfl⟩:=List.mem_map.1 a
 exact .val _
@[go_sem] theorem Zk3 (l:List (ByteArray)):(l.map NI).map AV.pub=l.map NI:=by
 rw [List.map_map]
 refine List.map_congr_left fun x _=>?_
 simp +decide only [Function.comp,go_sem]
def Bo (x:Vl):AV := .agg x.cs
@[go_sem] theorem Hq (x:Vl):Bo x = .agg x.cs:=rfl
@[go_sem] theorem ZiF (l:List (Vl)):(∀ y∈l.map Bo,y.cells.length=6)↔True:=iff_true_intro fun y a=>by
 obtain ⟨x,_,rfl⟩:=List.mem_map.1 a
 simp +decide only [go_sem]
@[go_sem] theorem Zl7 (l:List (Vl)):(∀ y∈l.map Bo,y.cells.length=6∧A4 y=true)↔True:=iff_true_intro fun y a=>by
 obtain ⟨x,_,rfl⟩:=List.mem_map.1 a
 simp +decide only [go_sem]
@[go_sem] theorem Zh7 (nb nr nl:Nat) (l:List (Vl)):(∀ y∈l.map Bo,Under nb nr nl y)↔True:=iff_true_intro fun y a=>by
 obtain ⟨x,_,rfl⟩:=List.mem_map.1 a
 exact .agg (x.under _ _ _)
@[go_sem] theorem ZkM (l:List (Vl)):(l.map Bo).map AV.pub=l.map Bo:=by
 rw [List.map_map]
 refine List.map_congr_left fun x _=>?_
 simp +decide only [Function.comp,go_sem]
def Ia (x:Ty):AV := .agg x.cs
@[go_sem] theorem Hm (x:Ty):Ia x = .agg x.cs:=rfl
@[go_sem] theorem ZiK (l:List (Ty)):(∀ y∈l.map Ia,y.cells.length=7)↔True:=iff_true_intro fun y a=>by
 obtain ⟨x,_,rfl⟩:=List.mem_map.1 a
 simp +decide only [go_sem]
@[go_sem] theorem Zl5 (l:List (Ty)):(∀ y∈l.map Ia,y.cells.length=7∧A4 y=true)↔True:=iff_true_intro fun y a=>by
 obtain ⟨x,_,rfl⟩:=List.mem_map.1 a
 simp +decide only [go_sem]
@[go_sem] theorem ZiA (nb nr nl:Nat) (l:List (Ty)):(∀ y∈l.map Ia,Under nb nr nl y)↔True:=iff_true_intro fun y a=>by
 obtain ⟨x,_,rfl⟩:=List.mem_map.1 a
 exact .agg (x.under _ _ _)
@[go_sem] theorem Zko (l:List (Ty)):(l.map Ia).map AV.pub=l.map Ia:=by
 rw [List.map_map]
 refine List.map_congr_left fun x _=>?_
 simp +decide only [Function.comp,go_sem]
def B9 (x:ByteArray × Vl):AV := .agg (.val (.string x.1)::x.2.cs)
@[go_sem] theorem GG (x:ByteArray × Vl):B9 x = .agg (.val (.string x.1)::x.2.cs):=rfl
@[go_sem] theorem ZhV (l:List (ByteArray × Vl)):(∀ y∈l.map B9,y.cells.length=7)↔True:=iff_true_intro fun y a=>by
 obtain ⟨x,_,rfl⟩:=List.mem_map.1 a
 simp +decide only [go_sem]
@[go_sem] theorem Zmm (l:List (ByteArray × Vl)):(∀ y∈l.map B9,y.cells.length=7∧A4 y=true)↔True:=iff_true_intro fun y a=>by
 obtain ⟨x,_,rfl⟩:=List.mem_map.1 a
 simp +decide only [go_sem]
@[go_sem] theorem ZbO (nb nr nl:Nat) (l:List (ByteArray × Vl)):(∀ y∈l.map B9,Under nb nr nl y)↔True:=iff_true_intro fun y a=>by
 obtain ⟨x,_,rfl⟩:=List.mem_map.1 a
 exact Ld nb nr nl [x] _ (by simp [JH,B9])
@[go_sem] theorem ZeA (l:List (ByteArray × Vl)):(l.map B9).map AV.pub=l.map B9:=by
 rw [List.map_map]
 refine List.map_congr_left fun x _=>?_
 simp +decide only [Function.comp,go_sem]
def Da (x:Int × ByteArray × Int × Ty × List Vl):AV := .agg (.val (.int .i64 x.1) :: .val (.string x.2.1) :: .val (.int .i64 x.2.2.1)::(x.2.2.2.1.cs++[.list (x.2.2.2.2.map Bo) .none]))
@[go_sem] theorem Fh (x:Int × ByteArray × Int × Ty × List Vl):Da x = .agg (.val (.int .i64 x.1) :: .val (.string x.2.1) :: .val (.int .i64 x.2.2.1)::(x.2.2.2.1.cs++[.list (x.2.2.2.2.map Bo) .none])):=rfl
@[go_sem] theorem ZgC (l:List (Int × ByteArray × Int × Ty × List Vl)):(∀ y∈l.map Da,y.cells.length=11)↔True:=iff_true_intro fun y a=>by
 obtain ⟨x,_,rfl⟩:=List.mem_map.1 a
 simp +decide only [go_sem]
@[go_sem] theorem ZkX (l:List (Int × ByteArray × Int × Ty × List Vl)):(∀ y∈l.map Da,y.cells.length=11∧A4 y=true)↔True:=iff_true_intro fun y a=>by
 obtain ⟨x,_,rfl⟩:=List.mem_map.1 a
 simp +decide only [go_sem]
@[go_sem] theorem ZgH (nb nr nl:Nat) (l:List (Int × ByteArray × Int × Ty × List Vl)):(∀ y∈l.map Da,Under nb nr nl y)↔True:=iff_true_intro fun y a=>by
 obtain ⟨x,_,rfl⟩:=List.mem_map.1 a
 exact JR nb nr nl [x] _ (by simp [IJ,Da,Gk];intros;rfl)
@[go_sem] theorem ZjE (l:List (Int × ByteArray × Int × Ty × List Vl)):(l.map Da).map AV.pub=l.map Da:=by
 rw [List.map_map]
 refine List.map_congr_left fun x _=>?_
 simp +decide only [Function.comp,go_sem]
def VJ (x:Sch):AV := .agg (.val (.string x.name) :: .val (.int .i64 x.version)::x.type.cs)
@[go_sem] theorem DZ (x:Sch):VJ x = .agg (.val (.string x.name) :: .val (.int .i64 x.version)::x.type.cs):=rfl
@[go_sem] theorem Zgx (l:List (Sch)):(∀ y∈l.map VJ,y.cells.length=9)↔True:=iff_true_intro fun y a=>by
 obtain ⟨x,_,rfl⟩:=List.mem_map.1 a
 simp +decide only [go_sem]
@[go_sem] theorem Zjj (l:List (Sch)):(∀ y∈l.map VJ,y.cells.length=9∧A4 y=true)↔True:=iff_true_intro fun y a=>by
 obtain ⟨x,_,rfl⟩:=List.mem_map.1 a
 simp +decide only [go_sem]
@[go_sem] theorem Zf9 (nb nr nl:Nat) (l:List (Sch)):(∀ y∈l.map VJ,Under nb nr nl y)↔True:=iff_true_intro fun y a=>by
 obtain ⟨x,_,rfl⟩:=List.mem_map.1 a
 simp only [DZ,OV,List.mem_cons,forall_eq_or_imp,V6,true_and];exact x.type.under _ _ _
@[go_sem] theorem ZhU (l:List (Sch)):(l.map VJ).map AV.pub=l.map VJ:=by
 rw [List.map_map]
 refine List.map_congr_left fun x _=>?_
 simp +decide only [Function.comp,go_sem]
def VT (x:Itm):AV := .agg (x.v.cs++[.val (.int .i64 x.level)])
@[go_sem] theorem DY (x:Itm):VT x = .agg (x.v.cs++[.val (.int .i64 x.level)]):=rfl
@[go_sem] theorem Zf3 (l:List (Itm)):(∀ y∈l.map VT,y.cells.length=7)↔True:=iff_true_intro fun y a=>by
 obtain ⟨x,_,rfl⟩:=List.mem_map.1 a
 simp +decide only [go_sem]
@[go_sem] theorem Zi0 (l:List (Itm)):(∀ y∈l.map VT,y.cells.length=7∧A4 y=true)↔True:=iff_true_intro fun y a=>by
 obtain ⟨x,_,rfl⟩:=List.mem_map.1 a
 simp +decide only [go_sem]
@[go_sem] theorem ZfV (nb nr nl:Nat) (l:List (Itm)):(∀ y∈l.map VT,Under nb nr nl y)↔True:=iff_true_intro fun y a=>by
 obtain ⟨x,_,rfl⟩:=List.mem_map.1 a
 simp only [DY,OV,List.mem_append,List.mem_singleton];rintro z (hz | rfl);exact x.v.under _ _ _ z hz;exact .val _
@[go_sem] theorem ZiZ (l:List (Itm)):(l.map VT).map AV.pub=l.map VT:=by
 rw [List.map_map]
 refine List.map_congr_left fun x _=>?_
 simp +decide only [Function.comp,go_sem]
def WA (x:Lim):AV := .agg [.val (.string x.name),.val (.int .i64 x.low),.val (.int .i64 x.high),.val (.bool x.bounds),.val (.bool x.scale),.val (.bool x.text),.val (.bool x.list),.val (.bool x.fields)]
@[go_sem] theorem Fe (x:Lim):WA x = .agg [.val (.string x.name),.val (.int .i64 x.low),.val (.int .i64 x.high),.val (.bool x.bounds),.val (.bool x.scale),.val (.bool x.text),.val (.bool x.list),.val (.bool x.fields)]:=rfl
@[go_sem] theorem ZhQ (l:List (Lim)):(∀ y∈l.map WA,y.cells.length=8)↔True:=iff_true_intro fun y a=>by
 obtain ⟨x,_,rfl⟩:=List.mem_map.1 a
 simp +decide only [go_sem]
@[go_sem] theorem ZkO (l:List (Lim)):(∀ y∈l.map WA,y.cells.length=8∧A4 y=true)↔True:=iff_true_intro fun y a=>by
 obtain ⟨x,_,rfl⟩:=List.mem_map.1 a
 simp +decide only [go_sem]
@[go_sem] theorem ZgF (nb nr nl:Nat) (l:List (Lim)):(∀ y∈l.map WA,Under nb nr nl y)↔True:=iff_true_intro fun y a=>by
 obtain ⟨x,_,rfl⟩:=List.mem_map.1 a
 simp +decide only [go_sem];try intro z b;simp_all [Vl.under,Ty.under]
@[go_sem] theorem Zkl (l:List (Lim)):(l.map WA).map AV.pub=l.map WA:=by
 rw [List.map_map]
 refine List.map_congr_left fun x _=>?_
 simp +decide only [Function.comp,go_sem]
def Jt (x:ByteArray × Int):AV := .agg [.val (.string x.1),.val (.int .i64 x.2)]
@[go_sem] theorem Fp (x:ByteArray × Int):Jt x = .agg [.val (.string x.1),.val (.int .i64 x.2)]:=rfl
@[go_sem] theorem Zhh (l:List (ByteArray × Int)):(∀ y∈l.map Jt,y.cells.length=2)↔True:=iff_true_intro fun y a=>by
 obtain ⟨x,_,rfl⟩:=List.mem_map.1 a
 simp +decide only [go_sem]
@[go_sem] theorem Zkw (l:List (ByteArray × Int)):(∀ y∈l.map Jt,y.cells.length=2∧A4 y=true)↔True:=iff_true_intro fun y a=>by
 obtain ⟨x,_,rfl⟩:=List.mem_map.1 a
 simp +decide only [go_sem]
@[go_sem] theorem ZhJ (nb nr nl:Nat) (l:List (ByteArray × Int)):(∀ y∈l.map Jt,Under nb nr nl y)↔True:=iff_true_intro fun y a=>by
 obtain ⟨x,_,rfl⟩:=List.mem_map.1 a
 simp +decide only [go_sem];try intro z b;simp_all [Vl.under,Ty.under]
@[go_sem] theorem Zi8 (l:List (ByteArray × Int)):(l.map Jt).map AV.pub=l.map Jt:=by
 rw [List.map_map]
 refine List.map_congr_left fun x _=>?_
 simp +decide only [Function.comp,go_sem]
def Zbp (x:Ty × Ty):AV := .agg (x.1.cs++x.2.cs)
@[go_sem] theorem Fg (x:Ty × Ty):Zbp x = .agg (x.1.cs++x.2.cs):=rfl
@[go_sem] theorem ZhF (l:List (Ty × Ty)):(∀ y∈l.map Zbp,y.cells.length=14)↔True:=iff_true_intro fun y a=>by
 obtain ⟨x,_,rfl⟩:=List.mem_map.1 a
 simp +decide only [go_sem]
@[go_sem] theorem ZlB (l:List (Ty × Ty)):(∀ y∈l.map Zbp,y.cells.length=14∧A4 y=true)↔True:=iff_true_intro fun y a=>by
 obtain ⟨x,_,rfl⟩:=List.mem_map.1 a
 simp +decide only [go_sem]
@[go_sem] theorem ZgJ (nb nr nl:Nat) (l:List (Ty × Ty)):(∀ y∈l.map Zbp,Under nb nr nl y)↔True:=iff_true_intro fun y b=>by
 obtain ⟨x,_,rfl⟩:=List.mem_map.1 b
 exact .agg fun z a=>(List.mem_append.1 a).elim (x.1.under _ _ _ z) (x.2.under _ _ _ z)
@[go_sem] theorem Zkm (l:List (Ty × Ty)):(l.map Zbp).map AV.pub=l.map Zbp:=by
 rw [List.map_map]
 refine List.map_congr_left fun x _=>?_
 simp +decide only [Function.comp,go_sem]
def Ur (x:Part):AV := .agg [.val (.int .i64 x.kind),.val (.int .i64 x.index),.val (.string x.name)]
@[go_sem] theorem Fj (x:Part):Ur x = .agg [.val (.int .i64 x.kind),.val (.int .i64 x.index),.val (.string x.name)]:=rfl
@[go_sem] theorem Zhk (l:List (Part)):(∀ y∈l.map Ur,y.cells.length=3)↔True:=iff_true_intro fun y a=>by
 obtain ⟨x,_,rfl⟩:=List.mem_map.1 a
 simp +decide only [go_sem]
@[go_sem] theorem Zkx (l:List (Part)):(∀ y∈l.map Ur,y.cells.length=3∧A4 y=true)↔True:=iff_true_intro fun y a=>by
 obtain ⟨x,_,rfl⟩:=List.mem_map.1 a
 simp +decide only [go_sem]
@[go_sem] theorem ZhD (nb nr nl:Nat) (l:List (Part)):(∀ y∈l.map Ur,Under nb nr nl y)↔True:=iff_true_intro fun y a=>by
 obtain ⟨x,_,rfl⟩:=List.mem_map.1 a
 simp +decide only [go_sem];try intro z b;simp_all [Vl.under,Ty.under]
@[go_sem] theorem ZjM (l:List (Part)):(l.map Ur).map AV.pub=l.map Ur:=by
 rw [List.map_map]
 refine List.map_congr_left fun x _=>?_
 simp +decide only [Function.comp,go_sem]
theorem Y0 (x:ByteArray × Vl):(B9 x).pub=B9 x:=by
 have:=ZeA [x]
 simpa using this
theorem Pq (l:List (ByteArray × Vl)) (nb nr nl:Nat):∀ y∈l.flatMap fun x=>(B9 x).cells,Under nb nr nl y:=fun y b=>by
 obtain ⟨x,c,a⟩:=List.mem_flatMap.1 b
 have h:Under nb nr nl (B9 x):=(ZbO nb nr nl [x]).2 trivial _ (List.mem_singleton.2 rfl)
 cases h with
 | agg h=>exact h y a
@[go_sem] theorem ZfY (l:List (List Part)):(∀ y∈l.map (Y3 Ur),y.cells.length=1)↔True:=iff_true_intro fun y a=>by
 obtain ⟨x,_,rfl⟩:=List.mem_map.1 a
 simp +decide only [go_sem]
@[go_sem] theorem ZjL (l:List (List Part)):(∀ y∈l.map (Y3 Ur),y.cells.length=1∧A4 y=true)↔True:=iff_true_intro fun y a=>by
 obtain ⟨x,_,rfl⟩:=List.mem_map.1 a
 simp +decide only [go_sem]
@[go_sem] theorem Zgv (nb nr nl:Nat) (l:List (List Part)):(∀ y∈l.map (Y3 Ur),Under nb nr nl y)↔True:=iff_true_intro fun y a=>by
 obtain ⟨x,_,rfl⟩:=List.mem_map.1 a
 simp +decide only [go_sem]
@[go_sem] theorem Zih (l:List (List Part)):(l.map (Y3 Ur)).map AV.pub=l.map (Y3 Ur):=by
 rw [List.map_map]
 refine List.map_congr_left fun x _=>?_
 simp +decide only [Function.comp,go_sem]
@[go_sem] theorem Zg5 (l:List (List ByteArray)):(∀ y∈l.map (Y3 NI),y.cells.length=1)↔True:=iff_true_intro fun y a=>by
 obtain ⟨x,_,rfl⟩:=List.mem_map.1 a
 simp +decide only [go_sem]
@[go_sem] theorem ZlA (l:List (List ByteArray)):(∀ y∈l.map (Y3 NI),y.cells.length=1∧A4 y=true)↔True:=iff_true_intro fun y a=>by
 obtain ⟨x,_,rfl⟩:=List.mem_map.1 a
 simp +decide only [go_sem]
@[go_sem] theorem ZgM (nb nr nl:Nat) (l:List (List ByteArray)):(∀ y∈l.map (Y3 NI),Under nb nr nl y)↔True:=iff_true_intro fun y a=>by
 obtain ⟨x,_,rfl⟩:=List.mem_map.1 a
 simp +decide only [go_sem]
@[go_sem] theorem Zjn (l:List (List ByteArray)):(l.map (Y3 NI)).map AV.pub=l.map (Y3 NI):=by
 rw [List.map_map]
 refine List.map_congr_left fun x _=>?_
 simp +decide only [Function.comp,go_sem]
@[go_sem] theorem ZgN (l:List (List Int)):(∀ y∈l.map (Y3 Yf),y.cells.length=1)↔True:=iff_true_intro fun y a=>by
 obtain ⟨x,_,rfl⟩:=List.mem_map.1 a
 simp +decide only [go_sem]
@[go_sem] theorem Zlg (l:List (List Int)):(∀ y∈l.map (Y3 Yf),y.cells.length=1∧A4 y=true)↔True:=iff_true_intro fun y a=>by
 obtain ⟨x,_,rfl⟩:=List.mem_map.1 a
 simp +decide only [go_sem]
@[go_sem] theorem ZhO (nb nr nl:Nat) (l:List (List Int)):(∀ y∈l.map (Y3 Yf),Under nb nr nl y)↔True:=iff_true_intro fun y a=>by
 obtain ⟨x,_,rfl⟩:=List.mem_map.1 a
 simp +decide only [go_sem]
@[go_sem] theorem Zjo (l:List (List Int)):(l.map (Y3 Yf)).map AV.pub=l.map (Y3 Yf):=by
 rw [List.map_map]
 refine List.map_congr_left fun x _=>?_
 simp +decide only [Function.comp,go_sem]
@[go_sem] theorem TC (l:List Vl):FC l=l.map Bo:=Gk l
@[go_sem] theorem XK (l:List Ty):NA l=l.map Ia:=Rb l
@[go_sem] theorem YM (l:List (ByteArray × Vl)):JH l=l.map B9:=OE l
@[go_sem] theorem Wl (l:List (Int × ByteArray × Int × Ty × List Vl)):IJ l=l.map Da:=by
 rw [Pm]
 refine List.map_congr_left fun x _=>?_
 rw [TC];rfl
@[go_sem] theorem Zc9 (l:List ByteArray):(l.map fun x=>AV.val (.string x))=l.map NI:=rfl
@[go_sem] theorem Vl.under_mem (nb nr nl:Nat) (v:Vl):(∀ x∈v.cs,Under nb nr nl x)↔True:=iff_true_intro (v.under nb nr nl)
@[go_sem] theorem Ty.under_mem (nb nr nl:Nat) (v:Ty):(∀ x∈v.cs,Under nb nr nl x)↔True:=iff_true_intro (v.under nb nr nl)
@[go_sem] theorem Zf0 {α:Type} (p:α→Prop) (l m:List α):(∀ x∈l++m,p x)↔(∀ x∈l,p x)∧∀ x∈m,p x:=List.forall_mem_append
theorem rt {α:Type} {x r:α} {F G C p:Prop} (h:some x=some r) (f:F) (hcalm:C) (hO:G) (k:some x=some r→F→C→G→p:=by
  intro h hs hcalm hO
  apply A3;simp +decide only [go_sem,Nat.reduceAdd,hs]
  have hgt:=Option.some.inj h;subst hgt
  first | refine DL hcalm rfl hO.pre (by simp +decide only [go_sem,Nat.reduceAdd]) ⟨?_,?_⟩ | refine E9 hcalm rfl hO.pre (by simp +decide only [go_sem,Nat.reduceAdd]) ⟨?_,?_⟩
  all_goals first | rfl | (simp +decide only [go_sem,Nat.reduceAdd,hs];done) | (simp +decide only [go_sem,Nat.reduceAdd,Vl.cs,Ty.cs,hs];done)):p:=k h f hcalm hO
theorem hv {p F:Prop} (f:F) (h:F→p:=by intro hs;first | rfl | (simp +decide only [go_sem,Nat.reduceAdd,hs];done) | (simp +decide only [go_sem,Nat.reduceAdd,Vl.cs,Ty.cs,hs];done)):p:=h f
theorem Ty.cs_eqs (t:Ty):t.cs=[.val (.int .i64 t.kind),.val (.int .i64 t.min),.val (.int .i64 t.max),.val (.int .i64 t.scale),.list (t.words.map NI) .none,.list (t.elem.map Ia) .none,.list (t.fields.map Da) .none]:=by
 cases t;rw [Ty.cs,XK,Wl];rfl
theorem Vl.cs_eqs (v:Vl):v.cs=[.val (.int .i64 v.kind),.val (.int .i64 v.int),.val (.int .i64 v.scale),.val (.string v.text),.list (v.list.map Bo) .none,.list (v.fields.map B9) .none]:=by
 rw [v.cs_eq,TC,YM]
theorem Ub (w0:World) (B:List (List AV)) (Rw:List RowA) (L:List LoopA) (hT:Lib.Utf8Tabs 0 1 w0) (s:ByteArray) (hs:s.size≤maxLen) :
  ACalls Tryz.prog w0 115 [.val (.string s)] ⟨B,Rw,L⟩ fun v s'=>v = .val (.bool (Lib.validD s.data.toList))∧s'=⟨B,Rw,L⟩:=ZaQ w0 _ hT s hs
theorem Nr (w0:World) (B:List (List AV)) (Rw:List RowA) (L:List LoopA) (a b:ByteArray) :
  ACalls Tryz.prog w0 141 [.val (.string a),.val (.string b)] ⟨B,Rw,L⟩ fun v s'=>v = .val (.int .i64 (EM a b))∧s'=⟨B,Rw,L⟩:=Ym w0 _ a b
attribute [go_sem] P9 Oz JB Nat.mul_one Nat.zero_add Nat.add_zero Option.isSome_some List.getElem?_cons_zero List.getElem?_cons_succ
abbrev ALp:Prop:=(∀ (α:Type) (l m:List α),List.append l m=l++m)∧(∀ (α:Type) (a:α) (l m:List α),(a::l)++m=a::(l++m))∧∀ (α:Type) (l:List α),[]++l=l
theorem al {F:Prop} (h:F):ALp∧F:=⟨⟨fun _ _ _=>rfl,fun _ _ _ _=>rfl,fun _ _=>rfl⟩,h⟩
theorem Vl.cs_mks (k i s:Int) (t:ByteArray) (l:List Vl) (f:List (ByteArray × Vl)):(Vl.mk k i s t l f).cs=[.val (.int .i64 k),.val (.int .i64 i),.val (.int .i64 s),.val (.string t),.list (l.map Bo) .none,.list (f.map B9) .none]:=Vl.cs_eqs _
theorem Ty.cs_mks (a b c d:Int) (w:List ByteArray) (e:List Ty) (f:List (Int × ByteArray × Int × Ty × List Vl)):(Ty.mk a b c d w e f).cs=[.val (.int .i64 a),.val (.int .i64 b),.val (.int .i64 c),.val (.int .i64 d),.list (w.map NI) .none,.list (e.map Ia) .none,.list (f.map Da) .none]:=Ty.cs_eqs _
theorem cm {F:Prop} (h:F):((∀ k i s t l f,(Vl.mk k i s t l f).cs=[.val (.int .i64 k),.val (.int .i64 i),.val (.int .i64 s),.val (.string t),.list (l.map Bo) .none,.list (f.map B9) .none])∧∀ a b c d w e f,(Ty.mk a b c d w e f).cs=[.val (.int .i64 a),.val (.int .i64 b),.val (.int .i64 c),.val (.int .i64 d),.list (w.map NI) .none,.list (e.map Ia) .none,.list (f.map Da) .none])∧F:=⟨⟨Vl.cs_mks,Ty.cs_mks⟩,h⟩
theorem FN {p:Prop} (h:p:=by first | rfl | simp only [List.length_append,List.length_cons,List.length_nil,List.length_map,Nat.zero_add,Nat.add_zero]):p:=h
theorem Hy {p:Prop} (h:p:=by simp only [List.length_set]):p:=h
theorem kr {p:Prop} (h:p:=by kernel_rfl):p:=h
theorem px {p:Prop} (h:p:=by first | exact List.prefix_append _ _ | exact List.prefix_refl _):p:=h
theorem SJ {p:Prop} (h:p:=by simp only [List.append_assoc,List.cons_append,List.nil_append]):p:=h
theorem nq {p:Prop} (h:p:=by first | assumption | omega | (simp only [List.length_set] at *; omega)):p:=h
theorem fn_ {p:Prop} (h:p:=by first | rfl | simp only [List.flatMap_nil]):p:=h
theorem vu {p V:Prop} (v:V) (h:V→p:=by intro v;simp only [List.mem_cons,List.not_mem_nil,or_false,forall_eq_or_imp,forall_eq];exact v _ _ _ _):p:=h v
theorem I5 {p V:Prop} {Rw rows:List RowA} {l:List (Nat × Nat × Ev.Own)} {ho:Ev.Own} {v:List VE} (u:V) (hO:Owns Rw rows l ho v) (h:V→Rw.length≤rows.length→p:=by
  intro u hl
  (simp +decide only [go_sem,Nat.reduceAdd,Lq])<;>(try (repeat' apply Aa))<;>first | omega | assumption | exact u _ _ _ (by omega) (by omega) (by omega)):p:=h u hO.len
theorem ln {p:Prop} {Rw rows Rw' rows':List RowA} {l l':List (Nat × Nat × Ev.Own)} {ho ho':Ev.Own} {v v':List VE} (h1:Owns Rw rows l ho v) (h2:Owns Rw' rows' l' ho' v') (h:Rw.length≤rows.length→Rw'.length≤rows'.length→p:=by intro _ _;first | exact Nat.le_refl _ | omega):p:=h h1.len h2.len
theorem dl {F p q:Prop} (m c1 c2:Nat) (L:List Nat) (f:F) {P:Program} (hm:P.follows .mixedOrders=true) {A K:Env→St→Prop} (hK:∀ e s,A e s→K e s) (k:q) (h:Tg (m,c1,c2,L)→F→P.follows .mixedOrders=true→(∀ e s,A e s→K e s)→q→p:=by
  intro tt hs hm hK hq
  refine OU tt hm (by kernel_rfl) ?_
  rw [Am];simp +decide only [go_sem,Nat.reduceAdd,hs]
  (repeat' with_reducible apply Aa)<;>first | (rw [Am];simp +decide only [go_sem,Nat.reduceAdd,hs]) | (clear hq;exact cl)
  first | (refine hK _ _ ?_;exact hq) | ((repeat' apply Aa)<;>first | (refine hK _ _ ?_;exact hq) | (clear hq;exact cl))):p:=h tg f hm hK k
theorem dk {F p q:Prop} (m c1 c2:Nat) (L:List Nat) (f:F) {P:Program} (hm:P.follows .mixedOrders=true) (k:q) (h:Tg (m,c1,c2,L)→F→P.follows .mixedOrders=true→q→p:=by
  intro tt hs hm hq
  refine OU tt hm (by kernel_rfl) ?_
  rw [Am];simp +decide only [go_sem,Nat.reduceAdd,hs]
  first | (refine Hv ?_;exact hq) | ((repeat' apply Aa)<;>first | (refine Hv ?_;exact hq) | (clear hq;exact cl))):p:=h tg f hm k
theorem dj {F p q:Prop} (m c1 c2:Nat) (L:List Nat) (f:F) {P:Program} (hm:P.follows .mixedOrders=true) (k:q) (h:Tg (m,c1,c2,L)→F→P.follows .mixedOrders=true→q→p:=by
  intro tt hs hm hq
  refine OU tt hm (by kernel_rfl) ?_
  rw [Am];simp +decide only [go_sem,Nat.reduceAdd,hs]
  (repeat' with_reducible apply Aa)<;>first | (rw [Am];simp +decide only [go_sem,Nat.reduceAdd,hs]) | (clear hq;exact cl)
  first | (refine Hv ?_;exact hq) | ((repeat' apply Aa)<;>first | (refine Hv ?_;exact hq) | (clear hq;exact cl))):p:=h tg f hm k
theorem dn {F p q:Prop} (f:F) {A K:Env→St→Prop} (hK:∀ e s,A e s→K e s) (k:q) (h:F→(∀ e s,A e s→K e s)→q→p:=by
  intro hs hK hq
  rw [Am];simp +decide only [go_sem,Nat.reduceAdd,hs]
  (repeat' with_reducible apply Aa)<;>first | (rw [Am];simp +decide only [go_sem,Nat.reduceAdd,hs]) | (clear hq;exact cl)
  first | (refine hK _ _ ?_;exact hq) | ((repeat' apply Aa)<;>first | (refine hK _ _ ?_;exact hq) | (clear hq;exact cl))):p:=h f hK k
theorem rT {α:Type} {x r:α} {F G C p:Prop} (h:x=r) (f:F) (hcalm:C) (hO:G) (k:x=r→F→C→G→p:=by
  intro h hs hcalm hO
  apply A3;simp +decide only [go_sem,Nat.reduceAdd,hs]
  subst h
  first | refine DL hcalm rfl hO.pre (by simp +decide only [go_sem,Nat.reduceAdd]) ⟨?_,rfl⟩ | refine E9 hcalm rfl hO.pre (by simp +decide only [go_sem,Nat.reduceAdd]) ⟨?_,rfl⟩
  first | rfl | (simp +decide only [go_sem,Nat.reduceAdd,hs];done) | (simp +decide only [go_sem,Nat.reduceAdd,Vl.cs,Ty.cs,hs];done)):p:=k h f hcalm hO
end Go.Proofs.YtgpmlelfkjfbiaaGreatDoor
namespace Go.Ev
open Go Go.RowKit Go.Shelf
section
variable {P:Program} {w0:World} {st:St}
theorem YS {M:Mem} {w w':World} {e:TypeId} {sz:Nat} {v':Value} {n:Nat} {us:Nat→Value} {xs:List AV} (hst:RelSt w0 M st w) (hb:Below w.heap.size w w') (ho:w'.ownsRow w.heap.size e sz v' n (flat us n)) (hn:xs.length=n)
  (hus:∀ i,i<n→(us i).cells.size=sz) (hR:∀ i (hi:i<xs.length),R w0 M w (us i) xs[i]):∃ M',Ext w0 M w M' w'∧RelSt w0 M' st w'∧R w0 M' w' v' (.list xs .none):=by
 subst hn
 obtain ⟨k,d⟩:=ho
 rcases d with ⟨rfl,h0⟩ | ⟨g,cap,cur,rfl,hg,hcur,hc1,hc2,hc3,hc4⟩
 ·obtain ⟨c,b⟩:=hst.later hb w.heap.size 0 (Nat.le_refl _) (.inr rfl)
  have:xs=[]:=List.length_eq_zero_iff.1 h0
  subst this
  exact ⟨_,b,c,.nil (fun id=>by simp)⟩
 ·obtain ⟨c,b⟩:=hst.later hb g (xs.length*sz) hg (.inl (Array.getElem?_eq_some_iff.1 hcur).1)
  refine ⟨_,b,c,.list sz us hc1 hc2 (fun i hi=>⟨hus i hi,fun j h=>?_⟩) (fun i hi=>(hR i hi).mono b) trivial⟩
  have a:i*sz+j<xs.length*sz:=by
   have:(i+1)*sz≤xs.length*sz:=Nat.mul_le_mul_right _ hi
   rw [Nat.succ_mul] at this;omega
  refine ⟨.inr (by simp only [Mem.newTop,if_true,Nat.zero_add];exact a),?_⟩
  have f:=Jr hus i hi j h
  rw [←f,←hc4,List.getElem?_take_of_lt a,Array.getElem?_toList]
  simp [World.cell?,hcur]
theorem Zk {ρ:Ren} (L:Go.Proofs.SlLaysE0.n41 P ρ) (i0:TypeInfo) (z:Value) (size bytes:Nat) (hi:P.info? (ρ.t 23)=some i0) (hz0:i0.zero=some z) (hz1:i0.size=size) (hz2:i0.bytes=bytes) (hzs:z.cells.size=size) (hsz:0<size)
  (z23:∀ w,(Go.sizeOf (ρ.t 23)).run P w = .ok size w) (a:Addr) (c:Nat) (w:World) :
  Calls P (ρ.f 41) #[.slice (some a) 0 c] w fun e w'=>∃ v',e = .returned v'∧w'.ownsRow w.heap.size (ρ.t 23) size v' 0 []∧Below w.heap.size w w':=by
 have i:=L.mixed;have y:=L.t4;have a4:=L.a4;have C:=L.z4;have D:=L.v4;have d:=L.t22;have o:=L.a22;have p:=L.z22;have x:=L.v22
 have q:∀ (w:World) (a:Option Addr) (n c h l:Nat),(binOp .eql (ρ.t 22) (.slice a n c) (.slice none h l)).run P w = .ok (.bool a.isNone) w:=fun w a n c h l=>Lib.run_eql_slice_nil w _ _ a n c h l L.t22
 have r:∀ w,Sem.run P (underlying (ρ.t 22)) w = .ok (TypeDesc.slice (ρ.t 23)) w:=run_underlying d
 obtain ⟨_,_,FG⟩:=L.f41
 go_enter FG,Go.Proofs.SlBodyN.n41_ntmps ρ
 go_wp2_with (at_builtin;refine wpList_append_own _ rfl _ _ (ρ.t 22) rfl w.heap.size (ρ.t 23) i0 z size bytes d hi hz0 hz1 hz2 hzs hsz _ _ _ rfl (World.ownsRow_made w #[] 0 (Nat.le_refl _) (Nat.zero_le _) (by simp)) a 0 c [] rfl (by simp) (by intro j u s;simp at s) (by intro u hu;cases hu) (by unfold maxLen;omega) (by omega) (by simp) ?_)
 intro v' E g b m
 go_wp2
 go_ret
 exact ⟨v',rfl,by simpa using g,((Below.refl _ w).alloc (Nat.le_refl _) _).grown b (by simp) (by intro k v;simp [Value.ownBlock] at v;omega)⟩
theorem Zs {ρ:Ren} (L:Go.Proofs.SlLaysE0.n41 P ρ) (hen:KA P (ρ.f 41)) (i0:TypeInfo) (z:Value) (size bytes:Nat) (hi:P.info? (ρ.t 23)=some i0) (hz0:i0.zero=some z) (hz1:i0.size=size) (hz2:i0.bytes=bytes) (hzs:z.cells.size=size) (hsz:0<size)
  (z23:∀ w,(Go.sizeOf (ρ.t 23)).run P w = .ok size w) {xs:List AV} {o:Own} (hx:∀ y∈xs,y.cells.length=size) (h1:∀ y∈xs,A4 y=true) (hbig:xs.length*bytes≤140737488355328) :
  ACalls P w0 (ρ.f 41) [.list xs o] st fun r s=>r = .list xs .none∧s=st:=by
 refine ⟨hen,fun M w q m h=>?_⟩
 obtain ⟨v,rfl⟩:∃ v,q = #[v]:=by
  have:=h.1
  simp only [List.length_cons,List.length_nil] at this
  exact Array.size_eq_one_iff.1 this
 have hv:R w0 M w v (.list xs o):=h.2 0 (by simp) (by simp)
 cases hv with
 | nil ho =>
  refine (Go.Proofs.AnyE.slices_Clone_nil L 0 0 w).mono ?_
  rintro en N ⟨rfl,rfl⟩
  exact ⟨_,M,_,st,rfl,⟨rfl,rfl⟩,.refl _ _ _,m,.nil (fun id=>by simp)⟩
 | @emp ad _ ho =>
  refine (Zk L i0 z size bytes hi hz0 hz1 hz2 hzs hsz z23 ad 0 w).mono ?_
  rintro en N ⟨C,rfl,c,a⟩
  obtain ⟨M',x,G,F⟩:=YS (xs:=[]) (us:=fun _=>undef) m a c rfl (fun i hi=>absurd hi (by omega)) (fun i hi=>absurd hi (by simp))
  exact ⟨C,M',_,st,rfl,⟨rfl,rfl⟩,x,G,F⟩
 | @list b off cap _ _ sz us hc hm hcell hu ho =>
  have d:∀ i,i<xs.length→(us i).cells.size=size:=fun i hi=>by
   rw [((hu i hi).cells).1];exact hx _ (List.getElem_mem _)
  have g:∀ i,i<xs.length→∀ j,j<size→w.cell? ⟨b,off+i*size+j,none⟩=(us i).cells[j]? := fun i hi j H=>by
   have e:sz=size:=((hcell i hi).1).symm.trans (d i hi)
   subst e
   exact ((hcell i hi).2 j H).2
  refine (Go.Proofs.AnyE.slices_Clone L i0 z size bytes hi hz0 hz1 hz2 hzs hsz z23 b off xs.length cap (flat us xs.length) w (AU d) (Nat.le_trans hc hm) hbig (fun j u H=>?_) (fun u K=>?_)).mono ?_
  ·have:=Gp d hsz g j u H
   rwa [E2] at this
  ·obtain ⟨i,J,E⟩:=List.mem_flatMap.1 K
   have l:i<xs.length:=by simpa using J
   obtain ⟨k,O,rfl⟩:=List.mem_iff_getElem.1 E
   have n:=(hu i l).cells
   have p:k<(us i).cells.size:=by simpa using O
   have:=n.2 k p (by rw [←n.1];exact p)
   rw [Array.getElem_toList]
   refine this.oneCell ((hu i l).cellsOne (fun vs D=>?_) _ (List.getElem_mem _))
   have:=h1 _ (List.getElem_mem l)
   rw [D] at this;cases this
  ·rintro en N ⟨C,rfl,c,_,a⟩
   obtain ⟨M',x,G,F⟩:=YS m a c rfl d hu
   exact ⟨C,M',_,st,rfl,⟨rfl,rfl⟩,x,G,F⟩
def Zal (P:Program) (t:TypeId) (size bytes:Nat):Bool :=
 match P.info? t with
 | some i=>(i.size == size)&&(i.bytes == bytes)&&(match i.zero with | some z=>z.cells.size == size | none=>false)
 | none=>false
theorem TV {t:TypeId} {size bytes:Nat} (h:Zal P t size bytes=true):∃ i0 z,P.info? t=some i0∧i0.zero=some z∧i0.size=size∧i0.bytes=bytes∧z.cells.size=size:=by
 unfold Zal at h
 cases hi:P.info? t with
 | none=>simp [hi] at h
 | some i =>
  simp only [hi,Bool.and_eq_true,beq_iff_eq] at h
  cases hz:i.zero with
  | none=>simp [hz] at h
  | some z =>
   simp only [hz,beq_iff_eq] at h
   exact ⟨i,z,rfl,hz,h.1.1,h.1.2,h.2⟩
theorem YK {ρ:Ren} (L:Go.Proofs.SlLaysE0.n41 P ρ) (hen:KA P (ρ.f 41)) (size bytes:Nat) (hi:Zal P (ρ.t 23) size bytes=true) (hsz:0<size) (z23:∀ w,(Go.sizeOf (ρ.t 23)).run P w = .ok size w) {xs:List AV} {o:Own}
  (hx:∀ y∈xs,y.cells.length=size∧A4 y=true) (hbig:xs.length*bytes≤140737488355328):ACalls P w0 (ρ.f 41) [.list xs o] st fun r s=>r = .list xs .none∧s=st:=by
 obtain ⟨b,z,a1,a2,a3,a4,a5⟩:=TV hi
 exact Zs L hen b z size bytes a1 a2 a3 a4 a5 hsz z23 (fun y a=>(hx y a).1) (fun y a=>(hx y a).2) hbig
end
theorem Owns.len1 {Rw rows:List RowA} {o ho:Own} {sz n m:Nat} (h:Owns Rw rows [(sz,n,o)] ho) (e:n=m):Owns Rw rows [(sz,m,o)] ho:=e▸h
theorem C2 {B:List (List AV)} {l i:Nat} {cs:List AV} (h:B[l]? = some cs) (hne:i≠l) :
  (∀ X R L o c,Dx ⟨B.set i c++X,R,L⟩ (.box l o)=true)∧(∀ R L o c,Dx ⟨B.set i c,R,L⟩ (.box l o)=true)∧(∀ X R L o c,Bj ⟨B.set i c++X,R,L⟩ (.box l o)=cs)∧(∀ R L o c,Bj ⟨B.set i c,R,L⟩ (.box l o)=cs) ∧
  (∀ X c,(B.set i c++X)[l]? = some cs)∧(∀ c,(B.set i c)[l]? = some cs)∧(∀ X c,(B.set i c++X).getD l []=cs)∧(∀ c,(B.set i c).getD l []=cs):=by
 have a:∀ c,(B.set i c)[l]? = some cs:=fun c=>by rw [List.getElem?_set_ne hne];exact h
 refine ⟨fun X R L o c=>(An (a c)).1 X R L o,fun R L o c=>(An (a c)).2.1 R L o,fun X R L o c=>(An (a c)).2.2.1 X R L o,fun R L o c=>(An (a c)).2.2.2.1 R L o,fun X c=>(An (a c)).2.2.2.2.1 X,a,
  fun X c=>(An (a c)).2.2.2.2.2.2.1 X,fun c=>(An (a c)).2.2.2.2.2.2.2.1⟩
theorem LU {P:Program} {w0:World} {n:Nat} {M0:Mem} {W0:World} {ro:Option Nat} {Q:AQ} {e:Env} {st:St} (hm:P.follows .mixedOrders=true) (ef:List Nat) (L:List Nat) {id:Nat} {l:List Oper} (hB:TM l ef=true) (F:St→Prop) (k nb:Nat) {e1:Env} (hnb:st.boxes.length=nb)
  (hF:∀ s,F s→∃ c,XT P w0 n true l (fun e' s'=>e'=e1∧s'=s) c (EO ef 0 l) e s) (hG:Good P w0 n l ef F (fun ev s=>∃ e2 s2,Conv w0 n nb ev s e2 s2∧Q .normal (Do L e2) s2) k [] e1 st):GE P w0 n M0 W0 ro (.region id l.toArray true) Q e st:=by
 intro m M a w hr
 obtain ⟨d1,d2⟩:=hr.rel.st.drew
 refine wpIn_region_any hm (Wg (e:=e) (e1:=e1) (M1:=M) (w1:=w) (ds:=a.defers) hB hF (fun ev s o p q d b u hd=>?_) _ _ a _ M k [] e1 st ?_ hG ?_)
 ·obtain ⟨e2,s2,d,v⟩:=d
  obtain ⟨M2,r,g⟩:=d o p q b
  have f:=r M w (hr.rel.st.N.trans hnb) u
  refine ⟨M2,_,_,⟨g.sub (Bg L _),hr.ext.trans f,?_⟩,v⟩
  rw [hd]
  exact hr.marks.later f hr.rel.st
 ·simp
 ·have hnl:∀ j,(Array.replicate l.toArray.size false).getD j false=false:=fun j=>by
   by_cases c:j<l.length
   ·simp [Array.getD_eq_getD_getElem?,c]
   ·simp [Array.getD_eq_getD_getElem?,c]
  exact ⟨by simp,fun j _ _ hl=>(by rw [hnl] at hl;cases hl),fun i _=>(by rw [hnl];simp),fun _ h=>(nomatch h),d1,hr.rel.size,rfl,d2,fun _ _=>rfl,fun _ _ ⟨_,h,_⟩=>(nomatch h),
   fun _ _ _ ⟨i,_,_,_,_,h⟩=>(by rw [hnl] at h;cases h),fun t x _ hs=>(hr.rel.env t x hs).mono d2⟩
theorem Q9 {P:Program} {w0:World} {f:FuncId} {args args' cs:List AV} {st s':St} {v:AV} (h:ACalls P w0 f args' st fun r s=>r=v∧s=s') (he:(args++cs).map AV.pubA=args'):Oy P w0 (.clo f cs) args st fun r t=>r=v∧t=s':=h.pub he
end Go.Ev
namespace Go.Proofs.YtgpmlelfkjfbiaaGreatDoor
open Go Go.RowKit Go.Ev
def JF:Go.Shelf.Ren:=⟨fun | 41=>106 | n=>n,fun | 22=>22 | 23=>9 | 4=>4 | n=>n,fun | n=>n⟩
theorem Om:Go.Proofs.SlLaysE0.n41 Tryz.prog JF:={
 mixed:=by kernel_rfl
 f41:=⟨Tryz.f106.name,by decide,Tryz.func106.trans (congrArg some (by kernel_rfl))⟩
 t4:=Tryz.underlying4
 a4:=Tryz.isAgg4
 z4:=Tryz.sizeOf4
 v4:=Tryz.zeroValue4
 t22:=Tryz.underlying22
 a22:=Tryz.isAgg22
 z22:=Tryz.sizeOf22
 v22:=Tryz.zeroValue22 }
theorem PP (w0:World) (B:List (List AV)) (Rw:List RowA) (L:List LoopA) (l:List ByteArray) (h:l.length*16≤140737488355328) :
  ACalls Tryz.prog w0 106 [.list (l.map NI) .none] ⟨B,Rw,L⟩ fun r s=>r = .list (l.map NI) .none∧s=⟨B,Rw,L⟩ :=
 YK (ρ:=JF) Om (A9 Tryz.func106 rfl (by decide)) 1 16 (by kernel_rfl) (by decide) Tryz.sizeOf9 (by simp +decide only [go_sem]) (by rw [List.length_map];exact h)
end Go.Proofs.YtgpmlelfkjfbiaaGreatDoor
namespace Go.Ev
open Go Go.RowKit Go.Shelf Go.Sort Go.Proofs
theorem ON {α β:Type} {f:α→List β} {sz:Nat}:∀ {xs:List α},(∀ x∈xs,(f x).length=sz)→(xs.flatMap f).length=xs.length*sz
 | [],_=>by simp
 | x::xs,h=>by
  rw [List.flatMap_cons,List.length_append,h x (List.mem_cons_self ..),ON (fun y a=>h y (List.mem_cons_of_mem _ a)),List.length_cons,Nat.succ_mul,Nat.add_comm]
theorem S0 {α β:Type} {f:α→List β} {sz:Nat}:∀ {xs:List α},(∀ x∈xs,(f x).length=sz)→∀ (i:Nat) (hi:i<xs.length) (j:Nat),j<sz→(xs.flatMap f)[i*sz+j]? = (f xs[i])[j]?
 | [],_,i,hi,_,_=>absurd hi (by simp)
 | x::xs,h,0,hi,j,hj=>by
  rw [List.flatMap_cons,Nat.zero_mul,Nat.zero_add,List.getElem?_append_left (by rw [h x (List.mem_cons_self ..)];exact hj)]
  rfl
 | x::xs,h,i+1,hi,j,hj=>by
  have a:=h x (List.mem_cons_self ..)
  rw [List.flatMap_cons,Nat.succ_mul,List.getElem?_append_right (by omega),a,show i*sz+sz+j-sz=i*sz+j by omega]
  exact S0 (fun y b=>h y (List.mem_cons_of_mem _ b)) i (by simpa using hi) j hj
abbrev VH:List UInt8→List UInt8→Int:=Lib.compareBytes
theorem SV:∀ a,VH a a=0
 | []=>rfl
 | x::a=>by simp only [VH,Lib.compareBytes,UInt8.lt_irrefl,if_false];exact SV a
theorem Qp:∀ a b,VH b a = - VH a b
 | [],[]=>rfl
 | [],_::_=>rfl
 | _::_,[]=>rfl
 | x::a,y::b=>by
  have ih:=Qp a b
  simp only [VH,Lib.compareBytes] at *
  by_cases h1:x<y
  ·have c:¬ y<x:=fun h=>by rw [UInt8.lt_iff_toNat_lt] at *; omega
   simp [h1,c]
  ·by_cases c:y<x
   ·simp [h1,c]
   ·simp only [h1,c,if_false];exact ih
theorem Qu:∀ a b c,VH a b≤0→VH b c≤0→VH a c≤0∧(VH a b<0∨VH b c<0→VH a c<0)
 | [],[],c,_,h=>⟨h,fun q=>q.elim (fun q=>absurd q (by decide)) id⟩
 | [],_::_,[],_,h=>absurd (show (1:Int)≤0 from h) (by decide)
 | [],_::_,_::_,_,_=>⟨show (-1:Int)≤0 by decide,fun _=>show (-1:Int)<0 by decide⟩
 | _::_,[],c,h,_=>absurd (show (1:Int)≤0 from h) (by decide)
 | _::_,_::_,[],_,h=>absurd (show (1:Int)≤0 from h) (by decide)
 | x::a,y::b,z::c,h1,h2=>by
  have ih:=Qu a b c
  simp only [VH,Lib.compareBytes,UInt8.lt_iff_toNat_lt] at *
  by_cases p1:x.toNat<y.toNat
  ·by_cases p2:y.toNat<z.toNat
   ·have:x.toNat<z.toNat:=by omega
    simp [this]
   ·by_cases p3:z.toNat<y.toNat
    ·simp [p2,p3] at h2
    ·have:x.toNat<z.toNat:=by omega
     simp [this]
  ·by_cases p4:y.toNat<x.toNat
   ·simp [p1,p4] at h1
   ·simp only [p1,p4,if_false] at h1
    by_cases p2:y.toNat<z.toNat
    ·have:x.toNat<z.toNat:=by omega
     simp [this]
    ·by_cases p3:z.toNat<y.toNat
     ·simp [p2,p3] at h2
     ·simp only [p2,p3,if_false] at h2
      have e:¬ x.toNat<z.toNat:=by omega
      have d:¬ z.toNat<x.toNat:=by omega
      simp only [p1,p4,p2,p3,e,d,if_false]
      exact ih h1 h2
theorem ZcM {α:Type} (nm:α→ByteArray):SWO (ltOf fun x y:α=>Lib.compareBytes (nm x).data.toList (nm y).data.toList) where
 irrefl x:=by simp only [ltOf,decide_eq_false_iff_not];have:=SV (nm x).data.toList;simp only [VH] at this;omega
 trans x y z h1 h2:=by
  simp only [ltOf,decide_eq_true_eq] at *
  exact (Qu (nm x).data.toList (nm y).data.toList (nm z).data.toList (by simp only [VH];omega) (by simp only [VH];omega)).2 (.inl h1)
 ntrans x y z h1 h2:=by
  simp only [ltOf,decide_eq_false_iff_not] at *
  have a:=Qp (nm x).data.toList (nm y).data.toList
  have b:=Qp (nm y).data.toList (nm z).data.toList
  have c:=Qp (nm x).data.toList (nm z).data.toList
  have:=(Qu (nm z).data.toList (nm y).data.toList (nm x).data.toList (by simp only [VH] at *; omega) (by simp only [VH] at *; omega)).1
  simp only [VH] at *
  omega
def Ic (nm:Nat→ByteArray) (n:Nat):List Nat:=(pdq (ltOf fun i j:Nat=>Lib.compareBytes (nm i).data.toList (nm j).data.toList) (Array.range n) 0 n (Lib.bitLen n) true true).toList
theorem Ns (nm:Nat→ByteArray) (n:Nat):(Ic nm n).Perm (List.range n)∧∀ i j,i<j→j<n→¬ Lib.compareBytes (nm ((Ic nm n)[j]!)).data.toList (nm ((Ic nm n)[i]!)).data.toList<0:=by
 have h:=pdq_sorts (ltOf fun i j:Nat=>Lib.compareBytes (nm i).data.toList (nm j).data.toList) (ZcM nm) (Array.range n) 0 n (Lib.bitLen n) true true (Nat.zero_le _) (by simp) (Or.inl rfl)
 obtain ⟨⟨l,p,b⟩,o⟩:=h
 have a:(pdq (ltOf fun i j:Nat=>Lib.compareBytes (nm i).data.toList (nm j).data.toList) (Array.range n) 0 n (Lib.bitLen n) true true).size=n:=by simpa using l
 refine ⟨?_,fun i j f c=>?_⟩
 ·have m:((pdq (ltOf fun i j:Nat=>Lib.compareBytes (nm i).data.toList (nm j).data.toList) (Array.range n) 0 n (Lib.bitLen n) true true).extract 0 n).toList=Ic nm n:=by
   unfold Ic
   rw [Array.toList_extract]
   simp only [List.extract,Nat.sub_zero,List.drop_zero]
   exact List.take_of_length_le (by rw [Array.length_toList,a];exact Nat.le_refl _)
  rw [m] at b
  have e:((Array.range n).extract 0 n).toList=List.range n:=by simp [List.extract,Array.toList_range]
  rwa [e] at b
 ·have:=o i j (Nat.zero_le _) f c
  unfold ltOf at this
  have:=of_decide_eq_false this
  unfold Ic
  have g:∀ k,k<n→((pdq (ltOf fun i j:Nat=>Lib.compareBytes (nm i).data.toList (nm j).data.toList) (Array.range n) 0 n (Lib.bitLen n) true true).toList)[k]! = (pdq (ltOf fun i j:Nat=>Lib.compareBytes (nm i).data.toList (nm j).data.toList) (Array.range n) 0 n (Lib.bitLen n) true true)[k]! := fun k d=>by
   rw [getElem!_pos _ k (by rw [Array.length_toList,a];exact d),getElem!_pos _ k (by rw [a];exact d),Array.getElem_toList]
  rw [g i (by omega),g j c]
  exact this
theorem Hf (nm:Nat→ByteArray) (n:Nat):(Ic nm n).length=n:=by simpa using (Ns nm n).1.length_eq
theorem Zde (nm:Nat→ByteArray) (n:Nat):∀ i∈Ic nm n,i<n:=fun i a=>by simpa using (Ns nm n).1.mem_iff.1 a
def L8 {α:Type} (nm:α→ByteArray) (d:α) (xs:List α):List α:=(Ic (fun i=>nm (xs.getD i d)) xs.length).map fun i=>xs.getD i d
section
variable {P:Program} {w0:World} {st:St} {M:Mem} {w:World}
theorem RelSt.setVec (h:RelSt w0 M st w) {id ver sz:Nat} {cs cs':List AV} {w':World} (hid:st.rows[id]? = some (.vec ver sz cs)) (hb:Below w0.heap.size w w') (hoth:∀ b,b<w.heap.size→b≠M.blk id→w'.heap[b]? = w.heap[b]?)
  {c':Array Value} {ty:TypeId} (hc:w'.heap[M.blk id]? = some (.cells c' ty (0,0))) (hsz:c'.size=M.cap id*sz) (hle:cs'.length≤c'.size) (hone:∀ x∈cs',x.one=true) (hR:∀ i (h1:i<c'.size) (h2:i<cs'.length),R w0 M w c'[i] cs'[i]) :
  Ext w0 M w M w'∧RelSt w0 M { st with rows:=st.rows.set id (.vec ver sz cs') } w':=by
 have a:id<st.rows.length:=(Ag.1 hid).1
 have f:id<M.NR:=by rw [h.NR];exact a
 obtain ⟨H,D,J,u,z,Q,C,c,O,f8,V,G,K,F⟩:=h.row id _ hid
 have j:KeepsObj w w':=fun b o h1 h2=>by
  have d:=(Array.getElem?_eq_some_iff.1 h1).1
  by_cases q:b=M.blk id
  ·subst q;rw [f8] at h1;cases h1;cases h2
  ·exact (hoth b d q).trans h1
 have g:Ext w0 M w M w' :=
  ⟨Nat.le_refl _,fun _ _=>rfl,Nat.le_refl _,fun _ _=>⟨Nat.le_refl _,fun _=>⟨rfl,rfl,rfl⟩⟩,fun b U v hi hv=>by
   have d:=World.block_lt_of_cell? w _ hv
   refine ⟨?_,hi⟩
   have q:b≠M.blk id:=by
    rintro rfl
    rcases hi with hi | hi
    ·omega
    ·rw [u] at hi;omega
   unfold World.cell? at hv ⊢
   simp only [hoth b d q] at hv ⊢
   exact hv,hb.size,Nat.le_refl _,fun _ _=>rfl,fun _ h1 h2=>absurd h2 (Nat.not_lt.2 h1),fun b o h1 h2 _=>j b o h1 h2⟩
 refine ⟨g,h.below.trans hb,h.N,by simp [h.NR],fun b p=>h.top b (Nat.le_trans hb.size p),h.inj,fun l t y=>?_,fun i x hi=>?_,h.rowinj,h.loop.mono g rfl j⟩
 ·obtain ⟨a1,a2,E,s,a3,a4,a5,a6⟩:=h.box l t y
  have r:l<M.N:=by rw [h.N];exact (Ag.1 y).1
  exact ⟨a1,a2,E,s,by rw [hoth _ (Array.getElem?_eq_some_iff.1 a3).1 (z l r)];exact a3,a4,a5,fun i h1 h2=>(a6 i h1 h2).mono g⟩
 ·by_cases q:i=id
  ·subst q
   rw [List.getElem?_set_self a] at hi
   cases hi
   exact ⟨H,D,J,u,z,Q,C,c',ty,hc,hsz,hle,hone,fun i h1 h2=>(hR i h1 h2).mono g⟩
  ·rw [List.getElem?_set_ne (Ne.symm q)] at hi
   have k:i<M.NR:=by rw [h.NR];exact (Ag.1 hi).1
   have m:=h.row i x hi
   have n:M.blk i≠M.blk id:=fun e=>q (h.rowinj i id k f e)
   exact m.keep g rfl rfl rfl rfl rfl m.ne (hoth _ m.lt n)
theorem ZbD {ρ:Ren} (L:SlLaysF0.n6 P ρ) (hen:KA P (ρ.f 6)) (k:Nat) (aE:∀ w,(isAgg (ρ.t 24)).run P w = .ok true w) (zE:∀ w,(Go.sizeOf (ρ.t 24)).run P w = .ok (k+1) w) (g:FuncId) (hg:KA P g)
  (hcmp:∀ (s s':ByteArray) (r r':List Value) (W:World),r.length=k→r'.length=k→(∀ v∈r,v.oneCell'=true)→(∀ v∈r',v.oneCell'=true) →
   Calls P g #[.agg (.string s::r).toArray,.agg (.string s'::r').toArray] W fun e w'=>e = .returned (.int .i64 (Lib.compareBytes s.data.toList s'.data.toList))∧∃ q os',w'=grow (W.drewN q) os')
  {α:Type} (f:α→AV) (nm:α→ByteArray) (d:α) (l:List α) (hf:∀ x,∃ r,f x = .agg (.val (.string (nm x))::r)∧r.length=k) {rid ver:Nat} (hid:st.rows[rid]? = some (.vec ver (k+1) (l.flatMap fun x=>(f x).cells))) (hn:0<l.length) (hz:l.length<4611686018427387904) :
  ACalls P w0 (ρ.f 6) [.vec rid ver 0 l.length,.clo g []] st fun r s=>r = .tup []∧s={ st with rows:=st.rows.set rid (.vec ver (k+1) ((L8 nm d l).flatMap fun x=>(f x).cells)) }:=by
 refine ⟨hen,fun M w ad ah E=>?_⟩
 obtain ⟨v0,v1,rfl⟩:∃ v0 v1,ad = #[v0,v1]:=by
  have hs:=E.1
  simp only [List.length_cons,List.length_nil] at hs
  match ad,hs with
  | ⟨[a,b]⟩,_=>exact ⟨a,b,rfl⟩
 have h0:R w0 M w v0 (.vec rid ver 0 l.length):=E.2 0 (by simp) (by simp)
 have h1:R w0 M w v1 (.clo g []):=E.2 1 (by simp) (by simp)
 obtain ⟨ap,rfl,av⟩:=WS h1
 have:ap = #[]:=Array.size_eq_zero_iff.1 av.1
 subst this
 have Q:∀ x,(f x).cells.length=k+1:=fun x=>by obtain ⟨r,e,N⟩:=hf x;rw [e];simp [AV.cells,N]
 have aj:(l.flatMap fun x=>(f x).cells).length=l.length*(k+1):=ON fun x _=>Q x
 obtain ⟨f1,f2,f3,f4,f5,f6,f7,c,ty,f8,f9,ar,aw,aq⟩:=ah.row rid _ hid
 cases h0 with
 | @vec _ _ _ _ p cap z hver hh =>
 obtain ⟨rfl,ay,hm⟩:=hh f1.symm
 have Z:M.blk rid<w.heap.size:=(Array.getElem?_eq_some_iff.1 f8).1
 have ax:l.length*(k+1)≤c.size:=by rw [←aj];exact ar
 -- the elements,by their number
 let enc:Nat→List Value:=fun i=>if i<l.length then (c.toList.drop (i*(k+1))).take (k+1) else .string (nm d)::List.replicate k (.int .i64 0)
 have bnd:∀ i,i<l.length→i*(k+1)+(k+1)≤c.size:=fun i z=>by
  have:(i+1)*(k+1)≤l.length*(k+1):=Nat.mul_le_mul_right _ z
  rw [Nat.succ_mul] at this;omega
 have hk:∀ i,(enc i).length=k+1:=fun i=>by
  simp only [enc];split
  ·rename_i q;have:=bnd i q;simp;omega
  ·simp
 have u:∀ i,i<l.length→∀ j,j<k+1→(enc i)[j]? = c[i*(k+1)+j]? := fun i z j Y=>by
  simp only [enc,Ae z]
  rw [List.getElem?_take_of_lt Y,List.getElem?_drop,Array.getElem?_toList]
 have cR:∀ i (z:i<l.length) j (Y:j<k+1),∃ v x,c[i*(k+1)+j]? = some v∧(f l[i]).cells[j]? = some x∧x.one=true∧R w0 M w v x:=fun i z j Y=>by
  have hb:=bnd i z
  have o:i*(k+1)+j<c.size:=by omega
  have ab:i*(k+1)+j<(l.flatMap fun x=>(f x).cells).length:=by rw [aj];have:(i+1)*(k+1)≤l.length*(k+1):=Nat.mul_le_mul_right _ z;rw [Nat.succ_mul] at this;omega
  have e:=S0 (f:=fun x=>(f x).cells) (xs:=l) (fun x _=>Q x) i z j Y
  rw [List.getElem?_eq_getElem ab] at e
  exact ⟨_,_,Array.getElem?_eq_getElem o,e.symm,aw _ (List.getElem_mem _),aq _ o ab⟩
 have K:∀ i,∀ v∈enc i,v.oneCell'=true:=fun i v hv=>by
  by_cases q:i<l.length
  ·obtain ⟨j,Y,rfl⟩:=List.mem_iff_getElem.1 hv
   have ai:j<k+1:=by rw [hk] at Y;exact Y
   obtain ⟨v,x,e1,e2,H,e4⟩:=cR i q j ai
   have:=u i q j ai
   rw [List.getElem?_eq_getElem Y,e1] at this
   cases this
   exact e4.oneCell H
  ·simp only [enc,Af q,List.mem_cons,List.mem_replicate] at hv
   rcases hv with rfl | ⟨_,rfl⟩<;>rfl
 let nmI:Nat→ByteArray:=fun i=>nm (l.getD i d)
 have V:∀ i,∃ r,enc i = .string (nmI i)::r∧r.length=k:=fun i=>by
  by_cases q:i<l.length
  ·obtain ⟨v,x,e1,e2,H,e4⟩:=cR i q 0 (by omega)
   obtain ⟨r,er,N⟩:=hf l[i]
   rw [er] at e2
   simp only [AV.cells,List.getElem?_cons_zero,Option.some.injEq] at e2
   subst e2
   have ev:v = .string (nm l[i]):=by cases e4;rfl
   subst ev
   have hg:=u i q 0 (by omega)
   rw [e1] at hg
   cases he:enc i with
   | nil=>rw [he] at hg;cases hg
   | cons y ys =>
    rw [he] at hg
    simp only [List.getElem?_cons_zero,Option.some.injEq] at hg
    have hl:=hk i
    rw [he] at hl
    refine ⟨ys,?_,by simpa using hl⟩
    simp only [nmI,List.getD_eq_getElem?_getD,List.getElem?_eq_getElem q,Option.getD_some,hg]
  ·exact ⟨List.replicate k (.int .i64 0),by simp only [enc,nmI,Af q,List.getD_eq_getElem?_getD,List.getElem?_eq_none (Nat.le_of_not_lt q),Option.getD_none],by simp⟩
 let cf:Nat→Nat→Int:=fun i j=>Lib.compareBytes (nmI i).data.toList (nmI j).data.toList
 have ag:CmpLays P g #[] enc (k+1) cf (M.blk rid) 0 (Array.range l.length).size w:=by
  intro m os dk az x y
  obtain ⟨r,e1,e2⟩:=V x
  obtain ⟨r',H,e4⟩:=V y
  have a1:=K x
  have a2:=K y
  rw [e1] at a1
  rw [H] at a2
  have:=hcmp (nmI x) (nmI y) r r' (sortWorldK enc (k+1) w (M.blk rid) 0 m dk os) e2 e4 (fun v hv=>a1 v (List.mem_cons_of_mem _ hv)) (fun v hv=>a2 v (List.mem_cons_of_mem _ hv))
  simp only [e1,H,cf]
  exact this
 have hH:HoldsK enc (k+1) w (M.blk rid) 0 (Array.range l.length):=by
  intro t C
  rw [size_flatK,Array.size_range] at C
  rw [get_flatK _ _ _ _ (by simpa using C)]
  have G:t / (k+1)<l.length:=Nat.div_lt_of_lt_mul (by rw [Nat.mul_comm];exact C)
  have N:t % (k+1)<k+1:=Nat.mod_lt _ (by omega)
  have e1:((Array.range l.length)[t / (k+1)]! : Nat)=t / (k+1):=by simp [G]
  have e2:=u _ G _ N
  have H:t / (k+1)*(k+1)+t % (k+1)=t:=by rw [Nat.mul_comm];exact Nat.div_add_mod t (k+1)
  rw [H] at e2
  rw [e1]
  have o:t<c.size:=by omega
  have J:t % (k+1)<(enc (t / (k+1))).length:=by rw [hk];exact N
  rw [getElem!_pos (enc (t / (k+1))) _ J]
  rw [List.getElem?_eq_getElem J,Array.getElem?_eq_getElem o] at e2
  refine ⟨?_,?_⟩
  ·simp only [World.cell?,f8,Nat.zero_add,id_eq]
   rw [Array.getElem?_eq_getElem o]
   exact e2.symm
  ·simp [World.frozen?,f8]
 have hS:=AnyQ.slices_SortFunc_eq L (k+1) aE zE enc hk K cf (ZcM nmI) g #[] (M.blk rid) 0 cap (Array.range l.length) w (fun a w'=>by
   have:=hg a w'
   exact this) ag hH Z (by simpa using hz)
 simp only [Array.size_range] at hS
 have e0:(some ⟨M.blk rid,0*M.rsz rid,none⟩:Option Addr)=some ⟨M.blk rid,0,none⟩:=by rw [Nat.zero_mul]
 rw [e0]
 refine hS.mono ?_
 rintro en w' ⟨rfl,m,os,rfl⟩
 -- what the sort leaves
 let D:=pdq (ltOf cf) (Array.range l.length) 0 l.length (Lib.bitLen l.length) true true
 have hD:D.toList=Ic nmI l.length:=rfl
 have ak:D.size=l.length:=by rw [←Array.length_toList,hD,Hf]
 have O:∀ i,i<l.length→(D[i]! : Nat)<l.length:=fun i z=>by
  have U:i<D.size:=by omega
  rw [getElem!_pos D i U]
  exact Zde nmI l.length _ (by rw [←hD];exact Array.getElem_mem_toList U)
 have au:∀ i (z:i<l.length),(Ic nmI l.length)[i]'(by rw [Hf];exact z)=(D[i]! : Nat):=fun i z=>by
  have U:i<D.size:=by omega
  rw [getElem!_pos D i U,←Array.getElem_toList]
  simp only [hD]
 let F:=flatK enc (k+1) D
 have hF:F.size=l.length*(k+1):=by simp only [F,size_flatK,ak]
 let c':Array Value:=putCells id 0 F c
 have af:(L8 nm d l).length=l.length:=by simp only [L8,List.length_map];exact Hf _ _
 have h:((L8 nm d l).flatMap fun x=>(f x).cells).length=l.length*(k+1):=by rw [ON fun x _=>Q x,af]
 have am:∀ t,t<l.length*(k+1)→∃ v x,c'[t]? = some v∧((L8 nm d l).flatMap fun x=>(f x).cells)[t]? = some x∧x.one=true∧R w0 M w v x:=fun t C=>by
  have G:t / (k+1)<l.length:=Nat.div_lt_of_lt_mul (by rw [Nat.mul_comm];exact C)
  have N:t % (k+1)<k+1:=Nat.mod_lt _ (by omega)
  have H:t / (k+1)*(k+1)+t % (k+1)=t:=by rw [Nat.mul_comm];exact Nat.div_add_mod t (k+1)
  obtain ⟨v,x,e1,e2,e4,e5⟩:=cR _ (O _ G) _ N
  refine ⟨v,x,?_,?_,e4,e5⟩
  ·have o:t<c.size:=by omega
   simp only [c',putCells,Array.getElem?_mapIdx,Array.getElem?_eq_getElem o,Option.map_some,Nat.zero_add,Nat.zero_le,true_and,hF,Ae C,Nat.sub_zero,id_eq]
   simp only [F]
   rw [get_flatK _ _ _ _ (by rw [ak];exact C)]
   have J:t % (k+1)<(enc (D[t / (k+1)]!)).length:=by rw [hk];exact N
   rw [getElem!_pos (enc (D[t / (k+1)]!)) _ J,←List.getElem?_eq_getElem J,u _ (O _ G) _ N]
   exact e1
  ·have e6:=S0 (f:=fun x=>(f x).cells) (xs:=L8 nm d l) (fun x _=>Q x) (t / (k+1)) (by rw [af];exact G) (t % (k+1)) N
   rw [H] at e6
   rw [e6]
   have e7:(L8 nm d l)[t / (k+1)]'(by rw [af];exact G)=l[(D[t / (k+1)]! : Nat)]'(O _ G):=by
    simp only [L8,List.getElem_map]
    rw [show (Ic (fun i=>nm (l.getD i d)) l.length)[t / (k+1)]'(by rw [Hf];exact G)=(D[t / (k+1)]! : Nat) from au _ G]
    rw [List.getD_eq_getElem?_getD,List.getElem?_eq_getElem (O _ G),Option.getD_some]
   rw [e7]
   exact e2
 have ae:c'.size=c.size:=by simp [c',putCells]
 have n:(sortWorldK enc (k+1) w (M.blk rid) 0 m D os).heap=w.heap.modify (M.blk rid) (onCells (putCells id 0 F))++os:=rfl
 have aa:∀ b,b<w.heap.size→b≠M.blk rid→(sortWorldK enc (k+1) w (M.blk rid) 0 m D os).heap[b]? = w.heap[b]? := fun b hb ao=>by
  rw [n,Array.getElem?_append_left (by simpa using hb),Array.getElem?_modify,Af (fun q=>ao q.symm)]
 obtain ⟨x1,x2⟩:=ah.setVec (c':=c') (ty:=ty) (cs':=(L8 nm d l).flatMap fun x=>(f x).cells) (w':=sortWorldK enc (k+1) w (M.blk rid) 0 m D os) hid
  ⟨rfl,rfl,rfl,by rw [n];simp,fun b hb=>aa b (Nat.lt_of_lt_of_le hb ah.base_le) (by omega)⟩ aa
  (by rw [n,Array.getElem?_append_left (by simpa using Z),Array.getElem?_modify,Ae rfl,f8];rfl) (by rw [ae];exact f9) (by rw [h,ae];exact ax)
  (fun x hx=>by
   obtain ⟨t,C,rfl⟩:=List.mem_iff_getElem.1 hx
   rw [h] at C
   obtain ⟨v,y,_,e2,H,_⟩:=am t C
   rw [List.getElem?_eq_getElem (by rw [h];exact C)] at e2
   cases e2
   exact H)
  (fun t h1 h2=>by
   rw [h] at h2
   obtain ⟨v,y,e1,e2,_,e4⟩:=am t h2
   rw [List.getElem?_eq_getElem (by rw [h];exact h2)] at e2
   rw [Array.getElem?_eq_getElem h1] at e1
   cases e1;cases e2
   exact e4)
 exact ⟨.tuple #[],M,.tup [],_,rfl,⟨rfl,rfl⟩,x1,x2,.tup rfl (fun i h1 _=>absurd h1 (by simp))⟩
end
structure VOne (Rw rows:List RowA) (sz:Nat) (xs:List AV) (x:AV):Prop where
 pre:Rw <+: rows
 calm:∀ r∈rows.drop Rw.length,∀ y∈r.cells,∀ a b c,Under a b c y
 at_:(xs=[]∧x = .list [] .seed)∨∃ id ver,x = .vec id ver 0 xs.length∧0<xs.length∧Rw.length≤id∧rows[id]? = some (.vec ver sz (xs.flatMap AV.cells))
theorem VOne.none (Rw:List RowA) (sz:Nat):VOne Rw Rw sz [] (.list [] .seed):=⟨List.prefix_refl _,by simp,.inl ⟨rfl,rfl⟩⟩
theorem VOne.of_eq {Rw rows:List RowA} {sz:Nat} {xs ys:List AV} {x:AV} (h:VOne Rw rows sz xs x) (he:xs=ys):VOne Rw rows sz ys x:=he▸h
theorem VOne.len {Rw rows:List RowA} {sz:Nat} {xs:List AV} {x:AV} (h:VOne Rw rows sz xs x):Rw.length≤rows.length:=h.pre.length_le
theorem VOne.under {Rw rows:List RowA} {sz:Nat} {xs:List AV} {x:AV} (h:VOne Rw rows sz xs x) (nb nl:Nat):Under nb rows.length nl x:=by
 rcases h.at_ with ⟨_,rfl⟩ | ⟨id,ver,rfl,_,_,h3⟩
 ·exact .list (by simp) trivial
 ·exact .vec (Ag.1 h3).1
theorem VOne.cell {Rw rows:List RowA} {sz:Nat} {xs:List AV} {x:AV} (h:VOne Rw rows sz xs x):x.cells=[x]∧A4 x=true∧x.pubCell.pubCell=x.pubCell:=by
 rcases h.at_ with ⟨_,rfl⟩ | ⟨id,ver,rfl,_,_,h3⟩<;>exact ⟨rfl,rfl,rfl⟩
theorem VOne.append {P:Program} {t el:TypeId} {sz by8:Nat} {ag:Bool} {Rw rows:List RowA} {xs:List AV} {x y:AV} (h:VOne Rw rows sz xs x) (he:JX P t=some (el,sz,ag,by8)) (hz:(CW P el).isSome=true) (hs:0<sz)
  (hb:(xs.length+1)*by8≤140737488355328) (hb2:xs.length+1≤4611686018427387904) (hy:y.cells.length=sz∧A4 y=true) (hp:y.pub=y) (hu:∀ c∈y.cells,∀ a b d,Under a b d c) (hxs:∀ z∈xs,z.cells.length=sz) :
  ∃ x' rows',VOne Rw rows' sz (xs++[y]) x'∧∀ (B:List (List AV)) (L:List LoopA) (o2:Own),Bq P ⟨B,rows,L⟩ t x (.list [y] o2)=(True,x',⟨B,rows',L⟩):=by
 have g:=h.len
 have i:Cm P el sz by8 xs.length [y]=True:=by
  simp only [Cm,hs,hz,List.length_singleton,hb,hb2,true_and,List.mem_singleton,forall_eq,hy,and_self]
 rcases h.at_ with ⟨rfl,rfl⟩ | ⟨id,ver,rfl,h1,h2,h3⟩
 ·refine ⟨.vec rows.length 0 0 1,rows++[.vec 0 sz y.cells],⟨h.pre.trans (List.prefix_append _ _),fun r hr z hz' a b c=>?_,.inr ⟨rows.length,0,rfl,by simp,g,by simp⟩⟩,fun B L o2=>?_⟩
  ·rw [List.drop_append_of_le_length g] at hr
   rcases List.mem_append.1 hr with hr | hr
   ·exact h.calm r hr z hz' a b c
   ·simp only [List.mem_singleton] at hr;subst hr;exact hu z hz' a b c
  ·simp only [Bq,he,AX,Cc,List.length_singleton,List.length_nil,List.flatMap_cons,List.flatMap_nil,List.append_nil,hp]
   rw [show Cm P el sz by8 0 [y]=True from i]
   simp
 ·have f:=(Ag.1 h3).1
  have e:(xs.flatMap AV.cells).length=xs.length*sz:=ON hxs
  refine ⟨.vec id (ver+1) 0 (xs.length+1),rows.set id (.vec (ver+1) sz (xs.flatMap AV.cells++y.cells)),⟨JO h.pre h2 _,fun r hr z hz' a b c=>?_,.inr ⟨id,ver+1,by rw [List.length_append];rfl,by simp,h2,by simp [f,List.flatMap_append]⟩⟩,fun B L o2=>?_⟩
  ·rw [List.drop_set,Af (by omega)] at hr
   rcases List.mem_or_eq_of_mem_set hr with hr | rfl
   ·exact h.calm r hr z hz' a b c
   ·rcases List.mem_append.1 hz' with q | q
    ·exact h.calm (.vec ver sz (xs.flatMap AV.cells)) (by
      rw [List.mem_iff_getElem?]
      exact ⟨id-Rw.length,by rw [List.getElem?_drop,Nat.add_sub_cancel' h2];exact h3⟩) z q a b c
    ·exact hu z q a b c
  ·simp only [Bq,he,AX,Cc,List.length_singleton,List.flatMap_cons,List.flatMap_nil,List.append_nil,hp,EQ,h3,if_true]
   rw [i]
   simp only [e,true_and,Nat.le_refl,and_self,Prod.mk.injEq,true_and,List.take_of_length_le (Nat.le_of_eq e)]
section
variable {P:Program} {w0:World} {n:Nat} {e:Env} {st:St} {M0:Mem} {W0:World} {ro:Option Nat} {Q:AQ} {c:Code}
theorem tdV {B0 B bs X:List (List AV)} {Rw rows:List RowA} {L:List LoopA} {sz:Nat} {xs:List AV} {x:AV} (hN:M0.N=B0.length) (hNR:M0.NR=Rw.length) (hNL:M0.NL=L.length) (hc:Calm B0.length Rw.length L.length ⟨B,Rw,L⟩) (ho:VOne Rw rows sz xs x)
  (h:GE P w0 n M0 W0 ro c Q e ⟨B++bs,rows,L⟩) (hB:B.length=B0.length:=by first | rfl | simp only [List.length_set])
  (hbs:∀ cs∈bs,∀ x∈cs,Under (B0.length+bs.length) rows.length L.length x:=by (simp +decide only [go_sem,Nat.reduceAdd])<;>(try (repeat' apply Aa))<;>first | omega | assumption)
  (he:Lq (B0.length+bs.length) rows.length L.length e:=by (simp +decide only [go_sem,Nat.reduceAdd,Lq])<;>(try (repeat' apply Aa))<;>first | omega | assumption):GE P w0 n M0 W0 ro c Q e ⟨B++(bs++X),rows,L⟩:=by
 rw [←hB] at hN hc hbs he
 clear hB B0
 have i:=ho.len
 have d:St.cut ⟨B++(bs++X),rows,L⟩ (B.length+bs.length) rows.length L.length=⟨B++bs,rows,L⟩:=by
  simp only [St.cut,List.take_length,←List.append_assoc]
  rw [List.take_left' (by simp)]
 refine SX (B.length+bs.length) rows.length L.length (by simp) (Nat.le_refl _) (Nat.le_refl _) (by omega) (by omega) (by omega) ?_ he (by rw [d];exact h)
 rw [d]
 refine ⟨fun r hr x a=>?_,fun cs hcs x a=>?_,fun g b k x a f=>?_⟩
 ·obtain ⟨t,rfl⟩:=ho.pre
  rcases List.mem_append.1 hr with hr | hr
  ·exact CX (by omega) (by omega) (Nat.le_refl _) (hc.rows r hr x a)
  ·exact ho.calm r (by simpa using hr) x a _ _ _
 ·rcases List.mem_append.1 hcs with hcs | hcs
  ·exact CX (by omega) (by omega) (Nat.le_refl _) (hc.boxes cs hcs x a)
  ·exact hbs cs hcs x a
 ·exact CX (by omega) (by omega) (Nat.le_refl _) (hc.loops g b k x a f)
theorem Zbq {sz:Nat} {ys:List AV} (hy:∀ y∈ys,∃ cs,y = .agg cs∧cs.length=sz):O2 sz true (ys.flatMap AV.cells) 0 ys.length=ys:=by
 have b:∀ y∈ys,y.cells.length=sz:=fun y h=>by obtain ⟨cs,rfl,q⟩:=hy y h;exact q
 refine List.ext_getElem (by simp [O2]) (fun i c a=>?_)
 simp only [O2,List.getElem_map,List.getElem_range,Nat.zero_add,Ph,if_true]
 obtain ⟨cs,e,q⟩:=hy _ (List.getElem_mem a)
 rw [e]
 congr 1
 refine List.ext_getElem? fun j=>?_
 by_cases hj:j<sz
 ·rw [List.getElem?_take_of_lt hj,List.getElem?_drop,S0 b i a j hj,e];rfl
 ·rw [List.getElem?_eq_none (by simp;omega),List.getElem?_eq_none (by omega)]
end
end Go.Ev
namespace Go.Proofs
open Go.Shelf
def Tryz.laysSort_ren:Go.Shelf.Ren:=⟨fun | 6=>218 | 15=>237 | 14=>236 | 28=>257 | 29=>258 | 20=>249 | 21=>250 | 22=>251 | 23=>252 | 24=>253 | 25=>254 | 26=>255 | 27=>256 | 46=>263 | 47=>264 | 48=>265 | 49=>266 | 50=>267 | 57=>270 | n=>n,fun | 22=>44 | 24=>75 | 25=>155 | 3=>3 | 39=>180 | 0=>0 | 53=>220 | 55=>216 | 4=>4 | 46=>239 | 45=>238 | 50=>111 | 5=>5 | 9=>9 | 66=>249 | 70=>84 | 76=>254 | 77=>170 | n=>n,fun | n=>n⟩
theorem Tryz.laysSort:Go.Proofs.SlLaysF0.n6 Tryz.prog Tryz.laysSort_ren:={
 mixed:=by kernel_rfl
 f6:=⟨Tryz.f218.name,by decide,Tryz.func218.trans (congrArg some (by kernel_rfl))⟩
 f14:=⟨Tryz.f236.name,by decide,Tryz.func236.trans (congrArg some (by kernel_rfl))⟩
 f15:=Tryz.func237.trans (congrArg some (by kernel_rfl))
 f20:=⟨Tryz.f249.name,by decide,Tryz.func249.trans (congrArg some (by kernel_rfl))⟩
 f21:=⟨Tryz.f250.name,by decide,Tryz.func250.trans (congrArg some (by kernel_rfl))⟩
 f22:=⟨Tryz.f251.name,by decide,Tryz.func251.trans (congrArg some (by kernel_rfl))⟩
 f23:=⟨Tryz.f252.name,by decide,Tryz.func252.trans (congrArg some (by kernel_rfl))⟩
 f24:=⟨Tryz.f253.name,by decide,Tryz.func253.trans (congrArg some (by kernel_rfl))⟩
 f25:=⟨Tryz.f254.name,by decide,Tryz.func254.trans (congrArg some (by kernel_rfl))⟩
 f26:=⟨Tryz.f255.name,by decide,Tryz.func255.trans (congrArg some (by kernel_rfl))⟩
 f27:=⟨Tryz.f256.name,by decide,Tryz.func256.trans (congrArg some (by kernel_rfl))⟩
 f28:=Tryz.func257.trans (congrArg some (by kernel_rfl))
 f29:=Tryz.func258.trans (congrArg some (by kernel_rfl))
 f46:=⟨Tryz.f263.name,by decide,Tryz.func263.trans (congrArg some (by kernel_rfl))⟩
 f47:=Tryz.func264.trans (congrArg some (by kernel_rfl))
 f48:=Tryz.func265.trans (congrArg some (by kernel_rfl))
 f49:=⟨Tryz.f266.name,by decide,Tryz.func266.trans (congrArg some (by kernel_rfl))⟩
 f50:=⟨Tryz.f267.name,by decide,Tryz.func267.trans (congrArg some (by kernel_rfl))⟩
 f57:=⟨Tryz.f270.name,by decide,Tryz.func270.trans (congrArg some (by kernel_rfl))⟩
 t0:=Tryz.underlying0
 a0:=Tryz.isAgg0
 z0:=Tryz.sizeOf0
 v0:=Tryz.zeroValue0
 t3:=Tryz.underlying3
 a3:=Tryz.isAgg3
 z3:=Tryz.sizeOf3
 v3:=Tryz.zeroValue3
 t4:=Tryz.underlying4
 a4:=Tryz.isAgg4
 z4:=Tryz.sizeOf4
 v4:=Tryz.zeroValue4
 t5:=Tryz.underlying5
 a5:=Tryz.isAgg5
 z5:=Tryz.sizeOf5
 v5:=Tryz.zeroValue5
 t9:=Tryz.underlying9
 a9:=Tryz.isAgg9
 z9:=Tryz.sizeOf9
 v9:=Tryz.zeroValue9
 t22:=Tryz.underlying44
 a22:=Tryz.isAgg44
 z22:=Tryz.sizeOf44
 v22:=Tryz.zeroValue44
 t25:=Tryz.underlying155
 a25:=Tryz.isAgg155
 z25:=Tryz.sizeOf155
 v25:=Tryz.zeroValue155
 t39:=Tryz.underlying180
 a39:=Tryz.isAgg180
 z39:=Tryz.sizeOf180
 v39:=Tryz.zeroValue180
 t45:=Tryz.underlying238
 a45:=Tryz.isAgg238
 z45:=Tryz.sizeOf238
 v45:=Tryz.zeroValue238
 t46:=Tryz.underlying239
 a46:=Tryz.isAgg239
 z46:=Tryz.sizeOf239
 v46:=Tryz.zeroValue239
 t50:=Tryz.underlying111
 a50:=Tryz.isAgg111
 z50:=Tryz.sizeOf111
 v50:=Tryz.zeroValue111
 t53:=Tryz.underlying220
 a53:=Tryz.isAgg220
 z53:=Tryz.sizeOf220
 v53:=Tryz.zeroValue220
 t55:=Tryz.underlying216
 a55:=Tryz.isAgg216
 z55:=Tryz.sizeOf216
 v55:=Tryz.zeroValue216
 t66:=Tryz.underlying249
 a66:=Tryz.isAgg249
 z66:=Tryz.sizeOf249
 v66:=Tryz.zeroValue249
 t70:=Tryz.underlying84
 a70:=Tryz.isAgg84
 z70:=Tryz.sizeOf84
 v70:=Tryz.zeroValue84
 t76:=Tryz.underlying254
 a76:=Tryz.isAgg254
 z76:=Tryz.sizeOf254
 v76:=Tryz.zeroValue254
 t77:=Tryz.underlying170
 a77:=Tryz.isAgg170
 z77:=Tryz.sizeOf170
 v77:=Tryz.zeroValue170 }
end Go.Proofs
namespace Go.Proofs.YtgpmlelfkjfbiaaGreatDoor
open Go Go.RowKit Go.Ev Go.Shelf Go.Sort Go.Lib
theorem ZD (s s':ByteArray) (r r':List Value) (W:World) (h1:r.length=6) (h2:r'.length=6) (h3:∀ v∈r,v.oneCell'=true) (h4:∀ v∈r',v.oneCell'=true) :
  Calls Tryz.prog 219 #[.agg (.string s::r).toArray,.agg (.string s'::r').toArray] W fun e w'=>e = .returned (.int .i64 (Lib.compareBytes s.data.toList s'.data.toList))∧∃ q os',w'=grow (W.drewN q) os':=by
 have hcon:=fun a=>Tryz.strings_Compare s s' a
 change ∀ a,Calls Tryz.prog 141 _ _ _ at hcon
 generalize Lib.compareBytes s.data.toList s'.data.toList=z at hcon ⊢
 match r,h1 with
 | [a1,a2,a3,a4,a5,a6],_ =>
 match r',h2 with
 | [b1,b2,b3,b4,b5,b6],_ =>
 simp only [List.mem_cons,List.not_mem_nil,or_false,forall_eq_or_imp,forall_eq] at h3 h4
 go_enter Tryz.func219,Tryz.ntmps219
 go_wp2_with (go_at_call 141;refine (hcon _).mono ?_;rintro e w' ⟨rfl,rfl⟩)
 go_ret
 exact ⟨rfl,0,_,by rw [alloc_eq_grow,alloc_eq_grow,grow_grow];rfl⟩
def OM:String:=(Rows.schemaLeavesRow.laid.map (·.1)).getD 2 default
abbrev Pow10 (w:World):Prop:=Lib.TabIs Tryz.prog w OM .u64 Lib.pow10Tab
theorem Pow10.below {w0 w:World} (h:Pow10 w0) (hb:Below w0.heap.size w0 w):Pow10 w:=by
 unfold Pow10 Lib.TabIs World.var? at *
 cases hg:Tryz.prog.globalNamed OM with
 | none=>rw [hg] at h;cases h
 | some g =>
  rw [hg] at h
  simp only [Ab] at h ⊢
  cases hx:w0.heap[g]? with
  | none=>rw [hx] at h;cases h
  | some o =>
   rw [hb.block g (Array.getElem?_eq_some_iff.1 hx).1]
   exact h
theorem Ul (u:Nat):Lib.nDigits u≤u / 10+1:=by
 induction u using Nat.strongRecOn with
 | _ u ih =>
  by_cases h:u<10
  ·rw [Lib.nDigits_small h];omega
  ·rw [Lib.nDigits_big h]
   have:=ih (u / 10) (by omega)
   omega
theorem Zbn (n:Int) (h : -9223372036854775808≤n∧n≤9223372036854775807):(Lib.itoa n).length≤maxLen:=by
 unfold Lib.itoa maxLen
 split
 ·rw [List.length_cons,Lib.decDigits_length];have:=Ul n.natAbs;omega
 ·rw [Lib.decDigits_length];have:=Ul n.toNat;omega
theorem ZcV (w0:World) (B:List (List AV)) (Rw:List RowA) (L:List LoopA) (hP:Pow10 w0) (n:Int) (hn : -9223372036854775808≤n∧n≤9223372036854775807) :
  ACalls Tryz.prog w0 157 [.val (.int .i64 n)] ⟨B,Rw,L⟩ fun v s'=>v = .val (.string ⟨(Lib.itoa n).toArray⟩)∧s'=⟨B,Rw,L⟩ :=
 Ni (A9 Tryz.func157 rfl (by decide)) (by
  show decide ((Lib.itoa n).toArray.size≤maxLen)=true
  rw [List.size_toArray]
  exact Ad (Zbn n hn)) fun M w c f a=>by
  have:=Uk (us:=[.int .i64 n]) a
  subst this
  refine (Any.strconv_Itoa Tryz.laysM171 n hn.1 hn.2 w (hP.below f)).mono ?_
  rintro e g ⟨rfl,k,b,rfl⟩
  refine ⟨rfl,rfl,rfl,rfl,by simp [grow],fun i d=>?_⟩
  show (grow (w.drewN k) b).heap[i]? = w.heap[i]?
  rw [heap_grow_old (w.drewN k) b d]
  rfl
end Go.Proofs.YtgpmlelfkjfbiaaGreatDoor
namespace Go.Proofs.YtgpmlelfkjfbiaaGreatDoor
open Go Go.RowKit Go.Ev
def Jj (g:Int × ByteArray × Int × Ty × List Vl) (b:ByteArray):Bool :=
 DK g.2.1 b
theorem W6 (w0:World) (B:List (List AV)) (Rw:List RowA) (L:List LoopA) (a0:Int × ByteArray × Int × Ty × List Vl) (la1:Nat) (a1:ByteArray) (hla1:B[la1]? = some ([.val (.string a1)])) (r:Bool) (h:Jj a0 a1=r) :
  ACalls Tryz.prog w0 71 [.agg (.val (.int .i64 a0.1)::(.val (.string a0.2.1)::(.val (.int .i64 a0.2.2.1)::((a0.2.2.2.1.cs)++([.list (a0.2.2.2.2.map Bo) .none]))))),.box la1 0] ⟨B,Rw,L⟩ fun x st=>x = .val (.bool r)∧st=⟨B,Rw,L⟩:=by
 rw [Jj] at h
 refine hd [.tmp 3] Tryz.func71 Tryz.ntmps71 fun M0 W0 g e d a f c hs=>?_
 simp only [Au]
 have b:=(Ag.1 hla1).1
 have hs:=Aa (An hla1) hs
 refine rg [1,2] hs ?_
 refine rg [3] hs ?_
 exact rT h hs a c
theorem Vb (w0:World) (B:List (List AV)) (Rw:List RowA) (L:List LoopA) (a0:Int × ByteArray × Int × Ty × List Vl) (la1:Nat) (a1:ByteArray) (hla1:B[la1]? = some ([.val (.string a1)])) :
  ACalls Tryz.prog w0 71 [.agg (.val (.int .i64 a0.1)::(.val (.string a0.2.1)::(.val (.int .i64 a0.2.2.1)::((a0.2.2.2.1.cs)++([.list (a0.2.2.2.2.map Bo) .none]))))),.box la1 0] ⟨B,Rw,L⟩ fun x st=>x = .val (.bool (Jj a0 a1))∧st=⟨B,Rw,L⟩:=W6 w0 B Rw L a0 la1 a1 hla1 _ rfl
def KY (rec:Vl→Option Vl) (n:Nat) (b:Vl) (b2_k22_4:List Vl) (b2_k22_5:List (ByteArray × Vl)):Option Vl :=
 some (Vl.mk b.kind b.int b.scale b.text b2_k22_4 b2_k22_5)
def GY (rec:Vl→Option Vl) (n:Nat) (h:Vl):Nat→Int→(List Vl)→(List (ByteArray × Vl))→Option Vl
 | 0,_,_,_=>none
 | m+1,b,b2_l25_4,b2_l25_5 =>
  if decide (b<(h.fields.length:Int)) then
   (Cb h.fields b).bind fun g =>
   (rec g.2).bind fun q =>
   if (b2_l25_5.length+1)*104≤140737488355328∧b2_l25_5.length+1≤4611686018427387904 then
    if BV (b+1) then
     (GY rec n h m) (b+1) b2_l25_4 (b2_l25_5++([(g.1,q)]))
    else none
   else none
  else
   KY rec n h b2_l25_4 b2_l25_5
def Nx (rec:Vl→Option Vl) (n:Nat) (b:Vl) (b2_k5_4:List Vl):Option Vl :=
 GY rec n b n 0 b2_k5_4 ([])
def HI (rec:Vl→Option Vl) (n:Nat) (g:Vl):Nat→Int→(List Vl)→Option Vl
 | 0,_,_=>none
 | m+1,b,b2_l8_4 =>
  if decide (b<(g.list.length:Int)) then
   (Cb g.list b).bind fun q =>
   (rec q).bind fun h =>
   if (b2_l8_4.length+1)*88≤140737488355328∧b2_l8_4.length+1≤4611686018427387904 then
    if BV (b+1) then
     (HI rec n g m) (b+1) (b2_l8_4++([h]))
    else none
   else none
  else
   Nx rec n g b2_l8_4
def MG (rec:Vl→Option Vl) (n:Nat) (b:Vl):Option Vl :=
 HI rec n b n 0 ([])
def BN:Nat→Vl→Option Vl
 | 0,_=>none
 | n+1,b=>MG (BN n) n b
def QW (w0:World) (F:Vl→Option Vl):Prop:=∀ (B:List (List AV)) (Rw:List RowA) (L:List LoopA) (b:Vl) (r:Vl),F b=some r→ACalls Tryz.prog w0 66 [.agg (b.cs)] ⟨B,Rw,L⟩ fun x st=>x = .agg (r.cs)∧st=⟨B,Rw,L⟩
theorem Xu (w0:World) (rec:Vl→Option Vl) (ih:QW w0 rec) (n:Nat):QW w0 (MG rec n):=by
 intro B Rw L a0 r h
 rw [MG] at h
 refine hd [.cell 2 46] Tryz.func66 Tryz.ntmps66 fun M0 W0 hN C F z hu w hs=>?_
 simp only [Au]
 refine rg [1,2] hs ?_
 refine rg [1,2,3] hs ?_
 have hs:=Aa (Vl.cs_eqs a0) hs
 refine rg [1,2,3] hs ?_
 refine Av (fun e st=>∃ (i:List Vl) (l:Ev.Own),Ck e st B Rw L [(1,true,.box B.length 0),(2,true,.box (B.length+1) 0),(3,true,.box (B.length+2) 0)] [a0.cs,[.val (.int .i64 0),.val (.int .i64 0),.val (.int .i64 0),.val (.string ((⟨#[]⟩:ByteArray))),.list ([]) .full,.list ([]) .full],[.val (.int .i64 a0.kind),.val (.int .i64 a0.int),.val (.int .i64 a0.scale),.val (.string a0.text),.list (i.map Bo) l,.list ([]) .full]] [(6,i.length,l)] (Nx rec n a0 i=some r)) ?_ ?_
 ·intro K6 ap
  refine rg [1,2,3,12,13,14] hs ?_
  apply Ak
  refine AC (fun m e st=>∃ (x:Int) (d:List Vl) (o:Ev.Own),Ck e st B Rw L [(1,true,.box B.length 0),(2,true,.box (B.length+1) 0),(3,true,.box (B.length+2) 0),(12,true,.list (a0.list.map Bo) .none),(13,true,.val (.int .i64 (a0.list.length:Int))),(14,true,.val (.int .i64 x))] [a0.cs,[.val (.int .i64 0),.val (.int .i64 0),.val (.int .i64 0),.val (.string ((⟨#[]⟩:ByteArray))),.list ([]) .full,.list ([]) .full],[.val (.int .i64 a0.kind),.val (.int .i64 a0.int),.val (.int .i64 a0.scale),.val (.string a0.text),.list (d.map Bo) o,.list ([]) .full]] [(6,d.length,o)] (HI rec n a0 m x d=some r)) n ⟨0,([]),.full,([]),Rw,ef hs,ef hs,Owns.of_eq ((w).full 6 0) FN,h⟩ ?_
  rintro ml8 e st ⟨x,d,o,Xl8,Rl8,rfl,rfl,w,h⟩ Ul8 Vl8
  cases ml8 with
  | zero=>cases h
  | succ ml8 =>
  rw [HI] at h
  have D:=w.unders
  simp only [List.mem_cons,List.not_mem_nil,or_false,forall_eq_or_imp,forall_eq] at D
  refine td hN C F z w ?_
  refine rg [1,2,3,12,13,14,15] hs ?_
  apply Ah;intro K10 K
  refine AL h hs (fun hs h=>?_) (fun hs h=>?_)
  rotate_left
  ·refine sx [1,2,3] hs ap ?_
   exact ⟨d,o,([]),Rl8,ef hs,ef hs,Owns.of_eq (w) FN,h⟩
  refine sk [1,2,3,12,13,14] hs K ?_
  clear K
  apply Ah;intro K12 Q
  apply Ak
  obtain ⟨af,ae,h⟩:=bind_some h
  obtain ⟨ak,ar,V⟩:=AA ae
  have Z:=AB (f:=Bo) V
  have hs:=Aa Z hs
  refine rg [1,2,3,5,12,13,14] hs ?_
  obtain ⟨aw,ab,h⟩:=bind_some h
  obtain ⟨J,h⟩:=Aj h
  obtain ⟨ai,H,w,u⟩:=w.append (P:=Tryz.prog) U1 (by rw [Ou];rfl) (by decide) 1 J.1 J.2
  replace u:=fun (ys:List AV) B L o2=>u (d.map Bo) ys B L o2 FN
  replace u:=fun (y:AV) B L o2=>u [y] B L o2 FN ev
  try simp only [List.mem_singleton,List.mem_cons,List.not_mem_nil,or_false,forall_eq_or_imp,forall_eq,List.map_append,List.map_cons,List.map_nil,Hn,Hk,Ht,Hq,Hm,GG,Fh,Fj,Hj,DZ,DY,Fe,Fp,Fg] at u
  have hs:=Aa u hs
  refine dk 5 2 1 [1,2,3,12,13,14] hs Iw ?_
  refine Ai _ (ih _ _ _ af _ ab) (hv hs) ?_
  refine dn hs Q ?_
  clear Q
  obtain ⟨ay,h⟩:=Aj h
  refine rl [1,2,3,12,13,14] hs (fun e s=>Vl8 ml8 e s (Nat.lt_succ_self _)) ?_
  exact ⟨(x+1),(d++([aw])),ai,([af.cs]),H,ef hs,ef hs,Owns.of_eq (w) FN,h⟩
 ·clear h;rintro e st ⟨i,l,Xk5,Rk5,rfl,rfl,w,h⟩
  rw [Nx] at h
  have D:=w.unders
  simp only [List.mem_cons,List.not_mem_nil,or_false,forall_eq_or_imp,forall_eq] at D
  refine td hN C F z w ?_
  refine Av (fun e st=>∃ (j:List Vl) (k:List (ByteArray × Vl)) (p:Ev.Own) (q:Ev.Own),Ck e st B Rw L [(2,true,.box (B.length+1) 0),(3,true,.box (B.length+2) 0)] [a0.cs,[.val (.int .i64 0),.val (.int .i64 0),.val (.int .i64 0),.val (.string ((⟨#[]⟩:ByteArray))),.list ([]) .full,.list ([]) .full],[.val (.int .i64 a0.kind),.val (.int .i64 a0.int),.val (.int .i64 a0.scale),.val (.string a0.text),.list (j.map Bo) p,.list (k.map B9) q]] [(6,j.length,p),(7,k.length,q)] (KY rec n a0 j k=some r)) ?_ ?_
  ·intro K23 ag
   refine rg [2,3,27,28,29] hs ?_
   apply Ak
   refine AC (fun m e st=>∃ (t:Int) (b:List Vl) (a:List (ByteArray × Vl)) (c:Ev.Own) (g:Ev.Own),Ck e st B Rw L [(2,true,.box (B.length+1) 0),(3,true,.box (B.length+2) 0),(27,true,.list (a0.fields.map B9) .none),(28,true,.val (.int .i64 (a0.fields.length:Int))),(29,true,.val (.int .i64 t))] [a0.cs,[.val (.int .i64 0),.val (.int .i64 0),.val (.int .i64 0),.val (.string ((⟨#[]⟩:ByteArray))),.list ([]) .full,.list ([]) .full],[.val (.int .i64 a0.kind),.val (.int .i64 a0.int),.val (.int .i64 a0.scale),.val (.string a0.text),.list (b.map Bo) c,.list (a.map B9) g]] [(6,b.length,c),(7,a.length,g)] (GY rec n a0 m t b a=some r)) n ⟨0,i,([]),l,.full,([]),Rk5,ef hs,ef hs,Owns.of_eq (((w).full 7 0).swap (List.Perm.swap _ _ _)) FN,h⟩ ?_
   rintro ml25 e st ⟨t,b,a,c,g,Xl25,Rl25,rfl,rfl,w,h⟩ Ul25 Vl25
   cases ml25 with
   | zero=>cases h
   | succ ml25 =>
   rw [GY] at h
   have D:=w.unders
   simp only [List.mem_cons,List.not_mem_nil,or_false,forall_eq_or_imp,forall_eq] at D
   obtain ⟨av,ao⟩:=D
   refine td hN C F z w ?_
   refine rg [2,3,27,28,29,30] hs ?_
   apply Ah;intro K27 U
   refine AL h hs (fun hs h=>?_) (fun hs h=>?_)
   rotate_left
   ·refine sx [2,3] hs ag ?_
    exact ⟨b,a,c,g,([]),Rl25,ef hs,ef hs,Owns.of_eq (((w).swap (List.Perm.swap _ _ _)).swap (List.Perm.swap _ _ _)) FN,h⟩
   refine sk [2,3,27,28,29] hs U ?_
   clear U
   apply Ah;intro K29 N
   apply Ak
   obtain ⟨G,ad,h⟩:=bind_some h
   obtain ⟨aj,au,Y⟩:=AA ad
   have aa:=AB (f:=B9) Y
   have hs:=Aa aa hs
   refine rg [2,3,7,27,28,29] hs ?_
   obtain ⟨aq,ah,h⟩:=bind_some h
   obtain ⟨O,h⟩:=Aj h
   have w:=w.swap (List.Perm.swap _ _ _)
   obtain ⟨am,E,w,v⟩:=w.append (P:=Tryz.prog) Pl (by rw [Kv];rfl) (by decide) 1 O.1 O.2
   replace v:=fun (ys:List AV) B L o2=>v (a.map B9) ys B L o2 FN
   replace v:=fun (y:AV) B L o2=>v [y] B L o2 FN ev
   try simp only [List.mem_singleton,List.mem_cons,List.not_mem_nil,or_false,forall_eq_or_imp,forall_eq,List.map_append,List.map_cons,List.map_nil,Hn,Hk,Ht,Hq,Hm,GG,Fh,Fj,Hj,DZ,DY,Fe,Fp,Fg] at v
   have hs:=Aa v hs
   refine dk 9 2 1 [2,3,27,28,29] hs Iw ?_
   refine Ai _ (ih _ _ _ G.2 _ ah) (hv hs) ?_
   refine dn hs N ?_
   clear N
   obtain ⟨ax,h⟩:=Aj h
   refine rl [2,3,27,28,29] hs (fun e s=>Vl25 ml25 e s (Nat.lt_succ_self _)) ?_
   exact ⟨(t+1),b,(a++([(G.1,aq)])),c,am,([.val (.string G.1)::(G.2.cs)]),E,ef hs,ef hs,Owns.of_eq ((w).swap (List.Perm.swap _ _ _)) FN,h⟩
  ·clear h;rintro e st ⟨j,k,p,q,Xk22,Rk22,rfl,rfl,w,h⟩
   rw [KY] at h
   have D:=w.unders
   simp only [List.mem_cons,List.not_mem_nil,or_false,forall_eq_or_imp,forall_eq] at D
   obtain ⟨av,ao⟩:=D
   refine td hN C F z w ?_
   refine rg [2] hs ?_
   exact rt h hs z w
theorem GO (w0:World):∀ n:Nat,QW w0 (BN n)
 | 0=>fun _ _ _ _ _ h=>(nomatch h)
 | n+1=>Xu w0 (BN n) (GO w0 n) n
def Hw (rec:Ty→Option Ty) (n:Nat) (g:Int × ByteArray × Int × Ty × List Vl) (h:Ty) (b:List Vl):Option ((Int × ByteArray × Int × Ty × List Vl)) :=
 some ((g.1,g.2.1,g.2.2.1,h,b))
def DO (rec:Ty→Option Ty) (n:Nat) (h:Int × ByteArray × Int × Ty × List Vl) (y:Ty):Nat→(List Vl)→Int→Option ((Int × ByteArray × Int × Ty × List Vl))
 | 0,_,_=>none
 | m+1,g,b =>
  if decide (b<(h.2.2.2.2.length:Int)) then
   (Cb h.2.2.2.2 b).bind fun q =>
   (BN n q).bind fun s =>
   if (g.length+1)*88≤140737488355328∧g.length+1≤4611686018427387904 then
    if BV (b+1) then
     (DO rec n h y m) (g++([s])) (b+1)
    else none
   else none
  else
   Hw rec n h y g
def D2 (rec:Ty→Option Ty) (n:Nat) (b:Int × ByteArray × Int × Ty × List Vl):Option ((Int × ByteArray × Int × Ty × List Vl)) :=
 (rec b.2.2.2.1).bind fun g =>
 if 0≤(b.2.2.2.2.length:Int)∧(b.2.2.2.2.length:Int)*88≤140737488355328∧(b.2.2.2.2.length:Int)≤4611686018427387904 then
  DO rec n b g n ([]) 0
 else none
theorem ND (w0:World) (rec:Ty→Option Ty) (ih:∀ (B:List (List AV)) (Rw:List RowA) (L:List LoopA) (a0:Ty) (r:Ty) (h:rec a0=some r),ACalls Tryz.prog w0 57 [.agg (a0.cs)] ⟨B,Rw,L⟩ fun x st=>x = .agg (r.cs)∧st=⟨B,Rw,L⟩) (n:Nat) (B:List (List AV)) (Rw:List RowA) (L:List LoopA) (a0:Int × ByteArray × Int × Ty × List Vl) (r:(Int × ByteArray × Int × Ty × List Vl)) (h:D2 rec n a0=some r) :
  ACalls Tryz.prog w0 105 [.agg (.val (.int .i64 a0.1)::(.val (.string a0.2.1)::(.val (.int .i64 a0.2.2.1)::((a0.2.2.2.1.cs)++([.list (a0.2.2.2.2.map Bo) .none])))))] ⟨B,Rw,L⟩ fun x st=>x = .agg (.val (.int .i64 r.1)::(.val (.string r.2.1)::(.val (.int .i64 r.2.2.1)::((r.2.2.2.1.cs)++([.list (r.2.2.2.2.map Bo) .none])))))∧st=⟨B,Rw,L⟩:=by
 rw [D2] at h
 refine hd [.cell 2 54] Tryz.func105 Tryz.ntmps105 fun M0 W0 V z D k Z l hs=>?_
 simp only [Au]
 refine rg [1,2] hs ?_
 obtain ⟨j,K,h⟩:=bind_some h
 have hs:=Aa (Ty.cs_eqs a0.2.2.2.1) hs
 have hs:=Aa (Ty.cs_eqs j) hs
 refine rc 2 [1,2] hs ?_;intro K2 E
 refine Ai _ (ih _ _ _ a0.2.2.2.1 _ K) (hv hs) ?_
 refine ne hs E ?_
 clear E
 obtain ⟨Y,h⟩:=Aj h
 have l:=l.make 6 0
 refine rg [1,2,3] hs ?_
 refine Av (fun e st=>∃ (g:List Vl) (i:Ev.Own),Ck e st B Rw L [(1,true,.box B.length 0),(2,true,.box (B.length+1) 0),(3,true,.list (g.map Bo) i)] [[.val (.int .i64 a0.1),.val (.string a0.2.1),.val (.int .i64 a0.2.2.1),.val (.int .i64 j.kind),.val (.int .i64 j.min),.val (.int .i64 j.max),.val (.int .i64 j.scale),.list (j.words.map NI) .none,.list (j.elem.map Ia) .none,.list (j.fields.map Da) .none,.list (a0.2.2.2.2.map Bo) .none],[.val (.int .i64 0),.val (.string ((⟨#[]⟩:ByteArray))),.val (.int .i64 0),.val (.int .i64 0),.val (.int .i64 0),.val (.int .i64 0),.val (.int .i64 0),.list ([]) .full,.list ([]) .full,.list ([]) .full,.list ([]) .full]] [(6,g.length,i)] (Hw rec n a0 j g=some r)) ?_ ?_
 ·intro K9 G
  refine rg [1,2,3,15,16,17] hs ?_
  apply Ak
  refine AC (fun m e st=>∃ (a:List Vl) (c:Int) (b:Ev.Own),Ck e st B Rw L [(1,true,.box B.length 0),(2,true,.box (B.length+1) 0),(3,true,.list (a.map Bo) b),(15,true,.list (a0.2.2.2.2.map Bo) .none),(16,true,.val (.int .i64 (a0.2.2.2.2.length:Int))),(17,true,.val (.int .i64 c))] [[.val (.int .i64 a0.1),.val (.string a0.2.1),.val (.int .i64 a0.2.2.1),.val (.int .i64 j.kind),.val (.int .i64 j.min),.val (.int .i64 j.max),.val (.int .i64 j.scale),.list (j.words.map NI) .none,.list (j.elem.map Ia) .none,.list (j.fields.map Da) .none,.list (a0.2.2.2.2.map Bo) .none],[.val (.int .i64 0),.val (.string ((⟨#[]⟩:ByteArray))),.val (.int .i64 0),.val (.int .i64 0),.val (.int .i64 0),.val (.int .i64 0),.val (.int .i64 0),.list ([]) .full,.list ([]) .full,.list ([]) .full,.list ([]) .full]] [(6,a.length,b)] (DO rec n a0 j m a c=some r)) n ⟨([]),0,((.row Rw.length)),([]),((Rw++[.grow 0 6])),ef hs,ef hs,Owns.of_eq (l) FN,h⟩ ?_
  rintro ml11 e st ⟨a,c,b,Xl11,Rl11,rfl,rfl,l,h⟩ Ul11 Vl11
  cases ml11 with
  | zero=>cases h
  | succ ml11 =>
  rw [DO] at h
  have J:=l.unders
  simp only [List.mem_cons,List.not_mem_nil,or_false,forall_eq_or_imp,forall_eq] at J
  refine td V z D k l ?_
  refine rg [1,2,3,15,16,17,18] hs ?_
  apply Ah;intro K13 p
  refine AL h hs (fun hs h=>?_) (fun hs h=>?_)
  rotate_left
  ·refine sx [1,2,3] hs G ?_
   exact ⟨a,b,([]),Rl11,ef hs,ef hs,Owns.of_eq (l) FN,h⟩
  refine sk [1,2,3,15,16,17] hs p ?_
  clear p
  apply Ah;intro K15 q
  apply Ak
  obtain ⟨w,C,h⟩:=bind_some h
  obtain ⟨Q,H,u⟩:=AA C
  have v:=AB (f:=Bo) u
  have hs:=Aa v hs
  refine rg [1,2,3,5,15,16,17] hs ?_
  obtain ⟨O,F,h⟩:=bind_some h
  obtain ⟨t,h⟩:=Aj h
  obtain ⟨N,o,l,d⟩:=l.append (P:=Tryz.prog) U1 (by rw [Ou];rfl) (by decide) 1 t.1 t.2
  replace d:=fun (ys:List AV) B L o2=>d (a.map Bo) ys B L o2 FN
  replace d:=fun (y:AV) B L o2=>d [y] B L o2 FN ev
  try simp only [List.mem_singleton,List.mem_cons,List.not_mem_nil,or_false,forall_eq_or_imp,forall_eq,List.map_append,List.map_cons,List.map_nil,Hn,Hk,Ht,Hq,Hm,GG,Fh,Fj,Hj,DZ,DY,Fe,Fp,Fg] at d
  have hs:=Aa d hs
  refine rk 2 [1,2,3,15,16,17] hs ?_
  refine Ai _ (GO w0 n _ _ _ w _ F) (hv hs) ?_
  refine ne hs q ?_
  clear q
  obtain ⟨U,h⟩:=Aj h
  refine rl [1,2,3,15,16,17] hs (fun e s=>Vl11 ml11 e s (Nat.lt_succ_self _)) ?_
  exact ⟨(a++([O])),(c+1),N,([w.cs]),o,ef hs,ef hs,Owns.of_eq (l) FN,h⟩
 ·clear h;rintro e st ⟨g,i,Xk8,Rk8,rfl,rfl,l,h⟩
  rw [Hw] at h
  have J:=l.unders
  simp only [List.mem_cons,List.not_mem_nil,or_false,forall_eq_or_imp,forall_eq] at J
  refine td V z D k l ?_
  refine rg [1,2] hs ?_
  refine rg [2] hs ?_
  exact rt h hs k l
def KZ (rec:Ty→Option Ty) (n:Nat) (h:Ty) (b:List Ty) (g:List (Int × ByteArray × Int × Ty × List Vl)):Option Ty :=
 if h.words.length*16≤140737488355328 then
  some (Ty.mk h.kind h.min h.max h.scale h.words b g)
 else none
def GQ (rec:Ty→Option Ty) (n:Nat) (q:Ty):Nat→(List Ty)→(List (Int × ByteArray × Int × Ty × List Vl))→Int→Option Ty
 | 0,_,_,_=>none
 | m+1,h,g,b =>
  if decide (b<(q.fields.length:Int)) then
   (Cb q.fields b).bind fun y =>
   (D2 rec n y).bind fun s =>
   if (g.length+1)*160≤140737488355328∧g.length+1≤4611686018427387904 then
    if BV (b+1) then
     (GQ rec n q m) h (g++([s])) (b+1)
    else none
   else none
  else
   KZ rec n q h g
def MU (rec:Ty→Option Ty) (n:Nat) (g:Ty) (b:List Ty):Option Ty :=
 if 0≤(g.fields.length:Int)∧(g.fields.length:Int)*160≤140737488355328∧(g.fields.length:Int)≤4611686018427387904 then
  GQ rec n g n b ([]) 0
 else none
def HV (rec:Ty→Option Ty) (n:Nat) (h:Ty):Nat→(List Ty)→Int→Option Ty
 | 0,_,_=>none
 | m+1,g,b =>
  if decide (b<(h.elem.length:Int)) then
   (Cb h.elem b).bind fun s =>
   (rec s).bind fun q =>
   if (g.length+1)*104≤140737488355328∧g.length+1≤4611686018427387904 then
    if BV (b+1) then
     (HV rec n h m) (g++([q])) (b+1)
    else none
   else none
  else
   MU rec n h g
def OR (rec:Ty→Option Ty) (n:Nat) (b:Ty):Option Ty :=
 if 0≤(b.elem.length:Int)∧(b.elem.length:Int)*104≤140737488355328∧(b.elem.length:Int)≤4611686018427387904 then
  HV rec n b n ([]) 0
 else none
def G6:Nat→Ty→Option Ty
 | 0,_=>none
 | n+1,b=>OR (G6 n) n b
def Q4 (w0:World) (F:Ty→Option Ty):Prop:=∀ (B:List (List AV)) (Rw:List RowA) (L:List LoopA) (b:Ty) (r:Ty),F b=some r→ACalls Tryz.prog w0 57 [.agg (b.cs)] ⟨B,Rw,L⟩ fun x st=>x = .agg (r.cs)∧st=⟨B,Rw,L⟩
theorem Xm (w0:World) (rec:Ty→Option Ty) (ih:Q4 w0 rec) (n:Nat):Q4 w0 (OR rec n):=by
 intro B Rw L a0 r h
 rw [OR] at h
 refine hd [.cell 2 26] Tryz.func57 Tryz.ntmps57 fun M0 W0 hN D H v hu i hs=>?_
 simp only [Au]
 refine rg [1,2] hs ?_
 obtain ⟨a3,h⟩:=Aj h
 have i:=i.make 7 0
 refine rg [1,2,3] hs ?_
 refine Av (fun e st=>∃ (w:List Ty) (p:Ev.Own),Ck e st B Rw L [(1,true,.box B.length 0),(2,true,.box (B.length+1) 0),(3,true,.list (w.map Ia) p)] [a0.cs,[.val (.int .i64 0),.val (.int .i64 0),.val (.int .i64 0),.val (.int .i64 0),.list ([]) .full,.list ([]) .full,.list ([]) .full]] [(7,w.length,p)] (MU rec n a0 w=some r)) ?_ ?_
 ·intro K7 ak
  refine rg [1,2,3,14,15,16] hs ?_
  apply Ak
  refine AC (fun m e st=>∃ (d:List Ty) (q:Int) (t:Ev.Own),Ck e st B Rw L [(1,true,.box B.length 0),(2,true,.box (B.length+1) 0),(3,true,.list (d.map Ia) t),(14,true,.list (a0.elem.map Ia) .none),(15,true,.val (.int .i64 (a0.elem.length:Int))),(16,true,.val (.int .i64 q))] [a0.cs,[.val (.int .i64 0),.val (.int .i64 0),.val (.int .i64 0),.val (.int .i64 0),.list ([]) .full,.list ([]) .full,.list ([]) .full]] [(7,d.length,t)] (HV rec n a0 m d q=some r)) n ⟨([]),0,((.row Rw.length)),([]),((Rw++[.grow 0 7])),ef hs,ef hs,Owns.of_eq (i) FN,h⟩ ?_
  rintro ml9 e st ⟨d,q,t,Xl9,Rl9,rfl,rfl,i,h⟩ Ul9 Vl9
  cases ml9 with
  | zero=>cases h
  | succ ml9 =>
  rw [HV] at h
  have F:=i.unders
  simp only [List.mem_cons,List.not_mem_nil,or_false,forall_eq_or_imp,forall_eq] at F
  refine td hN D H v i ?_
  refine rg [1,2,3,14,15,16,17] hs ?_
  apply Ah;intro K11 J
  refine AL h hs (fun hs h=>?_) (fun hs h=>?_)
  rotate_left
  ·refine sx [1,2,3] hs ak ?_
   exact ⟨d,t,([]),Rl9,ef hs,ef hs,Owns.of_eq (i) FN,h⟩
  refine sk [1,2,3,14,15,16] hs J ?_
  clear J
  apply Ah;intro K13 U
  apply Ak
  obtain ⟨af,ag,h⟩:=bind_some h
  obtain ⟨aw,aq,Z⟩:=AA ag
  have Y:=AB (f:=Ia) Z
  have hs:=Aa Y hs
  refine rg [1,2,3,5,14,15,16] hs ?_
  obtain ⟨av,ai,h⟩:=bind_some h
  obtain ⟨V,h⟩:=Aj h
  obtain ⟨am,G,i,k⟩:=i.append (P:=Tryz.prog) Zcl (by rw [Yd];rfl) (by decide) 1 V.1 V.2
  replace k:=fun (ys:List AV) B L o2=>k (d.map Ia) ys B L o2 FN
  replace k:=fun (y:AV) B L o2=>k [y] B L o2 FN ev
  try simp only [List.mem_singleton,List.mem_cons,List.not_mem_nil,or_false,forall_eq_or_imp,forall_eq,List.map_append,List.map_cons,List.map_nil,Hn,Hk,Ht,Hq,Hm,GG,Fh,Fj,Hj,DZ,DY,Fe,Fp,Fg] at k
  have hs:=Aa k hs
  refine rk 2 [1,2,3,14,15,16] hs ?_
  refine Ai _ (ih _ _ _ af _ ai) (hv hs) ?_
  refine ne hs U ?_
  clear U
  obtain ⟨a1,h⟩:=Aj h
  refine rl [1,2,3,14,15,16] hs (fun e s=>Vl9 ml9 e s (Nat.lt_succ_self _)) ?_
  exact ⟨(d++([av])),(q+1),am,([af.cs]),G,ef hs,ef hs,Owns.of_eq (i) FN,h⟩
 ·clear h;rintro e st ⟨w,p,Xk6,Rk6,rfl,rfl,i,h⟩
  rw [MU] at h
  have F:=i.unders
  simp only [List.mem_cons,List.not_mem_nil,or_false,forall_eq_or_imp,forall_eq] at F
  refine td hN D H v i ?_
  obtain ⟨az,h⟩:=Aj h
  have i:=i.make 11 0
  refine rg [1,2,3,6] hs ?_
  refine Av (fun e st=>∃ (u:List Ty) (o:List (Int × ByteArray × Int × Ty × List Vl)) (x:Ev.Own) (z:Ev.Own),Ck e st B Rw L [(1,true,.box B.length 0),(2,true,.box (B.length+1) 0),(3,true,.list (u.map Ia) x),(6,true,.list (o.map Da) z)] [a0.cs,[.val (.int .i64 0),.val (.int .i64 0),.val (.int .i64 0),.val (.int .i64 0),.list ([]) .full,.list ([]) .full,.list ([]) .full]] [(7,u.length,x),(11,o.length,z)] (KZ rec n a0 u o=some r)) ?_ ?_
  ·intro K27 ah
   refine rg [1,2,3,6,31,32,33] hs ?_
   apply Ak
   refine AC (fun m e st=>∃ (c:List Ty) (a:List (Int × ByteArray × Int × Ty × List Vl)) (g:Int) (b:Ev.Own) (j:Ev.Own),Ck e st B Rw L [(1,true,.box B.length 0),(2,true,.box (B.length+1) 0),(3,true,.list (c.map Ia) b),(6,true,.list (a.map Da) j),(31,true,.list (a0.fields.map Da) .none),(32,true,.val (.int .i64 (a0.fields.length:Int))),(33,true,.val (.int .i64 g))] [a0.cs,[.val (.int .i64 0),.val (.int .i64 0),.val (.int .i64 0),.val (.int .i64 0),.list ([]) .full,.list ([]) .full,.list ([]) .full]] [(7,c.length,b),(11,a.length,j)] (GQ rec n a0 m c a g=some r)) n ⟨w,([]),0,p,((.row Rk6.length)),([]),((Rk6++[.grow 0 11])),ef hs,ef hs,Owns.of_eq ((i).swap (List.Perm.swap _ _ _)) FN,h⟩ ?_
   rintro ml29 e st ⟨c,a,g,b,j,Xl29,Rl29,rfl,rfl,i,h⟩ Ul29 Vl29
   cases ml29 with
   | zero=>cases h
   | succ ml29 =>
   rw [GQ] at h
   have F:=i.unders
   simp only [List.mem_cons,List.not_mem_nil,or_false,forall_eq_or_imp,forall_eq] at F
   obtain ⟨ax,au⟩:=F
   refine td hN D H v i ?_
   refine rg [1,2,3,6,31,32,33,34] hs ?_
   apply Ah;intro K31 O
   refine AL h hs (fun hs h=>?_) (fun hs h=>?_)
   rotate_left
   ·refine sx [1,2,3,6] hs ah ?_
    exact ⟨c,a,b,j,([]),Rl29,ef hs,ef hs,Owns.of_eq (((i).swap (List.Perm.swap _ _ _)).swap (List.Perm.swap _ _ _)) FN,h⟩
   refine sk [1,2,3,6,31,32,33] hs O ?_
   clear O
   apply Ah;intro K33 K
   apply Ak
   obtain ⟨C,ad,h⟩:=bind_some h
   obtain ⟨ar,ap,ab⟩:=AA ad
   have aa:=AB (f:=Da) ab
   have hs:=Aa aa hs
   refine rg [1,2,3,6,8,31,32,33] hs ?_
   obtain ⟨ay,aj,h⟩:=bind_some h
   obtain ⟨Q,h⟩:=Aj h
   have i:=i.swap (List.Perm.swap _ _ _)
   obtain ⟨ao,E,i,l⟩:=i.append (P:=Tryz.prog) Zg1 (by rw [Zck];rfl) (by decide) 1 Q.1 Q.2
   replace l:=fun (ys:List AV) B L o2=>l (a.map Da) ys B L o2 FN
   replace l:=fun (y:AV) B L o2=>l [y] B L o2 FN ev
   try simp only [List.mem_singleton,List.mem_cons,List.not_mem_nil,or_false,forall_eq_or_imp,forall_eq,List.map_append,List.map_cons,List.map_nil,Hn,Hk,Ht,Hq,Hm,GG,Fh,Fj,Hj,DZ,DY,Fe,Fp,Fg] at l
   have hs:=Aa l hs
   refine rk 2 [1,2,3,6,31,32,33] hs ?_
   refine Ai _ (ND w0 rec ih n _ _ _ C _ aj) (hv hs) ?_
   refine ne hs K ?_
   clear K
   obtain ⟨a2,h⟩:=Aj h
   refine rl [1,2,3,6,31,32,33] hs (fun e s=>Vl29 ml29 e s (Nat.lt_succ_self _)) ?_
   exact ⟨c,(a++([ay])),(g+1),b,ao,([.val (.int .i64 C.1)::(.val (.string C.2.1)::(.val (.int .i64 C.2.2.1)::((C.2.2.2.1.cs)++([.list (C.2.2.2.2.map Bo) .none]))))]),E,ef hs,ef hs,Owns.of_eq ((i).swap (List.Perm.swap _ _ _)) FN,h⟩
  ·clear h;rintro e st ⟨u,o,x,z,Xk26,Rk26,rfl,rfl,i,h⟩
   rw [KZ] at h
   have F:=i.unders
   simp only [List.mem_cons,List.not_mem_nil,or_false,forall_eq_or_imp,forall_eq] at F
   obtain ⟨ax,au⟩:=F
   refine td hN D H v i ?_
   obtain ⟨ae,h⟩:=Aj h
   have hs:=Aa (Ty.cs_eqs a0) hs
   refine rc 2 [1,2] hs ?_;intro K42 N
   refine Ai _ (PP w0 _ _ _ a0.words ae) (hv hs) ?_
   refine ne hs N ?_
   clear N
   refine rg [2] hs ?_
   exact rt h hs v i
theorem UX (w0:World):∀ n:Nat,Q4 w0 (G6 n)
 | 0=>fun _ _ _ _ _ h=>(nomatch h)
 | n+1=>Xm w0 (G6 n) (UX w0 n) n
def EP (n:Nat)  : Option Int :=
 some ((-1))
def AN (n:Nat) (q:List (Int × ByteArray × Int × Ty × List Vl)) (s:(Int × ByteArray × Int × Ty × List Vl)→Option Bool):Nat→Int→Option Int
 | 0,_=>none
 | m+1,b =>
  if decide (b<(q.length:Int)) then
   (Cb q b).bind fun g =>
   (s g).bind fun h =>
   if h then
    some (b)
   else
    if BV (b+1) then
     (AN n q s m) (b+1)
    else none
  else
   EP n 
def AW (n:Nat) (g:List (Int × ByteArray × Int × Ty × List Vl)) (b:(Int × ByteArray × Int × Ty × List Vl)→Option Bool):Option Int :=
 AN n g b n 0
theorem DC (w0:World) (n:Nat) (B:List (List AV)) (Rw:List RowA) (L:List LoopA) (a0:List (Int × ByteArray × Int × Ty × List Vl)) (fa1:FuncId) (ca1:List AV) (a1:(Int × ByteArray × Int × Ty × List Vl)→Option Bool) (ha1:∀ (x0:Int × ByteArray × Int × Ty × List Vl) r,a1 x0=some r→∀ B' rows,B <+: B'→Rw <+: rows→ACalls Tryz.prog w0 fa1 ([.agg (.val (.int .i64 x0.1)::(.val (.string x0.2.1)::(.val (.int .i64 x0.2.2.1)::((x0.2.2.2.1.cs)++([.list (x0.2.2.2.2.map Bo) .none])))))]++ca1) ⟨B',rows,L⟩ fun v s=>v = .val (.bool r)∧s=⟨B',rows,L⟩) (r:Int) (h:AW n a0 a1=some r) :
  ACalls Tryz.prog w0 127 [.list (a0.map Da) .none,.clo fa1 ca1] ⟨B,Rw,L⟩ fun x st=>x = .val (.int .i64 r)∧st=⟨B,Rw,L⟩:=by
 rw [AW] at h
 refine hd [.tmp 4] Tryz.func127 Tryz.ntmps127 fun M0 W0 C l q c E d hs=>?_
 simp only [Au]
 have a:=Ci (E (.clo fa1 ca1) (by simp))
 refine rg [0,1] hs ?_
 refine Av (fun e st=>Ck e st B Rw L [] [] [] (EP n  = some r)) ?_ ?_
 ·intro K4 y
  refine rg [0,1,7,8] hs ?_
  apply Ak
  refine AC (fun m e st=>∃ (b:Int),Ck e st B Rw L [(0,true,.list (a0.map Da) .none),(1,true,.clo fa1 ca1),(7,true,.val (.int .i64 (a0.length:Int))),(8,true,.val (.int .i64 b))] [] [] (AN n a0 a1 m b=some r)) n ⟨0,([]),Rw,ef hs,ef hs,d,h⟩ ?_
  rintro ml6 e st ⟨b,Xl6,Rl6,rfl,rfl,d,h⟩ Ul6 Vl6
  cases ml6 with
  | zero=>cases h
  | succ ml6 =>
  rw [AN] at h
  refine AP C l q rfl c d (I5 a d) (I5 a d) ?_
  refine rg [0,1,7,8,9] hs ?_
  apply Ah;intro K8 p
  refine AL h hs (fun hs h=>?_) (fun hs h=>?_)
  rotate_left
  ·refine sx [] hs y ?_
   exact ⟨([]),Rl6,ef hs,ef hs,d,h⟩
  refine sk [0,1,7,8] hs p ?_
  clear p
  apply Ah;intro K10 g
  apply Ak
  refine rg [0,1,5,7,8] hs ?_
  obtain ⟨z,t,h⟩:=bind_some h
  obtain ⟨w,u,k⟩:=AA t
  have j:=AB (f:=Da) k
  obtain ⟨F,o,h⟩:=bind_some h
  have hs:=Aa j hs
  refine rc 2 [0,1,5,7,8,16] hs ?_;intro K12 i
  refine F6 _ (ha1 z _ o _ _ px d.pre) (hv hs) ?_
  refine ne hs i ?_
  clear i
  refine AL h hs (fun hs h=>?_) (fun hs h=>?_)
  ·refine rg [4] hs ?_
   exact rt h hs c d
  refine sk [0,1,7,8] hs g ?_
  clear g
  obtain ⟨D,h⟩:=Aj h
  refine rl [0,1,7,8] hs (fun e s=>Vl6 ml6 e s (Nat.lt_succ_self _)) ?_
  exact ⟨(b+1),([]),Rl6,ef hs,ef hs,d,h⟩
 ·clear h;rintro e st ⟨Xk3,Rk3,rfl,rfl,d,h⟩
  rw [EP] at h
  refine AP C l q rfl c d (I5 a d) (I5 a d) ?_
  refine rg [4] hs ?_
  exact rt h hs c d
def Jp (n:Nat) (b:Ty) (s:(Int × ByteArray × Int × Ty × List Vl)→Option Bool):Option ((Int × ByteArray × Int × Ty × List Vl) × Bool) :=
 if (!(decide (b.kind=9)))&&(!(decide (b.kind=10))) then
  some (((0,(⟨#[]⟩:ByteArray),0,Ty.mk 0 0 0 0 ([]) ([]) ([]),[]),false))
 else
  (AW n b.fields s).bind fun q =>
  if decide (q<0) then
   some (((0,(⟨#[]⟩:ByteArray),0,Ty.mk 0 0 0 0 ([]) ([]) ([]),[]),false))
  else
   (Cb b.fields q).bind fun g =>
   (D2 (G6 n) n g).bind fun h =>
   some ((h,true))
theorem ZaX (w0:World) (n:Nat) (B:List (List AV)) (Rw:List RowA) (L:List LoopA) (a0:Ty) (fa1:FuncId) (ca1:List AV) (a1:(Int × ByteArray × Int × Ty × List Vl)→Option Bool) (ha1:∀ (x0:Int × ByteArray × Int × Ty × List Vl) r,a1 x0=some r→∀ B' rows,B <+: B'→Rw <+: rows→ACalls Tryz.prog w0 fa1 ([.agg (.val (.int .i64 x0.1)::(.val (.string x0.2.1)::(.val (.int .i64 x0.2.2.1)::((x0.2.2.2.1.cs)++([.list (x0.2.2.2.2.map Bo) .none])))))]++ca1) ⟨B',rows,L⟩ fun v s=>v = .val (.bool r)∧s=⟨B',rows,L⟩) (r:(Int × ByteArray × Int × Ty × List Vl) × Bool) (h:Jp n a0 a1=some r) :
  ACalls Tryz.prog w0 70 [.agg (a0.cs),.clo fa1 ca1] ⟨B,Rw,L⟩ fun x st=>x = .tup [.agg (.val (.int .i64 r.1.1)::(.val (.string r.1.2.1)::(.val (.int .i64 r.1.2.2.1)::((r.1.2.2.2.1.cs)++([.list (r.1.2.2.2.2.map Bo) .none]))))),.val (.bool r.2)]∧st=⟨B,Rw,L⟩:=by
 rw [Jp] at h
 refine hd [.cell 4 54,.tmp 5] Tryz.func70 Tryz.ntmps70 fun M0 W0 H y D a C m hs=>?_
 simp only [Au]
 have q:=Ci (C (.clo fa1 ca1) (by simp))
 refine rg [1,2,4] hs ?_
 apply Ah;intro K2 k
 refine rg [1,2,4,14] hs ?_
 refine AL h hs (fun hs h=>?_) (fun hs h=>?_)
 ·refine rg [4,5] hs ?_
  exact rt h hs a m
 refine sk [1,2,4] hs k ?_
 clear k
 obtain ⟨J,o,h⟩:=bind_some h
 refine rc 2 [2,4,6] hs ?_;intro K6 j
 refine Ai _ (DC w0 n _ _ _ a0.fields fa1 ca1 a1 (fun x0 r z u b G E=>ha1 x0 r z u b (List.IsPrefix.trans px G) (m.pre.trans E)) _ o) (hv hs) ?_
 refine ne hs j ?_
 clear j
 apply Ah;intro K8 i
 refine rg [2,4,6,21] hs ?_
 refine AL h hs (fun hs h=>?_) (fun hs h=>?_)
 ·refine rg [4,5] hs ?_
  exact rt h hs a m
 refine sk [2,4,6] hs i ?_
 clear i
 obtain ⟨w,l,h⟩:=bind_some h
 obtain ⟨t,p,e⟩:=AA l
 have d:=AB (f:=Da) e
 obtain ⟨F,g,h⟩:=bind_some h
 have hs:=Aa d hs
 refine rc 2 [4,5] hs ?_;intro K12 c
 refine Ai _ (ND w0 (G6 n) (UX w0 n) n _ _ _ w _ g) (hv hs) ?_
 refine ne hs c ?_
 clear c
 exact rt h hs a m
def IP (n:Nat) (q:Ty) (g:ByteArray):Option ((Int × ByteArray × Int × Ty × List Vl) × Bool) :=
 (Jp n q (fun (h:Int × ByteArray × Int × Ty × List Vl)=>some (Jj h g))).bind fun b =>
 some ((b.1,b.2))
theorem PN (w0:World) (n:Nat) (B:List (List AV)) (Rw:List RowA) (L:List LoopA) (a0:Ty) (a1:ByteArray) (r:(Int × ByteArray × Int × Ty × List Vl) × Bool) (h:IP n a0 a1=some r) :
  ACalls Tryz.prog w0 25 [.agg (a0.cs),.val (.string a1)] ⟨B,Rw,L⟩ fun x st=>x = .tup [.agg (.val (.int .i64 r.1.1)::(.val (.string r.1.2.1)::(.val (.int .i64 r.1.2.2.1)::((r.1.2.2.2.1.cs)++([.list (r.1.2.2.2.2.map Bo) .none]))))),.val (.bool r.2)]∧st=⟨B,Rw,L⟩:=by
 rw [IP] at h
 refine hd [.cell 4 54,.tmp 5] Tryz.func25 Tryz.ntmps25 fun M0 W0 k f e a j d hs=>?_
 simp only [Au]
 refine rg [2,3,4] hs ?_
 obtain ⟨l,hy3,h⟩:=bind_some h
 refine rc 2 [4,5] hs ?_;intro K2 b
 refine Ai _ (ZaX w0 n _ _ _ a0 71 [.box (B.length+1) 0] (fun (x0:Int × ByteArray × Int × Ty × List Vl)=>some (Jj x0 a1)) (fun x0 r hx i c hB' g=>by cases hx;exact Vb w0 _ _ _ x0 _ a1 (DI hB' ev)) _ hy3) (hv hs) ?_
 refine ne hs b ?_
 clear b
 exact rt h hs a d
end Go.Proofs.YtgpmlelfkjfbiaaGreatDoor
namespace Go.Ev
open Go Go.RowKit
def Mem.start:Mem:=⟨0,0,fun _=>0,fun _=>0,fun _=>0,fun _=>0,fun _=>0,fun _=>0,0,fun _=>0⟩
theorem Zbk (W:World):RelSt W Mem.start ⟨[],[],[]⟩ W where
 below := .refl _ _
 N:=rfl
 NR:=rfl
 top:=fun _ _=>rfl
 inj:=fun _ _ h=>absurd h (Nat.not_lt_zero _)
 box:=fun _ _ h=>by simp at h
 row:=fun _ _ h=>by simp at h
 rowinj:=fun _ _ h=>absurd h (Nat.not_lt_zero _)
 loop:=⟨rfl,fun _ _ h=>absurd h (Nat.not_lt_zero _),fun _ _ h=>by simp at h⟩
theorem SI {P:Program} {f:FuncId} {W:World} {vals:Array Value} {args:List AV} {r:Value} (h:ACalls P W f args ⟨[],[],[]⟩ fun v st=>v = .val r∧st=⟨[],[],[]⟩) (hr:RowR W Mem.start W vals args) :
  Calls P f vals W fun e w'=>e = .returned r∧Below W.heap.size W w' :=
 (h.2 Mem.start W vals (Zbk W) hr).mono fun en w' ⟨v,M',a,st,h1,⟨h2,_⟩,_,h4,h5⟩=>by
  subst h2
  have:=h5.val_inv.1
  subst this
  exact ⟨h1,h4.below⟩
theorem Zcf {W:World} {v u:Value} {x y:AV} (h:R W Mem.start W v x) (k:R W Mem.start W u y):RowR W Mem.start W #[v,u] [x,y]:=⟨rfl,fun i b a=>by
 have:i=0∨i=1:=by simp at a;omega
 rcases this with rfl | rfl
 ·exact h
 ·exact k⟩
end Go.Ev
namespace Go.Proofs.YtgpmlelfkjfbiaaGreatDoor
open Go Go.Shelf Go.ChangeShapes Go.WideShapes Go.ChangeAt Go.RowKit Go.Lib Go.Ev
open Go.ChangeMaps (open_string shut_string)
set_option maxRecDepth 100000
theorem ZeT:ownKnob Tryz.prog.godebug=none:=by kernel_rfl
def ZjF:DataW Unit→List Value
 | .lit (.int k z)=>[.int k z]
 | .agg l=>l.flatMap fun | .lit (.int k z)=>[.int k z] | _=>[]
 | _=>[]
def Zj5:DataW Unit→List Value
 | .agg l=>l.flatMap ZjF
 | _=>[]
noncomputable def QC (os:Os):World :=
 let w0:=World.holding Tryz.prog os ⟨#[],#[],[]⟩
 let put (h:Array Obj) (g:Nat) (d:DataW Unit):Array Obj:=h.modify g fun
  | .cells _ t frozen => .cells (Zj5 d).toArray t frozen
  | o=>o
 { w0 with heap:=put (put (put (put (put w0.heap 0 Rows.laid_unicode_utf8_first) 1 Rows.laid_unicode_utf8_acceptRanges) 3 Rows.laid_internal_strconv_uint64pow10) 4 Rows.laid_math_bits_deBruijn32tab) 5 Rows.laid_math_bits_deBruijn64tab }
theorem Xj (os:Os) (args:Array Value):laidMet Tryz.prog Rows.schemaLeavesRow.laid ((QC os).forCall (fun _ _=>0) ⟨#[],args,[]⟩).memory :=
 (LaidIn.of_run (l:=Rows.schemaLeavesRow.laid) [4,5,3,1,0] 8 (by kernel_rfl) (by kernel_rfl) (by kernel_rfl) (by kernel_rfl)).met
theorem UC {W:World} (h:Lib.VarReads Tryz.prog W OM Rows.laid_internal_strconv_uint64pow10):Pow10 W:=by
 obtain ⟨g,t,cs,b,p,f,d,c,a⟩:=h
 obtain rfl:=Option.some.inj ((show Tryz.prog.globalNamed OM=some 3 by kernel_rfl).symm.trans f)
 obtain rfl:=Option.some.inj ((show (Tryz.prog.globals[3]?).map (·.type)=some 247 by kernel_rfl).symm.trans d)
 have e:(Rows.laid_internal_strconv_uint64pow10:DataW Unit)=Lib.tabData .u64 Lib.pow10Tab:=by kernel_rfl
 rw [e] at a
 unfold Pow10 Lib.TabIs
 rw [c,←Lib.cells_of_tab (n:=20) (k := .u64) (zs:=Lib.pow10Tab) Tryz.underlying247 Tryz.underlying216 (by kernel_rfl) (by kernel_rfl) a]
theorem Zdp {W:World} (hL:laidMet Tryz.prog Rows.schemaLeavesRow.laid W):Lib.Utf8Tabs 0 1 W∧Pow10 W :=
 ⟨utf8Tabs_of_readsT (U8Types.of196 Tryz.laysValid) ⟨by kernel_rfl,by kernel_rfl,by kernel_rfl,by kernel_rfl,by kernel_rfl,by kernel_rfl,by kernel_rfl⟩ (Lib.laidMet.reads hL (.tail _ (.tail _ (.tail _ (.tail _ (.head _)))))) (Lib.laidMet.reads hL (.tail _ (.tail _ (.tail _ (.head _))))),
  UC (Lib.laidMet.reads hL (.tail _ (.tail _ (.head _))))⟩
set_option maxRecDepth 100000
mutual
def Vl.wf:Vl→Prop
 | .mk k i s t l f=>BV k∧BV i∧BV s∧t.size≤maxLen∧l.length≤maxLen∧f.length≤maxLen∧Zdt l∧Zdo f
def Zdt:List Vl→Prop
 | []=>True
 | v::r=>v.wf∧Zdt r
def Zdo:List (ByteArray × Vl)→Prop
 | []=>True
 | (n,v)::r=>n.size≤maxLen∧v.wf∧Zdo r
end
theorem XQ:∀ l,Zdt l↔∀ v∈l,v.wf
 | []=>by simp [Zdt]
 | v::r=>by simp [Zdt,XQ r]
theorem X5:∀ l,Zdo l↔∀ p∈l,p.1.size≤maxLen∧p.2.wf
 | []=>by simp [Zdo]
 | (n,v)::r=>by simp [Zdo,X5 r,and_assoc]
mutual
def Ty.wf:Ty→Prop
 | .mk k lo hi s w e f=>BV k∧BV lo∧BV hi∧BV s∧(∀ x∈w,x.size≤maxLen)∧w.length≤maxLen∧e.length≤maxLen∧f.length≤maxLen∧Zcx e∧Yn f
def Zcx:List Ty→Prop
 | []=>True
 | v::r=>v.wf∧Zcx r
def Yn:List (Int × ByteArray × Int × Ty × List Vl)→Prop
 | []=>True
 | (n,s,d,t,l)::r=>(BV n∧s.size≤maxLen∧BV d∧t.wf∧l.length≤maxLen∧∀ v∈l,v.wf)∧Yn r
end
theorem Yx:∀ l,Zcx l↔∀ v∈l,v.wf
 | []=>by simp [Zcx]
 | v::r=>by simp [Zcx,Yx r]
theorem V2:∀ l,Yn l↔∀ p∈l,BV p.1∧p.2.1.size≤maxLen∧BV p.2.2.1∧p.2.2.2.1.wf∧p.2.2.2.2.length≤maxLen∧∀ v∈p.2.2.2.2,v.wf
 | []=>by simp [Yn]
 | (n,s,d,t,l)::r=>by simp [Yn,V2 r]
mutual
def Vl.bulk:Vl→Nat
 | .mk _ _ _ t l f=>1+t.size+HM l+OA f
def HM:List Vl→Nat
 | []=>0
 | v::r=>v.bulk+HM r
def OA:List (ByteArray × Vl)→Nat
 | []=>0
 | (n,v)::r=>n.size+v.bulk+OA r
end
def MR:List ByteArray→Nat
 | []=>0
 | w::r=>w.size+1+MR r
mutual
def Ty.bulk:Ty→Nat
 | .mk _ _ _ _ w e f=>1+MR w+NU e+LD f
def NU:List Ty→Nat
 | []=>0
 | v::r=>v.bulk+NU r
def LD:List (Int × ByteArray × Int × Ty × List Vl)→Nat
 | []=>0
 | (_,n,_,t,l)::r=>n.size+t.bulk+HM l+LD r
end
theorem P6:∀ l,HM l=(l.map Vl.bulk).sum
 | []=>rfl
 | v::r=>by rw [HM,P6 r];rfl
theorem Tv:∀ l,OA l=(l.map fun p=>p.1.size+p.2.bulk).sum
 | []=>rfl
 | (n,v)::r=>by rw [OA,Tv r];rfl
theorem TY:∀ l,MR l=(l.map fun w=>w.size+1).sum
 | []=>rfl
 | v::r=>by rw [MR,TY r];rfl
theorem S7:∀ l,NU l=(l.map Ty.bulk).sum
 | []=>rfl
 | v::r=>by rw [NU,S7 r];rfl
theorem Sz:∀ l,LD l=(l.map fun p=>p.2.1.size+p.2.2.2.1.bulk+HM p.2.2.2.2).sum
 | []=>rfl
 | (a,n,b,t,l)::r=>by rw [LD,Sz r];rfl
def Part.wf (p:Part):Prop:=BV p.kind∧BV p.index∧p.name.size≤maxLen
def Sch.wf (s:Sch):Prop:=s.name.size≤maxLen∧BV s.version∧s.type.wf
section
variable {H:Type} {enc:TypeId × Value→H} {W:World}
def RC (W:World) (cs:List Value) (xs:List AV):Prop:=cs.length=xs.length∧∀ i (h1:i<cs.length) (h2:i<xs.length),R W Mem.start W cs[i] xs[i]
theorem RC.nil:RC W [] []:=⟨rfl,fun i a=>absurd a (by simp)⟩
theorem RC.cons {v:Value} {x:AV} {cs:List Value} {xs:List AV} (h:R W Mem.start W v x) (k:RC W cs xs):RC W (v::cs) (x::xs):=⟨by simp [k.1],fun i b a=>by
 cases i with
 | zero=>exact h
 | succ i=>simpa using k.2 i (by simpa using b) (by simpa using a)⟩
theorem RC.app {cs ds:List Value} {xs ys:List AV} (h:RC W cs xs) (k:RC W ds ys):RC W (cs++ds) (xs++ys):=by
 refine ⟨by simp [h.1,k.1],fun i b a=>?_⟩
 by_cases c:i<cs.length
 ·rw [List.getElem_append_left c,List.getElem_append_left (h.1▸c)];exact h.2 i c _
 ·rw [List.getElem_append_right (Nat.le_of_not_lt c),List.getElem_append_right (h.1▸Nat.le_of_not_lt c)]
  simp only [h.1]
  exact k.2 _ (by have:=h.1;rw [List.length_append] at b;omega) (by have:=h.1;rw [List.length_append] at a;omega)
theorem RC.agg {cs:List Value} {xs:List AV} (h:RC W cs xs) (h1:∀ x∈xs,x.one=true):R W Mem.start W (.agg cs.toArray) (.agg xs) := .agg (by simpa using h.1) h1 (fun i a b=>by simpa using h.2 i (by simpa using a) b)
noncomputable abbrev Td (enc:TypeId × Value→H) (W:World) (n:Nat) (t:TypeId) (cs:List Value):Option (DataW H × List MemPlace):=DataW.trod enc Tryz.prog W 0 (fun _=>true) true n t cs
theorem QU (d:DataW H):1≤Rows.uptoBulk d:=by
 cases d with
 | lit l=>cases l<;>simp [Rows.uptoBulk]
 | _=>simp [Rows.uptoBulk]
theorem VN {α:Type} (m:α→Nat):∀ (l:List α) (es:List (DataW H × List MemPlace)),l.length=es.length→(∀ i (h1:i<l.length) (h2:i<es.length),m l[i]≤Rows.uptoBulk es[i].1)→(l.map m).sum≤Rows.uptoBulkAll (es.map (·.1))
 | [],_,_,_=>by simp
 | y::r,[],h,_=>by simp at h
 | y::r,e::es,h,k=>by
  have a:=k 0 (by simp) (by simp)
  have:=VN m r es (by simpa using h) (fun i h1 h2=>by have:=k (i+1) (by simpa using h1) (by simpa using h2);simpa using this)
  simp only [List.map_cons,List.sum_cons,Rows.uptoBulkAll,List.getElem_cons_zero] at a ⊢
  omega
theorem M5 {n:Nat} {cs:List Value} {x:DataW H × List MemPlace} (h:Td enc W n 3 cs=some x):∃ z,BV z∧cs=[.int .i64 z]:=by
 obtain ⟨z,rfl,_,a⟩:=DataW.trod_int Tryz.underlying3 h
 refine ⟨z,?_,rfl⟩
 simp [Lit.wf,IntKind.min,IntKind.max,IntKind.signed,IntKind.bits] at a
 unfold BV
 omega
theorem WO {n:Nat} {cs:List Value} {x:DataW H × List MemPlace} (h:Td enc W n 9 cs=some x):∃ s:ByteArray,s.size≤maxLen∧cs=[.string s]∧s.size+1≤Rows.uptoBulk x.1:=by
 obtain ⟨s,rfl,rfl,a⟩:=DataW.trod_string Tryz.underlying9 h
 exact ⟨s,a,rfl,by simp [Rows.uptoBulk]⟩
theorem L1 {α:Type} (f:α→AV) (p:α→Prop) (m:α→Nat) {t e:TypeId} {sz:Nat} (ht:Tryz.prog.underlying t=some (.slice e)) (hc:Tryz.prog.cellsOf e=sz) (hsz:0<sz) {n:Nat}
  (H0:∀ cs x,Td enc W n e cs=some x→∃ y u,p y∧u.cells.toList=cs∧R W Mem.start W u (f y)∧m y≤Rows.uptoBulk x.1) {cs:List Value} {x:DataW H × List MemPlace} (h:Td enc W (n+1) t cs=some x) :
  ∃ (l:List α) (v:Value),(∀ y∈l,p y)∧l.length≤maxLen∧cs=[v]∧R W Mem.start W v (.list (l.map f) .none)∧(l.map m).sum+1≤Rows.uptoBulk x.1:=by
 rcases DataW.trod_slice ht h with ⟨rfl,_⟩ | ⟨a,len,cap,elems,rest,n',hn,rfl,rfl,hb,hl,hm,hlen,hel,hsp,_⟩
 ·exact ⟨[],_,by simp,by simp,rfl,.nil (fun id=>by simp),by simpa using QU x.1⟩
 ·cases hn
  by_cases hcap:cap=0
  ·subst hcap
   obtain rfl:len=0:=by omega
   exact ⟨[],_,by simp,by simp,rfl,.emp (fun id=>by simp),by simpa using QU _⟩
  have hspot:a.spot=none:=by
   have get:∀ (c:DataW H × List MemPlace) (r:List Value→Option (DataW H × List MemPlace)),(W.cells? 0 (a.add (0*Tryz.prog.cellsOf e)) (Tryz.prog.cellsOf e)).bind r=some c→a.spot=none:=fun c r hr=>by
    obtain ⟨K,F,_⟩:=Option.bind_eq_some_iff.1 hr
    obtain ⟨_,D,E⟩:=World.cells?_some F
    have h4:=E 0 (by omega)
    rw [List.getElem?_eq_getElem (by omega)] at h4
    have Z:(a.add (0*Tryz.prog.cellsOf e)).add 0=a:=by simp [Addr.add]
    rw [Z] at h4
    unfold World.cell? at h4
    split at h4
    ·split at h4
     ·cases h4
     ·rename_i q;simpa using q
    ·cases h4
   by_cases h0:0<len
   ·have:=hel 0 h0
    rw [List.getElem?_eq_getElem (by omega)] at this
    exact get _ _ this
   ·obtain ⟨F,D⟩:=hsp rfl
    have:=D 0 (by omega)
    rw [List.getElem?_eq_getElem (by omega)] at this
    obtain rfl:len=0:=by omega
    exact get _ _ this
  obtain ⟨b,off,sp⟩:=a
  simp only at hspot
  subst hspot
  have C:∀ i,i<len→∃ y u,p y∧R W Mem.start W u (f y)∧(∀ h:i<elems.length,m y≤Rows.uptoBulk elems[i].1)∧u.cells.size=sz∧∀ j,j<sz→W.cell? ⟨b,off+i*sz+j,none⟩=u.cells[j]? := fun i k=>by
   have F:=hel i k
   rw [List.getElem?_eq_getElem (by omega)] at F
   obtain ⟨K,D,E⟩:=Option.bind_eq_some_iff.1 F
   obtain ⟨y,u,h4,U,h6,N⟩:=H0 _ _ E
   obtain ⟨_,V,Y⟩:=World.cells?_some D
   rw [hc] at V Y
   refine ⟨y,u,h4,h6,fun _=>N,by rw [←V,←U,Array.length_toList],fun j G=>?_⟩
   have:=Y j G
   rw [←U,Array.getElem?_toList] at this
   rw [←this]
   congr 1
   have Q:∀ (o m:Nat),(⟨b,o,none⟩:Addr).add m=⟨b,o+m,none⟩:=fun o m=>by unfold Addr.add;split<;>simp_all
   rw [Q,Q]
  classical
  let y:Nat→Option (α × Value):=fun i=>if k:i<len then some (Classical.choose (C i k),Classical.choose (Classical.choose_spec (C i k))) else none
  have O:len=0∨Nonempty (α × Value):=by
   by_cases h0:0<len
   ·obtain ⟨z,u,_⟩:=C 0 h0;exact .inr ⟨(z,u)⟩
   ·exact .inl (by omega)
  rcases O with h0 | ⟨⟨d⟩⟩
  ·subst h0
   exact ⟨[],_,by simp,by simp,rfl,.list (xs:=[]) 0 (fun _=>undef) (Nat.zero_le _) hm (fun i k=>absurd k (by simp)) (fun i k=>absurd k (by simp)) trivial,by simpa using QU _⟩
  ·let g:Nat→α × Value:=fun i=>if k:i<len then (Classical.choose (C i k),Classical.choose (Classical.choose_spec (C i k))) else d
   have J:∀ i,i<len→p (g i).1∧R W Mem.start W (g i).2 (f (g i).1)∧(∀ h:i<elems.length,m (g i).1≤Rows.uptoBulk elems[i].1)∧(g i).2.cells.size=sz∧∀ j,j<sz→W.cell? ⟨b,off+i*sz+j,none⟩=(g i).2.cells[j]? := fun i k=>by
    have:=Classical.choose_spec (Classical.choose_spec (C i k))
    simp only [g,dif_pos k]
    exact this
   have s:(((List.range len).map fun i=>(g i).1).map f).length=len:=by simp
   refine ⟨(List.range len).map fun i=>(g i).1,.slice (some ⟨b,off,none⟩) len cap,fun z hz=>?_,by simp;omega,rfl,?_,?_⟩
   ·obtain ⟨i,k,rfl⟩:=List.mem_map.1 hz
    exact (J i (by simpa using k)).1
   ·have:=Ev.R.list (w0:=W) (M:=Ev.Mem.start) (w:=W) (b:=b) (off:=off) (cap:=cap) (xs:=((List.range len).map fun i=>(g i).1).map f) (o := .none) sz (fun i=>(g i).2) (by rw [s];exact hl) hm
     (fun i k=>by
      rw [s] at k
      obtain ⟨_,_,_,E,h4⟩:=J i k
      refine ⟨E,fun j G=>⟨.inl ?_,h4 j G⟩⟩
      have:=h4 j G
      rw [Array.getElem?_eq_getElem (by rw [E];exact G)] at this
      exact World.block_lt_of_cell? W _ this) (fun i k=>by
      rw [s] at k
      simp only [List.getElem_map,List.getElem_range]
      exact (J i k).2.1) trivial
    rw [s] at this
    exact this
   ·have:=VN m ((List.range len).map fun i=>(g i).1) elems (by simp;omega) (fun i F D=>by
     simp only [List.getElem_map,List.getElem_range]
     exact (J i (by omega)).2.2.1 D)
    simp only [Rows.uptoBulk]
    omega
theorem Vl.ones (v:Vl):∀ x∈v.cs,x.one=true:=by
 cases v;intro x hx
 simp only [Vl.cs,List.mem_cons,List.not_mem_nil,or_false] at hx
 rcases hx with rfl | rfl | rfl | rfl | rfl | rfl<;>rfl
theorem Ty.ones (v:Ty):∀ x∈v.cs,x.one=true:=by
 cases v;intro x hx
 simp only [Ty.cs,List.mem_cons,List.not_mem_nil,or_false] at hx
 rcases hx with rfl | rfl | rfl | rfl | rfl | rfl | rfl<;>rfl
theorem Xf:∀ (n:Nat) (cs:List Value) (x:DataW H × List MemPlace),Td enc W n 46 cs=some x→∃ v:Vl,v.wf∧RC W cs v.cs∧v.bulk≤Rows.uptoBulk x.1
 | 0,cs,x,h=>by simp [Td,DataW.trod] at h
 | n+1,cs,x,h=>by
  obtain ⟨xs,O,hn,rfl,e,hx,a⟩:=DataW.trod_struct Tryz.underlying46 h
  cases hn
  have u:cs.length=6:=e.trans (by kernel_rfl)
  have C:xs.length=6:=hx
  match cs,u,xs,C,a with
  | [c0,c1,c2,c3,c4,c5],_,[y0,y1,y2,y3,y4,y5],_,a =>
  have f0:_=some y0:=a 0 _ rfl;have Y:_=some y1:=a 1 _ rfl;have N:_=some y2:=a 2 _ rfl;have Z:_=some y3:=a 3 _ rfl;have E:_=some y4:=a 4 _ rfl;have V:_=some y5:=a 5 _ rfl
  obtain ⟨k,Q,ek⟩:=M5 f0
  obtain ⟨i,U,ei⟩:=M5 Y
  obtain ⟨s,hs,es⟩:=M5 N
  obtain ⟨t,G,et,bt⟩:=WO Z
  cases n with
  | zero=>simp [DataW.trod] at E
  | succ n =>
  obtain ⟨l,vl,m,z,el,f,bl⟩:=L1 Bo Vl.wf Vl.bulk Tryz.underlying43 (sz:=6) (by kernel_rfl) (by omega) (fun cs x h=>by
   obtain ⟨v,hv,b,K⟩:=Xf n cs x h
   exact ⟨v,.agg cs.toArray,hv,by simp [Value.cells],b.agg v.ones,K⟩) E
  obtain ⟨J,vf,r,w,ef,D,bf⟩:=L1 B9 (fun p=>p.1.size≤maxLen∧p.2.wf) (fun p=>p.1.size+p.2.bulk) Tryz.underlying44 (sz:=7) (by kernel_rfl) (by omega) (fun cs x h=>by
   cases n with
   | zero=>simp [DataW.trod] at h
   | succ n =>
   obtain ⟨F,O,hn,rfl,e,hx,a⟩:=DataW.trod_struct Tryz.underlying75 h
   cases hn
   have g:cs.length=7:=e.trans (by kernel_rfl)
   have q:F.length=2:=hx
   match F,q,a with
   | [w0,w1],_,a =>
   have q0:_=some w0:=a 0 _ rfl;have q1:_=some w1:=a 1 _ rfl
   obtain ⟨nm,c,en,bn⟩:=WO q0
   obtain ⟨v,hv,b,K⟩:=Xf n _ _ q1
   have e2:Tryz.prog.cellsOf 46=6:=by kernel_rfl
   have e3:Tryz.prog.cellsOf 9=1:=by kernel_rfl
   simp only [List.getElem_toArray,List.getElem_cons_zero,List.getElem_cons_succ,e2,e3] at en b
   match cs,g with
   | [c0,c1,c2,c3,c4,c5,c6],_ =>
   simp only [List.drop_zero,List.take_succ_cons,List.take_zero,List.cons.injEq,and_true,List.drop_succ_cons] at en b
   subst en
   refine ⟨(nm,v),.agg #[.string nm,c1,c2,c3,c4,c5,c6],⟨c,hv⟩,rfl,?_,by simp only [List.map_cons,List.map_nil,Rows.uptoBulk,Rows.uptoBulkAll];omega⟩
   exact RC.agg (cs:=[.string nm,c1,c2,c3,c4,c5,c6]) (.cons (.flat (Ad c)) b) (fun x hx=>by
    rcases List.mem_cons.1 hx with rfl | hx
    ·rfl
    ·exact v.ones x hx)) V
  have j:Tryz.prog.cellsOf 3=1:=by kernel_rfl
  have y:Tryz.prog.cellsOf 9=1:=by kernel_rfl
  have o:Tryz.prog.cellsOf 43=1:=by kernel_rfl
  have d:Tryz.prog.cellsOf 44=1:=by kernel_rfl
  simp only [List.getElem_toArray,List.getElem_cons_zero,List.getElem_cons_succ,j,y,o,d,List.drop_zero,List.take_succ_cons,List.take_zero,List.cons.injEq,and_true,List.drop_succ_cons] at ek ei es et el ef
  subst ek ei es et el ef
  refine ⟨.mk k i s t l J,?_,?_,by simp only [List.map_cons,List.map_nil,Rows.uptoBulk,Rows.uptoBulkAll,Vl.bulk,P6,Tv];omega⟩
  ·unfold Vl.wf
   exact ⟨Q,U,hs,G,z,w,(XQ l).2 m,(X5 J).2 r⟩
  ·rw [Vl.cs,TC,YM]
   exact .cons (.flat rfl) (.cons (.flat rfl) (.cons (.flat rfl) (.cons (.flat (Ad G)) (.cons f (.cons D .nil)))))
theorem ZM:∀ (n:Nat) (cs:List Value) (x:DataW H × List MemPlace),Td enc W n 26 cs=some x→∃ v:Ty,v.wf∧RC W cs v.cs∧v.bulk≤Rows.uptoBulk x.1
 | 0,cs,x,h=>by simp [Td,DataW.trod] at h
 | n+1,cs,x,h=>by
  obtain ⟨xs,n',hn,rfl,l,hx,a⟩:=DataW.trod_struct Tryz.underlying26 h
  cases hn
  have t:cs.length=7:=l.trans (by kernel_rfl)
  have K:xs.length=7:=hx
  match cs,t,xs,K,a with
  | [c0,c1,c2,c3,c4,c5,c6],_,[y0,y1,y2,y3,y4,y5,y6],_,a =>
  have f0:_=some y0:=a 0 _ rfl;have f1:_=some y1:=a 1 _ rfl;have f2:_=some y2:=a 2 _ rfl;have f3:_=some y3:=a 3 _ rfl;have Z:_=some y4:=a 4 _ rfl;have f5:_=some y5:=a 5 _ rfl;have f6:_=some y6:=a 6 _ rfl
  obtain ⟨k,hk,ek⟩:=M5 f0
  obtain ⟨lo,F,elo⟩:=M5 f1
  obtain ⟨hi,o,ehi⟩:=M5 f2
  obtain ⟨s,hs,es⟩:=M5 f3
  cases n with
  | zero=>simp [DataW.trod] at Z
  | succ n =>
  obtain ⟨w,vw,i,m,ew,Y,bw⟩:=L1 NI (fun s=>s.size≤maxLen) (fun w=>w.size+1) Tryz.underlying22 (sz:=1) (by kernel_rfl) (by omega) (fun cs x h=>by
   obtain ⟨s,hs,rfl,e⟩:=WO h
   exact ⟨s,.string s,hs,rfl,.flat (Ad hs),e⟩) Z
  obtain ⟨el,ve,g,f,ee,U,be⟩:=L1 Ia Ty.wf Ty.bulk Tryz.underlying23 (sz:=7) (by kernel_rfl) (by omega) (fun cs x h=>by
   obtain ⟨v,hv,b,e⟩:=ZM n cs x h
   exact ⟨v,.agg cs.toArray,hv,by simp [Value.cells],b.agg v.ones,e⟩) f5
  obtain ⟨fl,vf,G,O,ef,V,bf⟩:=L1 Da (fun p=>BV p.1∧p.2.1.size≤maxLen∧BV p.2.2.1∧p.2.2.2.1.wf∧p.2.2.2.2.length≤maxLen∧∀ v∈p.2.2.2.2,v.wf) (fun p=>p.2.1.size+p.2.2.2.1.bulk+HM p.2.2.2.2) Tryz.underlying24 (sz:=11) (by kernel_rfl) (by omega) (fun cs x h=>by
   cases n with
   | zero=>simp [DataW.trod] at h
   | succ n =>
   obtain ⟨ys,n',hn,rfl,l,hx,a⟩:=DataW.trod_struct Tryz.underlying54 h
   cases hn
   have c:cs.length=11:=l.trans (by kernel_rfl)
   have D:ys.length=5:=hx
   match ys,D,a with
   | [w0,w1,w2,w3,w4],_,a =>
   have q0:_=some w0:=a 0 _ rfl;have q1:_=some w1:=a 1 _ rfl;have q2:_=some w2:=a 2 _ rfl;have q3:_=some w3:=a 3 _ rfl;have q4:_=some w4:=a 4 _ rfl
   obtain ⟨z,y,enu⟩:=M5 q0
   obtain ⟨nm,d,en,bn⟩:=WO q1
   obtain ⟨J,C,end'⟩:=M5 q2
   obtain ⟨v,hv,b,aa⟩:=ZM n _ _ q3
   cases n with
   | zero=>simp [DataW.trod] at q4
   | succ n =>
   obtain ⟨dl,vd,q,r,ed,N,bd⟩:=L1 Bo Vl.wf Vl.bulk Tryz.underlying43 (sz:=6) (by kernel_rfl) (by omega) (fun cs x h=>by
    obtain ⟨v,hv,b,e⟩:=Xf n cs x h
    exact ⟨v,.agg cs.toArray,hv,by simp [Value.cells],b.agg v.ones,e⟩) q4
   have e1:Tryz.prog.cellsOf 3=1:=by kernel_rfl
   have e2:Tryz.prog.cellsOf 26=7:=by kernel_rfl
   have e3:Tryz.prog.cellsOf 9=1:=by kernel_rfl
   have e4:Tryz.prog.cellsOf 43=1:=by kernel_rfl
   simp only [List.getElem_toArray,List.getElem_cons_zero,List.getElem_cons_succ,e1,e2,e3,e4] at enu en end' b ed
   match cs,c with
   | [c0,c1,c2,c3,c4,c5,c6,c7,c8,c9,c10],_ =>
   simp only [List.drop_zero,List.take_succ_cons,List.take_zero,List.cons.injEq,and_true,List.drop_succ_cons] at enu en end' b ed
   subst enu en end' ed
   refine ⟨(z,nm,J,v,dl),.agg #[.int .i64 z,.string nm,.int .i64 J,c3,c4,c5,c6,c7,c8,c9,c10],⟨y,d,C,hv,r,q⟩,rfl,?_,by simp only [List.map_cons,List.map_nil,Rows.uptoBulk,Rows.uptoBulkAll,P6];omega⟩
   exact RC.agg (cs:=[.int .i64 z,.string nm,.int .i64 J]++([c3,c4,c5,c6,c7,c8,c9]++[c10])) (.cons (.flat rfl) (.cons (.flat (show It (.string nm)=true from Ad d)) (.cons (.flat rfl) (b.app (.cons N .nil))))) (fun x hx=>by
    simp only [List.mem_cons,List.mem_append,List.not_mem_nil,or_false] at hx
    rcases hx with rfl | rfl | rfl | hx | rfl
    ·rfl
    ·rfl
    ·rfl
    ·exact v.ones x hx
    ·rfl)) f6
  have u:Tryz.prog.cellsOf 3=1:=by kernel_rfl
  have Q:Tryz.prog.cellsOf 22=1:=by kernel_rfl
  have E:Tryz.prog.cellsOf 23=1:=by kernel_rfl
  have j:Tryz.prog.cellsOf 24=1:=by kernel_rfl
  simp only [List.getElem_toArray,List.getElem_cons_zero,List.getElem_cons_succ,u,Q,E,j,List.drop_zero,List.take_succ_cons,List.take_zero,List.cons.injEq,and_true,List.drop_succ_cons] at ek elo ehi es ew ee ef
  subst ek elo ehi es ew ee ef
  refine ⟨.mk k lo hi s w el fl,?_,?_,by simp only [List.map_cons,List.map_nil,Rows.uptoBulk,Rows.uptoBulkAll,Ty.bulk,TY,S7,Sz];omega⟩
  ·unfold Ty.wf
   exact ⟨hk,F,o,hs,i,m,f,O,(Yx el).2 g,(V2 fl).2 G⟩
  ·rw [Ty.cs,XK,Wl,Zc9]
   exact .cons (.flat rfl) (.cons (.flat rfl) (.cons (.flat rfl) (.cons (.flat rfl) (.cons Y (.cons U (.cons V .nil))))))
end
section
variable {H:Type} {enc:TypeId × Value→H} {W:World} {base:Nat} {v:Value} {d:DataW H} {p:List MemPlace}
theorem Zdv {t:TypeId} {fs:Array Field} (ht:Tryz.prog.underlying t=some (.struct fs)) (hv:Value.okWide Tryz.prog W .any base t v):∃ cs,v = .agg cs:=by
 unfold Value.okWide at hv
 rw [ht] at hv
 obtain ⟨cs,h,_⟩:=hv
 exact ⟨cs,h⟩
theorem Zhs (hv:Value.okWide Tryz.prog W .any base 26 v) (h:DataW.Trod enc Tryz.prog W 0 (fun _=>true) true 26 v d p):∃ t:Ty,t.wf∧R W Mem.start W v (.agg t.cs)∧t.bulk≤Rows.uptoBulk d:=by
 obtain ⟨cs,rfl⟩:=Zdv Tryz.underlying26 hv
 obtain ⟨n,b⟩:=h
 obtain ⟨t,c,a,e⟩:=ZM n _ _ b
 exact ⟨t,c,by simpa [Value.cells] using a.agg t.ones,e⟩
theorem ZgP (hv:Value.okWide Tryz.prog W .any base 46 v) (h:DataW.Trod enc Tryz.prog W 0 (fun _=>true) true 46 v d p):∃ t:Vl,t.wf∧R W Mem.start W v (.agg t.cs)∧t.bulk≤Rows.uptoBulk d:=by
 obtain ⟨cs,rfl⟩:=Zdv Tryz.underlying46 hv
 obtain ⟨n,b⟩:=h
 obtain ⟨t,c,a,e⟩:=Xf n _ _ b
 exact ⟨t,c,by simpa [Value.cells] using a.agg t.ones,e⟩
end
end Go.Proofs.YtgpmlelfkjfbiaaGreatDoor
