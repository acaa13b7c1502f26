/-
  Part 3 of the proof: rules and walks that the claim's last text uses.
-/
import Derived.Carry
import Derived.ChangeOld
import Derived.ChangeSlices
import Derived.Deep.DeepHandedRow
import Derived.Deep.DeepWitnessRowRef
import Derived.Lib.AppendZeros
import Derived.Lib.Bytealg
import Derived.Lib.LaidIn
import Derived.Lib.LaidU8T
import Derived.PinnedBridge
import Derived.ProofKit
import Derived.SevenTiedAt
import Derived.Shelf.SlSortCmp.NoneTotal
import Derived.Shelf.SlSortCmp.WholeK
import Derived.Shelf.SlicesE.Clone
import Derived.SizedLaws
import Derived.Sort.Lot0
import Derived.Test.YtgpmlelfkjfbiaaGreatDoorCards
import Derived.Test.YtgpmlelfkjfbiaaGreatDoorProg
import Derived.Test.YtgpmlelfkjfbiaaGreatDoorRows
import Derived.Test.YtgpmlelfkjfbiaaGreatDoorTie
import Derived.Test.YtgpmlelfkjfbiaaGreatDoorSr2
set_option linter.unusedSimpArgs false
set_option linter.unusedVariables false
set_option maxRecDepth 100000
set_option maxHeartbeats 4000000
namespace Go.Proofs.YtgpmlelfkjfbiaaGreatDoor
open Go Go.RowKit Go.Ev
theorem L9 (v:Vl):(I3 v).length=(EQ 1 v).length:=by simp [I3]
theorem P6 (v:Vl) (i:Nat) (x:List AV) (h:(I3 v)[i]? = some x):∃ p,(EQ 1 v)[i]? = some p∧x=[.val (.int .i64 p.1),.agg p.2.cs]∧i<(EQ 1 v).length:=by
 simp only [I3,List.getElem?_map,Option.map_eq_some_iff] at h
 obtain ⟨p,a,rfl⟩:=h
 exact ⟨p,a,rfl,(Ag.1 a).1⟩
theorem P9 (v:Vl) (x:List AV) (h:x∈I3 v):x.length=2:=by
 obtain ⟨p,_,rfl⟩:=List.mem_map.1 h
 rfl
theorem OQ (w0:World) (B:List (List AV)) (Rw:List RowA) (L:List LoopA) (v:Vl) :
  ACalls Tryz.prog w0 61 [.agg v.cs] ⟨B,Rw,L⟩ fun r st=>r = .clo 122 [.box B.length 0]∧st=⟨B++[v.cs],Rw,L⟩:=by
 refine EF (rs:=[.tmp 2]) Tryz.func61 rfl rfl Tryz.ntmps61 (A1 Tryz.func61 rfl (by decide)) (Nat.le_of_ble_eq_true rfl) ?_
 intro M0 W0 g e d c f
 simp only [Au]
 apply Ah;intro K1 a
 apply Ao 1 [1]
 rw [Am];simp +decide only [go_sem]
 (repeat' apply Aa)<;>first | refine a _ _ ?_ | (intros;omega) | (intros;simp_all;done) | (intros;simp only [Bool.or_eq_false_iff,Bool.or_eq_true,Bool.and_eq_true,Bool.and_eq_false_iff,decide_eq_true_eq,decide_eq_false_iff_not,bne_iff_ne] at *; omega)
 clear a
 apply Ah;intro K2 b
 apply Ao 1 [2]
 rw [Am];simp +decide only [go_sem]
 (repeat' apply Aa)<;>first | refine b _ _ ?_ | (intros;omega) | (intros;simp_all;done) | (intros;simp only [Bool.or_eq_false_iff,Bool.or_eq_true,Bool.and_eq_true,Bool.and_eq_false_iff,decide_eq_true_eq,decide_eq_false_iff_not,bne_iff_ne] at *; omega)
 clear b
 apply A2;simp +decide only [go_sem]
 skip
def UT:List AV:=[.val .nilFunc,.clo 108 [],.clo 110 [],.clo 111 [],.clo 113 [],.clo 116 [],.clo 117 [],.clo 118 [],.clo 119 [],.clo 120 [],.clo 121 []]
theorem ZcW (w0:World) (B:List (List AV)) (Rw:List RowA) (L:List LoopA)  :
  ACalls Tryz.prog w0 60 [] ⟨B,Rw,L⟩ fun r st=>r = .agg UT∧st=⟨B,Rw,L⟩:=by
 refine ACalls.finP (EF (rs:=[.cell 0 92]) Tryz.func60 rfl rfl Tryz.ntmps60 (A1 Tryz.func60 rfl (by decide)) (Nat.le_of_ble_eq_true rfl) ?_)
 intro M0 W0 g e d a f
 simp only [Au]
 apply Ah;intro K1 b
 apply Ao 1 [0]
 rw [Am];simp +decide only [go_sem,QY,Oq,JX,DG,List.getElem?_cons_zero,List.getElem?_cons_succ,List.nil_append,List.cons_append]
 (repeat' apply Aa)<;>first | refine b _ _ ?_ | (intros;omega) | (intros;simp_all;done) | (intros;simp only [Bool.or_eq_false_iff,Bool.or_eq_true,Bool.and_eq_true,Bool.and_eq_false_iff,decide_eq_true_eq,decide_eq_false_iff_not,bne_iff_ne] at *; omega)
 clear b
 apply Ah;intro K2 c
 apply Ao 1 [0]
 rw [Am];simp +decide only [go_sem,QY,Oq,JX,DG,List.getElem?_cons_zero,List.getElem?_cons_succ,List.nil_append,List.cons_append]
 (repeat' apply Aa)<;>first | refine c _ _ ?_ | (intros;omega) | (intros;simp_all;done) | (intros;simp only [Bool.or_eq_false_iff,Bool.or_eq_true,Bool.and_eq_true,Bool.and_eq_false_iff,decide_eq_true_eq,decide_eq_false_iff_not,bne_iff_ne] at *; omega)
 clear c
 apply A2;simp +decide only [go_sem]
 refine Na a (by first | exact List.prefix_append _ _ | exact List.prefix_refl _ | (rw [List.append_assoc];exact List.prefix_append _ _)) (by first | exact List.prefix_append _ _ | exact List.prefix_refl _ | (rw [List.append_assoc];exact List.prefix_append _ _)) (by first | exact List.prefix_append _ _ | exact List.prefix_refl _ | (rw [List.append_assoc];exact List.prefix_append _ _)) (by simp +decide only [go_sem]) ⟨?_,rfl⟩
 rfl
end Go.Proofs.YtgpmlelfkjfbiaaGreatDoor
namespace Go.Ev
open Go Go.RowKit
section
universe u v
variable {α:Type u} {β:Type v} {r:β}
theorem Aj {c:Prop} [Decidable c] {x:Option β} (h:(if c then x else none)=some r):c∧x=some r:=by
 by_cases q:c
 ·rw [Ae q] at h;exact ⟨q,h⟩
 ·rw [Af q] at h;cases h
theorem bind_some {o:Option α} {f:α→Option β} (h:o.bind f=some r):∃ x,o=some x∧f x=some r:=by
 cases o with
 | none=>cases h
 | some x=>exact ⟨x,rfl,h⟩
theorem Ba {b:Bool} {x y:β} (h:(if b=true then x else y)=r) (hb:b=true):x=r:=by rwa [Ae hb] at h
theorem A9 {b:Bool} {x y:β} (h:(if b=true then x else y)=r) (hb:b=false):y=r:=by rwa [Af (by simp [hb])] at h
def B7 (xs:List α) (i:Int):Option α:=if 0≤i then xs[i.toNat]? else none
theorem AA {xs:List α} {i:Int} {x:α} (h:B7 xs i=some x):0≤i∧i<xs.length∧xs[i.toNat]? = some x:=by
 unfold B7 at h
 obtain ⟨b,a⟩:=Aj h
 have:=(Ag.1 a).1
 exact ⟨b,by omega,a⟩
theorem Zim {xs:List α} {i:Nat} (h:i<xs.length):B7 xs (i:Int)=some xs[i]:=by simp [B7,h]
theorem AB {f:α→AV} {xs:List α} {i:Nat} {x:α} (h:xs[i]? = some x):(xs.map f).getD i .junk=f x:=by simp [List.getD,h]
end
abbrev BQ (n:Int):Prop := -9223372036854775808≤n∧n≤9223372036854775807
theorem C3 {nb nr nl nb' nr' nl':Nat} {x:AV} (h1:nb≤nb') (h2:nr≤nr') (h3:nl≤nl') (h:Under nb nr nl x):Under nb' nr' nl' x:=by
 induction h with
 | val v=>exact .val v
 | list h ho ih=>exact .list ih (by rename_i o;cases o<;>first | trivial | exact Nat.lt_of_lt_of_le ho h2)
 | elem h ih=>exact .elem ih
 | box h=>exact .box (by omega)
 | clo h ih=>exact .clo ih
 | agg h ih=>exact .agg ih
 | tup h ih=>exact .tup ih
 | yld h=>exact .yld (by omega)
 | vec h=>exact .vec (by omega)
 | vel h=>exact .vel (by omega)
def OwnsAt (lo:Nat) (ho:Own) (rows:List RowA) (x:Nat × Nat × Own):Prop:=x.2.2 = .full∨∃ id,x.2.2 = .row id∧(lo≤id∨ho = .row id)∧rows[id]? = some (.grow x.2.1 x.1)
inductive VO where
 | nil
 | row (id ver:Nat)
def J5:VO→Nat→AV
 | .nil,_ => .list [] .seed
 | .row id ver,n => .vec id ver 0 n
abbrev VE:=VO × Nat × List AV
def VAt (lo:Nat) (rows:List RowA) (x:VE):Prop:=(x.1 = .nil∧x.2.2=[])∨∃ id ver,x.1 = .row id ver∧lo≤id∧rows[id]? = some (.vec ver x.2.1 x.2.2)
def ZZ (v:List VE) (i:Nat):Prop:=∀ x∈v,∀ ver,x.1 ≠ .row i ver
theorem Q6 (i:Nat):ZZ [] i:=fun _ h=>(nomatch h)
structure Owns (Rw rows:List RowA) (l:List (Nat × Nat × Own)) (ho:Own := .none) (v:List VE:=[]):Prop where
 len:Rw.length≤rows.length
 keep:∀ i,i<Rw.length→ho ≠ .row i→rows[i]? = Rw[i]?
 calm:∀ i r,rows[i]? = some r→(Rw.length≤i∨ho = .row i)→ZZ v i→r.cells=[]
 each:∀ x∈l,OwnsAt Rw.length ho rows x
 apart:l.Pairwise fun x y=>∀ id,x.2.2 = .row id→y.2.2 ≠ .row id
 veach:∀ x∈v,VAt Rw.length rows x
 vapart:v.Pairwise fun x y=>∀ id a b,x.1 = .row id a→y.1 ≠ .row id b
section
variable {Rw rows:List RowA} {l:List (Nat × Nat × Own)} {ho:Own} {v:List VE}
theorem Owns.none (Rw:List RowA):Owns Rw Rw []:=by
 refine ⟨Nat.le_refl _,fun _ _ _=>rfl,fun i r h q _=>?_,by simp,.nil,by simp,.nil⟩
 have:=(Ag.1 h).1
 rcases q with q | q
 ·omega
 ·cases q
theorem Owns.pre (h:Owns Rw rows l .none v):Rw <+: rows:=by
 rw [List.prefix_iff_getElem?]
 intro i hi
 rw [h.keep i hi (fun q=>by cases q),List.getElem?_eq_getElem hi]
theorem Owns.sub {l':List (Nat × Nat × Own)} (h:Owns Rw rows l ho v) (hs:l'.Sublist l):Owns Rw rows l' ho v :=
 ⟨h.len,h.keep,h.calm,fun x a=>h.each x (hs.subset a),h.apart.sublist hs,h.veach,h.vapart⟩
theorem Owns.full (h:Owns Rw rows l ho v) (sz n:Nat):Owns Rw rows ((sz,n,.full)::l) ho v :=
 ⟨h.len,h.keep,h.calm,fun x hx=>by
  rcases List.mem_cons.1 hx with rfl | hx
  ·exact .inl rfl
  ·exact h.each x hx,List.pairwise_cons.2 ⟨fun _ _ id q=>(nomatch q),h.apart⟩,h.veach,h.vapart⟩
theorem VAt.up {lo:Nat} {x:VE} (h:VAt lo rows x) (r:List RowA):VAt lo (rows++r) x:=by
 rcases h with h | ⟨id,ver,h1,h2,h3⟩
 ·exact .inl h
 ·exact .inr ⟨id,ver,h1,h2,by rw [List.getElem?_append_left (Ag.1 h3).1];exact h3⟩
theorem VAt.set {lo:Nat} {x:VE} (h:VAt lo rows x) {i:Nat} (hi:∀ ver,x.1 ≠ .row i ver) (r:RowA):VAt lo (rows.set i r) x:=by
 rcases h with h | ⟨id,ver,h1,h2,h3⟩
 ·exact .inl h
 ·exact .inr ⟨id,ver,h1,h2,by rw [List.getElem?_set_ne (fun (e:i=id)=>hi ver (by rw [e];exact h1))];exact h3⟩
theorem Owns.make (h:Owns Rw rows l ho v) (sz n:Nat):Owns Rw (rows++[.grow n sz]) ((sz,n,.row rows.length)::l) ho v:=by
 have e:=h.len
 refine ⟨by simp;omega,fun i b c=>?_,fun i r a q f=>?_,fun x hx=>?_,List.pairwise_cons.2 ⟨fun y d id q k=>?_,h.apart⟩,fun x hx=>(h.veach x hx).up _,h.vapart⟩
 ·rw [List.getElem?_append_left (by omega)];exact h.keep i b c
 ·by_cases b:i<rows.length
  ·rw [List.getElem?_append_left b] at a;exact h.calm i r a q f
  ·rw [List.getElem?_append_right (by omega)] at a
   have:=List.mem_of_getElem? a
   simp only [List.mem_singleton] at this;subst this;rfl
 ·rcases List.mem_cons.1 hx with rfl | hx
  ·exact .inr ⟨_,rfl,.inl e,by simp⟩
  ·rcases h.each x hx with q | ⟨id,q1,q2,q3⟩
   ·exact .inl q
   ·exact .inr ⟨id,q1,q2,by rw [List.getElem?_append_left (Ag.1 q3).1];exact q3⟩
 ·rcases h.each y d with q' | ⟨id',q1,q2,q3⟩
  ·rw [q'] at k;cases k
  ·rw [q1] at k;cases k;cases q
   exact absurd (Ag.1 q3).1 (Nat.lt_irrefl _)
theorem Owns.unders (h:Owns Rw rows l ho v):∀ x∈l,x.2.2.under rows.length:=fun x a=>by
 rcases h.each x a with q | ⟨id,q1,q2,q3⟩
 ·rw [q];trivial
 ·rw [q1];exact (Ag.1 q3).1
theorem Owns.of_eq {l':List (Nat × Nat × Own)} (h:Owns Rw rows l ho v) (he:l=l'):Owns Rw rows l' ho v:=he▸h
theorem Owns.swap {l':List (Nat × Nat × Own)} (h:Owns Rw rows l ho v) (hp:l.Perm l'):Owns Rw rows l' ho v :=
 ⟨h.len,h.keep,h.calm,fun x c=>h.each x (hp.mem_iff.2 c),(hp.pairwise_iff (R:=fun x y:Nat × Nat × Own=>∀ id,x.2.2 = .row id→y.2.2 ≠ .row id) (fun q id a b=>q id b a)).1 h.apart,h.veach,h.vapart⟩
theorem Owns.grow_off (h:Owns Rw rows l ho v) {sz n id:Nat} (hx:(sz,n,Own.row id)∈l):ZZ v id:=by
 intro x hv a e
 rcases h.each _ hx with q | ⟨id',q1,q2,q3⟩
 ·cases q
 ·cases q1
  rcases h.veach x hv with w | ⟨id2,ver2,w1,w2,w3⟩
  ·rw [w.1] at e;cases e
  ·rw [w1] at e;cases e
   rw [w3] at q3;cases q3
end
theorem Kz {Rw rows:List RowA} (h:Rw <+: rows) {id:Nat} (hi:Rw.length≤id) (x:RowA):Rw <+: rows.set id x:=by
 obtain ⟨t,rfl⟩:=h
 rw [List.set_append_right _ _ hi]
 exact List.prefix_append _ _
theorem Owns.more {Rw rows:List RowA} {l:List (Nat × Nat × Own)} {ho:Own} {v:List VE} {sz n id:Nat} (h:Owns Rw rows ((sz,n,.row id)::l) ho v) (m:Nat):Owns Rw (rows.set id (.grow m sz)) ((sz,m,.row id)::l) ho v:=by
 have b:=h.grow_off (List.mem_cons_self ..)
 obtain ⟨g,k,u,f,o,z,t⟩:=h
 obtain ⟨hid,hrow⟩:(Rw.length≤id∨ho = .row id)∧rows[id]? = some (.grow n sz):=by
  rcases f _ (List.mem_cons_self ..) with q | ⟨id',q1,q2,q3⟩
  ·cases q
  ·cases q1;exact ⟨q2,q3⟩
 have a:=(Ag.1 hrow).1
 obtain ⟨d,s⟩:=List.pairwise_cons.1 o
 refine ⟨by simpa using g,fun i w c=>?_,fun i r hr q p=>?_,fun x hx=>?_,List.pairwise_cons.2 ⟨fun y j=>d y j,s⟩,fun x hx=>(z x hx).set (b x hx) _,t⟩
 ·have:id≠i:=by
   rintro rfl
   rcases hid with q | q
   ·omega
   ·exact c q
  rw [List.getElem?_set_ne this];exact k i w c
 ·by_cases e:id=i
  ·subst e
   rw [List.getElem?_set_self a] at hr
   cases hr;rfl
  ·rw [List.getElem?_set_ne e] at hr;exact u i r hr q p
 ·rcases List.mem_cons.1 hx with rfl | hx
  ·exact .inr ⟨id,rfl,hid,by simp [a]⟩
  ·rcases f x (List.mem_cons_of_mem _ hx) with q | ⟨id',q1,q2,q3⟩
   ·exact .inl q
   ·have:id'≠id:=fun e=>d x hx id rfl (e▸q1)
    exact .inr ⟨id',q1,q2,by rw [List.getElem?_set_ne (Ne.symm this)];exact q3⟩
theorem Owns.inV {Rw rows:List RowA} {l:List (Nat × Nat × Own)} {ho:Own} {v:List VE} (h:Owns Rw rows l ho v) {i:Nat} {r:RowA} (hr:rows[i]? = some r) (hi:¬ ZZ v i):∃ x∈v,r.cells=x.2.2∧Rw.length≤i:=by
 simp only [ZZ,ne_eq,Classical.not_forall,Classical.not_not] at hi
 obtain ⟨x,a,b,e⟩:=hi
 rcases h.veach x a with w | ⟨id,ver',w1,w2,w3⟩
 ·rw [w.1] at e;cases e
 ·rw [w1] at e;cases e
  rw [w3] at hr;cases hr
  exact ⟨x,a,rfl,w2⟩
theorem Owns.rowsCalm {Rw rows:List RowA} {l:List (Nat × Nat × Own)} {ho:Own} {v:List VE} (h:Owns Rw rows l ho v) {nb nb' nl:Nat} (hb:nb≤nb') (hc:∀ r∈Rw,∀ x∈r.cells,Under nb Rw.length nl x) (hv:∀ x∈v,∀ y∈x.2.2,Under nb' rows.length nl y:=by intro x hx;cases hx):∀ r∈rows,∀ x∈r.cells,Under nb' rows.length nl x:=fun r d x hx=>by
 obtain ⟨i,f,rfl⟩:=List.mem_iff_getElem.1 d
 have b:rows[i]? = some rows[i]:=List.getElem?_eq_getElem f
 by_cases qv:ZZ v i
 case neg =>
  obtain ⟨y,c,e,_⟩:=h.inV b qv
  rw [e] at hx
  exact hv y c x hx
 by_cases q:Rw.length≤i∨ho = .row i
 ·rw [h.calm i _ b q qv] at hx;cases hx
 ·have a:i<Rw.length:=by omega
  have:=h.keep i a (fun e=>q (.inr e))
  rw [b,List.getElem?_eq_getElem a] at this
  rw [Option.some.inj this] at hx
  exact C3 hb h.len (Nat.le_refl _) (hc _ (List.getElem_mem a) x hx)
theorem Owns.call {Rw rows rows':List RowA} {l:List (Nat × Nat × Own)} {ho o o':Own} {v:List VE} {sz n n':Nat} (h:Owns Rw rows ((sz,n,o)::l) ho v) (hc:Owns rows rows' [(sz,n',o')] o):Owns Rw rows' ((sz,n',o')::l) ho v:=by
 have c:=h.each _ (List.mem_cons_self ..)
 have b:∀ i,o = .row i→ZZ v i:=fun i e=>h.grow_off (sz:=sz) (n:=n) (by rw [←e];exact List.mem_cons_self ..)
 obtain ⟨j,p⟩:=List.pairwise_cons.1 h.apart
 have own:∀ i,o = .row i→(Rw.length≤i∨ho = .row i)∧i<rows.length:=fun i e=>by
  rcases c with q | ⟨id,q1,q2,q3⟩
  ·simp only at q;rw [e] at q;cases q
  ·simp only at q1;rw [e] at q1;cases q1
   exact ⟨q2,(Ag.1 q3).1⟩
 have t:=h.len
 have u:=hc.len
 have a:=hc.each _ (List.mem_cons_self ..)
 refine ⟨by omega,fun i s f=>?_,fun i r d q m=>?_,fun x hxm=>?_,List.pairwise_cons.2 ⟨fun y g id e=>?_,p⟩,fun x c=>?_,h.vapart⟩
 ·have:o ≠ .row i:=fun e=>by
   rcases (own i e).1 with q | q
   ·omega
   ·exact f q
  rw [hc.keep i (by omega) this];exact h.keep i s f
 ·by_cases e:rows.length≤i∨o = .row i
  ·exact hc.calm i r d e (Q6 i)
  ·rw [hc.keep i (by omega) (fun k=>e (.inr k))] at d
   exact h.calm i r d q m
 ·rcases List.mem_cons.1 hxm with rfl | hxm
  ·rcases a with q | ⟨id,q1,q2,q3⟩
   ·exact .inl q
   ·refine .inr ⟨id,q1,?_,q3⟩
    rcases q2 with q2 | q2
    ·exact .inl (by omega)
    ·exact (own id q2).1
  ·rcases h.each x (List.mem_cons_of_mem _ hxm) with q | ⟨id,q1,q2,q3⟩
   ·exact .inl q
   ·refine .inr ⟨id,q1,q2,?_⟩
    rw [hc.keep id (Ag.1 q3).1 (fun e=>j x hxm id e q1)]
    exact q3
 ·intro k
  rcases a with q | ⟨id',q1,q2,q3⟩
  ·simp only at q e;rw [q] at e;cases e
  ·simp only at q1 e
   rw [q1] at e;cases e
   rcases q2 with q2 | q2
   ·rcases h.each y (List.mem_cons_of_mem _ g) with w | ⟨id,w1,w2,w3⟩
    ·rw [w] at k;cases k
    ·rw [w1] at k;cases k
     have:=(Ag.1 w3).1
     omega
   ·exact j y g _ q2 k
 ·rcases h.veach x c with w | ⟨id,ver,w1,w2,w3⟩
  ·exact .inl w
  ·refine .inr ⟨id,ver,w1,w2,?_⟩
   rw [hc.keep id (Ag.1 w3).1 (fun e=>b id e x c ver w1)]
   exact w3
theorem Owns.append {P:Program} {t el:TypeId} {sz by8 n:Nat} {ag:Bool} {Rw rows:List RowA} {l:List (Nat × Nat × Own)} {o ho:Own} {v:List VE} (h:Owns Rw rows ((sz,n,o)::l) ho v) (he:Kq P t=some (el,sz,ag,by8)) (hz:(C5 P el).isSome=true) (hs:0<sz) (m:Nat)
  (hb:(n+m)*by8≤140737488355328) (hb2:n+m≤4611686018427387904):∃ o' rows',Owns Rw rows' ((sz,n+m,o')::l) ho v ∧
   ∀ (xs ys:List AV) (B:List (List AV)) (L:List LoopA) (o2:Own),xs.length=n→ys.length=m→(∀ y∈xs,y.cells.length=sz) →
    BA P ⟨B,rows,L⟩ t (.list xs o) (.list ys o2)=((∀ y∈ys,y.cells.length=sz∧A5 y=true),.list (xs++ys.map AV.pub) o',⟨B,rows',L⟩):=by
 have b:∀ (ys:List AV),ys.length=m→CP P el sz by8 n ys=(∀ y∈ys,y.cells.length=sz∧A5 y=true):=by
  intro ys f
  simp only [CP,hs,hz,f,hb,hb2,true_and]
 rcases h.each _ (List.mem_cons_self ..) with q | ⟨id,q1,q2,q3⟩
 ·simp only at q;subst q
  have e:=h.sub (List.sublist_cons_self _ _)
  by_cases hm:m=0
  ·subst hm
   refine ⟨.full,rows,e.full _ _,fun xs ys B L o2 d a c=>?_⟩
   have:ys=[]:=List.length_eq_zero_iff.1 a
   subst this
   simp [BA,he,AY,CE,hs]
  ·refine ⟨.row rows.length,rows++[.grow (n+m) sz],e.make _ _,fun xs ys B L o2 d a c=>?_⟩
   simp only [BA,he,AY,CE]
   rw [Af (by omega),d,b ys a,a]
   simp only [true_and,Prod.mk.injEq,eq_iff_iff,and_true]
   exact ⟨fun q=>q.1,fun q=>⟨q,c⟩⟩
 ·simp only at q1;subst q1
  refine ⟨.row id,_,h.more (n+m),fun xs ys B L o2 d a c=>?_⟩
  simp only [BA,he,AY,CE]
  rw [d,b ys a,a]
  simp only [true_and,Prod.mk.injEq,eq_iff_iff,and_true]
  exact ⟨fun q=>q.1,fun q=>⟨q,c,q3⟩⟩
theorem UN {α:Type} {xs:List α} {i:Nat} {x:α} (h:xs[i]? = some x):xs.drop i=x::xs.drop (i+1):=by
 obtain ⟨a,rfl⟩:=Ag.1 h
 exact List.drop_eq_getElem_cons a
theorem Bc {M1:Mem} {B bs bs' XB:List (List AV)} {Rw rows rows':List RowA} {L XL lp:List LoopA} {la:LoopA} {l l':List (Nat × Nat × Own)} {oh:Own} (hra:RoundAt M1 ((St.push ⟨B++bs,rows,L⟩ la).ext ⟨XB,[],XL⟩)) (ho:Owns Rw rows l oh) (ho':Owns Rw rows' l' oh) (hlen:bs'.length=bs.length) (hr:rows.length≤rows'.length)
  (hlp:lp=(L++[la])++XL) (hbs:∀ cs∈bs',∀ x∈cs,Under (B.length+bs.length+XB.length) rows'.length lp.length x):Calm ((B++bs).length+XB.length) rows'.length lp.length ⟨(B++bs')++XB,rows',lp⟩:=by
 subst hlp
 have b:=hra.calm
 simp only [St.ext,St.push,List.append_nil] at b
 have e:((B++bs)++XB).length=(B++bs).length+XB.length:=List.length_append
 rw [e] at b
 refine ⟨fun r h x hx=>?_,fun cs h x hx=>?_,fun a n k x hx g=>C3 (Nat.le_refl _) hr (Nat.le_refl _) (b.loops a n k x hx g)⟩
 ·obtain ⟨i,m,rfl⟩:=List.mem_iff_getElem.1 h
  have f:rows'[i]? = some rows'[i]:=List.getElem?_eq_getElem m
  by_cases q:Rw.length≤i∨oh = .row i
  ·rw [ho'.calm i _ f q (Q6 i)] at hx;cases hx
  ·have c:i<Rw.length:=by omega
   have d:=ho'.keep i c (fun e=>q (.inr e))
   have j:=ho.keep i c (fun e=>q (.inr e))
   rw [f,←j] at d
   exact C3 (Nat.le_refl _) hr (Nat.le_refl _) (b.rows _ (List.mem_of_getElem? d.symm) x hx)
 ·rcases List.mem_append.1 h with h | h
  ·rcases List.mem_append.1 h with h | h
   ·exact C3 (Nat.le_refl _) hr (Nat.le_refl _) (b.boxes cs (by simp [h]) x hx)
   ·have:=hbs cs h x hx
    rwa [List.length_append]
  ·exact C3 (Nat.le_refl _) hr (Nat.le_refl _) (b.boxes cs (by simp [h]) x hx)
section
variable {P:Program} {w0:World} {n:Nat} {e:Env} {st:St} {M0:Mem} {W0:World} {ro:Option Nat} {Q:AQ} {c:Code}
theorem Tc (l i:Nat) {cs:List AV} {x:AV} (hl:st.boxes[l]? = some cs) (hi:cs[i]? = some x) (h1:x.one=true) (h:GL P w0 n M0 W0 ro c Q e { st with boxes:=st.boxes.set l (cs.set i x.pubCell) }):GL P w0 n M0 W0 ro c Q e st :=
 Ot _ _ (fun M _ w a=>⟨M,.refl _ _ _,a.st.setBox hl hi (by rw [AV.one_pubCell];exact h1) (fun v hv=>hv.pubCell),a.size,a.env⟩) h
theorem RelSt.pubBox {M:Mem} {w:World} (h:RelSt w0 M st w) {l:Nat} {cs:List AV} (hl:st.boxes[l]? = some cs):RelSt w0 M { st with boxes:=st.boxes.set l (cs.map AV.pubCell) } w:=by
 have b:l<st.boxes.length:=(Ag.1 hl).1
 refine ⟨h.below,by simp [h.N],h.NR,h.top,h.inj,fun d a hl'=>?_,h.row,h.rowinj,h.loop⟩
 by_cases q:d=l
 ·subst q
  rw [List.getElem?_set_self b] at hl'
  cases hl'
  obtain ⟨a1,a2,c,i,a3,a4,a5,a6⟩:=h.box d cs hl
  refine ⟨a1,a2,c,i,a3,by simp [a4],fun z g=>?_,fun j f k=>?_⟩
  ·obtain ⟨y,e,rfl⟩:=List.mem_map.1 g
   rw [AV.one_pubCell];exact a5 y e
  ·simp only [List.getElem_map]
   exact (a6 j f (by simpa using k)).pubCell
 ·rw [List.getElem?_set_ne (Ne.symm q)] at hl'
  exact h.box d a hl'
theorem Jn (l:Nat) {cs cs':List AV} (hl:st.boxes[l]? = some cs) (he:cs.map AV.pubCell=cs') (h:GL P w0 n M0 W0 ro c Q e { st with boxes:=st.boxes.set l cs' }):GL P w0 n M0 W0 ro c Q e st:=by
 subst he
 exact Ot _ _ (fun M _ w a=>⟨M,.refl _ _ _,a.st.pubBox hl,a.size,a.env⟩) h
theorem Xu {a:AV} {xs:List AV} (h:a.pub = .list xs .none):∃ o,a = .list xs o:=by
 cases a<;>simp only [AV.pub,reduceCtorEq] at h
 ·cases h;exact ⟨_,rfl⟩
theorem QQ (l i:Nat) {cs:List AV} {a:AV} {xs:List AV} (hl:st.boxes[l]? = some cs) (hi:cs[i]? = some a) (ha:a.pub = .list xs .none) (h:GL P w0 n M0 W0 ro c Q e { st with boxes:=st.boxes.set l (cs.set i (.list xs .none)) }):GL P w0 n M0 W0 ro c Q e st:=by
 obtain ⟨o,rfl⟩:=Xu ha
 exact Tc l i hl hi rfl h
theorem CH {nb nr nl:Nat} {f:FuncId} {cs:List AV} (h:Under nb nr nl (.clo f cs)):∀ nb' nr' nl',nb≤nb'→nr≤nr'→nl≤nl'→∀ x∈cs,Under nb' nr' nl' x :=
 fun _ _ _ c a b x d=>C3 c a b (Rz.1 h x d)
theorem Rq {B0 B bs X:List (List AV)} {Rw rows:List RowA} {L l':List LoopA} {l:List (Nat × Nat × Own)} {oh:Own} {v:List VE} (hN:M0.N=B0.length) (hNR:M0.NR=Rw.length) (hNL:M0.NL=L.length) (hB:B.length=B0.length) (hc:Calm B0.length Rw.length L.length ⟨B,Rw,L⟩) (ho:Owns Rw rows l oh v)
  (hbs:∀ cs∈bs,∀ x∈cs,Under (B0.length+bs.length) rows.length L.length x) (he:Ls (B0.length+bs.length) rows.length L.length e)
  (h:GL P w0 n M0 W0 ro c Q e ⟨B++bs,rows,L⟩) (hv:∀ x∈v,∀ y∈x.2.2,Under (B0.length+bs.length) rows.length L.length y:=by intro x hx;cases hx):GL P w0 n M0 W0 ro c Q e ⟨B++(bs++X),rows,L++l'⟩:=by
 rw [←hB] at hN hc hbs he hv
 clear hB B0
 have i:=ho.len
 have b:St.cut ⟨B++(bs++X),rows,L++l'⟩ (B.length+bs.length) rows.length L.length=⟨B++bs,rows,L⟩:=by
  simp only [St.cut,List.take_length,←List.append_assoc]
  rw [List.take_left' (by simp),List.take_left' rfl]
 refine TM (B.length+bs.length) rows.length L.length (by simp) (Nat.le_refl _) (by simp) (by omega) (by omega) (by omega) ?_ he (by rw [b];exact h)
 rw [b]
 refine ⟨fun r g x hx=>?_,fun cs hcs x hx=>?_,fun f a k x hx d=>?_⟩
 ·exact ho.rowsCalm (by omega) hc.rows hv r g x hx
 ·rcases List.mem_append.1 hcs with hcs | hcs
  ·exact C3 (by omega) (by omega) (Nat.le_refl _) (hc.boxes cs hcs x hx)
  ·exact hbs cs hcs x hx
 ·exact C3 (by omega) (by omega) (Nat.le_refl _) (hc.loops f a k x hx d)
theorem AM {B0 B bs X:List (List AV)} {Rw rows:List RowA} {L:List LoopA} {l:List (Nat × Nat × Own)} {oh:Own} {v:List VE} (hN:M0.N=B0.length) (hNR:M0.NR=Rw.length) (hNL:M0.NL=L.length) (hB:B.length=B0.length) (hc:Calm B0.length Rw.length L.length ⟨B,Rw,L⟩) (ho:Owns Rw rows l oh v)
  (hbs:∀ cs∈bs,∀ x∈cs,Under (B0.length+bs.length) rows.length L.length x) (he:Ls (B0.length+bs.length) rows.length L.length e)
  (h:GL P w0 n M0 W0 ro c Q e ⟨B++bs,rows,L⟩) (hv:∀ x∈v,∀ y∈x.2.2,Under (B0.length+bs.length) rows.length L.length y:=by intro x hx;cases hx):GL P w0 n M0 W0 ro c Q e ⟨B++(bs++X),rows,L⟩:=by
 rw [←hB] at hN hc hbs he hv
 clear hB B0
 have i:=ho.len
 have b:St.cut ⟨B++(bs++X),rows,L⟩ (B.length+bs.length) rows.length L.length=⟨B++bs,rows,L⟩:=by
  simp only [St.cut,List.take_length,←List.append_assoc]
  rw [List.take_left' (by simp)]
 refine TM (B.length+bs.length) rows.length L.length (by simp) (Nat.le_refl _) (Nat.le_refl _) (by omega) (by omega) (by omega) ?_ he (by rw [b];exact h)
 rw [b]
 refine ⟨fun r g x hx=>?_,fun cs hcs x hx=>?_,fun f a k x hx d=>?_⟩
 ·exact ho.rowsCalm (by omega) hc.rows hv r g x hx
 ·rcases List.mem_append.1 hcs with hcs | hcs
  ·exact C3 (by omega) (by omega) (Nat.le_refl _) (hc.boxes cs hcs x hx)
  ·exact hbs cs hcs x hx
 ·exact C3 (by omega) (by omega) (Nat.le_refl _) (hc.loops f a k x hx d)
end
section
variable {P:Program} {w0:World} {st:St}
theorem F7 {c d:Bool} {f:FuncId} {cs args args':List AV} {k:AV→St→Prop} (v:AV)
  (h:ACalls P w0 f args' st fun r s=>r=v∧s=st) (he:args++cs=args') (hk:k v st):MK P w0 c d (.clo f cs) args st k := .inl ⟨v,fun _=>by
 show ACalls P w0 f (args++cs) st _
 rw [he];exact h,hk⟩
theorem AD {d:Bool} {fv:AV} {args:List AV} {k:AV→St→Prop} (h:k .junk st):MK P w0 false d fv args st k := .inl ⟨.junk,fun q=>(nomatch q),h⟩
theorem Fg {B B' X:List (List AV)} {Rw rows:List RowA} {L:List LoopA} {Post:AV→St→Prop} {v:AV} (hc:Calm B.length Rw.length L.length ⟨B',Rw,L⟩) (hB:B'.length=B.length) (h2:Rw <+: rows) (hu:Under B.length Rw.length L.length v.pubA) (hp:Post v.pubA ⟨B',Rw,L⟩) :
  Go.Ev.finP ⟨B,Rw,L⟩ Post v ⟨B'++X,rows,L⟩:=by
 obtain ⟨r,rfl⟩:=h2
 have e:St.cut ⟨B'++X,Rw++r,L⟩ B.length Rw.length L.length=⟨B',Rw,L⟩:=by simp [St.cut,←hB]
 exact ⟨by simp [hB],by simp,by simp,by simp only [e];exact hc,hu,by simp only [e];exact hp⟩
end
theorem DT {B B':List (List AV)} {Rw rows:List RowA} {L:List LoopA} {Post:AV→St→Prop} {v:AV} (hc:Calm B.length Rw.length L.length ⟨B',Rw,L⟩) (hB:B'.length=B.length) (h2:Rw <+: rows) (hu:Under B.length Rw.length L.length v.pubA) (hp:Post v.pubA ⟨B',Rw,L⟩) :
  Go.Ev.finP ⟨B,Rw,L⟩ Post v ⟨B',rows,L⟩:=by
 have:=Fg (X:=[]) hc hB h2 hu hp
 rwa [List.append_nil] at this
theorem Ap {nb nr nl:Nat} {B:List (List AV)} {Rw:List RowA} {L:List LoopA} {l:Nat} {cs:List AV} (h:Calm nb nr nl ⟨B,Rw,L⟩) (hc:∀ x∈cs,Under nb nr nl x):Calm nb nr nl ⟨B.set l cs,Rw,L⟩ :=
 ⟨h.rows,fun b hd x a=>by
  rcases List.mem_or_eq_of_mem_set hd with hd | rfl
  ·exact h.boxes b hd x a
  ·exact hc x a,h.loops⟩
theorem ZjJ {B B' X:List (List AV)} {Rw rows:List RowA} {L l:List LoopA} {Post:AV→St→Prop} {v:AV} (hc:Calm B.length Rw.length L.length ⟨B',Rw,L⟩) (hB:B'.length=B.length) (h2:Rw <+: rows) (hu:Under B.length Rw.length L.length v.pubA) (hp:Post v.pubA ⟨B',Rw,L⟩) :
  Go.Ev.finP ⟨B,Rw,L⟩ Post v ⟨B'++X,rows,L++l⟩:=by
 obtain ⟨r,rfl⟩:=h2
 have e:St.cut ⟨B'++X,Rw++r,L++l⟩ B.length Rw.length L.length=⟨B',Rw,L⟩:=by simp [St.cut,←hB]
 exact ⟨by simp [hB],by simp,by simp,by simp only [e];exact hc,hu,by simp only [e];exact hp⟩
theorem An {B:List (List AV)} {l:Nat} {cs:List AV} (h:B[l]? = some cs) :
  (∀ X R L o,DK ⟨B++X,R,L⟩ (.box l o)=true)∧(∀ R L o,DK ⟨B,R,L⟩ (.box l o)=true)∧(∀ X R L o,Bq ⟨B++X,R,L⟩ (.box l o)=cs)∧(∀ R L o,Bq ⟨B,R,L⟩ (.box l o)=cs) ∧
  (∀ X,(B++X)[l]? = some cs)∧B[l]? = some cs∧(∀ X,(B++X).getD l []=cs)∧B.getD l []=cs∧(∀ X c,(B++X).set l c=B.set l c++X) ∧
  (∀ X R L o c,DK ⟨B.set l c++X,R,L⟩ (.box l o)=true)∧(∀ R L o c,DK ⟨B.set l c,R,L⟩ (.box l o)=true)∧(∀ X R L o c,Bq ⟨B.set l c++X,R,L⟩ (.box l o)=c)∧(∀ R L o c,Bq ⟨B.set l c,R,L⟩ (.box l o)=c) ∧
  (∀ X c,(B.set l c++X)[l]? = some c)∧(∀ c,(B.set l c)[l]? = some c)∧(∀ X c,(B.set l c++X).getD l []=c)∧(∀ c,(B.set l c).getD l []=c)∧(∀ X c d,(B.set l c++X).set l d=B.set l d++X)∧(∀ c d,(B.set l c).set l d=B.set l d)∧B.set l cs=B:=by
 have a:=(Ag.1 h).1
 have e:∀ X,(B++X)[l]? = some cs:=fun X=>by rw [List.getElem?_append_left a];exact h
 have f:∀ X c,(B.set l c++X)[l]? = some c:=fun X c=>by rw [List.getElem?_append_left (by simpa using a)];simp [a]
 have b:∀ c,(B.set l c)[l]? = some c:=fun c=>by simp [a]
 refine ⟨?_,?_,?_,?_,e,h,?_,?_,?_,?_,?_,?_,?_,f,b,?_,?_,?_,?_,?_⟩
 ·intro X R L o;simp [DK];omega
 ·intro R L o;simp [DK,a]
 ·intro X R L o;simp only [Bq,List.getD_eq_getElem?_getD,e,Option.getD_some]
 ·intro R L o;simp only [Bq,List.getD_eq_getElem?_getD,h,Option.getD_some]
 ·intro X;rw [List.getD_eq_getElem?_getD,e];rfl
 ·rw [List.getD_eq_getElem?_getD,h];rfl
 ·intro X c;exact List.set_append_left _ _ a
 ·intro X R L o c;simp [DK];omega
 ·intro R L o c;simp [DK,a]
 ·intro X R L o c;simp only [Bq,List.getD_eq_getElem?_getD,f,Option.getD_some]
 ·intro R L o c;simp only [Bq,List.getD_eq_getElem?_getD,b,Option.getD_some]
 ·intro X c;rw [List.getD_eq_getElem?_getD,f];rfl
 ·intro c;rw [List.getD_eq_getElem?_getD,b];rfl
 ·intro X c d;rw [List.set_append_left _ _ (by simpa using a),List.set_set]
 ·intro c d;exact List.set_set ..
 ·obtain ⟨g,rfl⟩:=Ag.1 h;exact List.set_getElem_self _
@[go_sem] theorem Zir (B X:List (List AV)) (R:List RowA) (L:List LoopA) (i k o:Nat) (c:List AV):DK ⟨B.set i c++X,R,L⟩ (.box (B.length+k) o)=decide (k<X.length):=by simp [DK]
@[go_sem] theorem Zgv (B X:List (List AV)) (R:List RowA) (L:List LoopA) (i o:Nat) (c:List AV):DK ⟨B.set i c++X,R,L⟩ (.box B.length o)=decide (0<X.length):=by simp [DK]
@[go_sem] theorem WN (B X:List (List AV)) (i k:Nat) (c:List AV):(B.set i c++X).getD (B.length+k) []=X.getD k []:=by
 have:=Zh (B.set i c) X k
 rwa [List.length_set] at this
@[go_sem] theorem Um (B X:List (List AV)) (i:Nat) (c:List AV):(B.set i c++X).getD B.length []=X.getD 0 []:=by
 have:=Wu (B.set i c) X
 rwa [List.length_set] at this
@[go_sem] theorem Zfs (B X:List (List AV)) (R:List RowA) (L:List LoopA) (i k o:Nat) (c:List AV):Bq ⟨B.set i c++X,R,L⟩ (.box (B.length+k) o)=X.getD k []:=WN B X i k c
@[go_sem] theorem ZeZ (B X:List (List AV)) (R:List RowA) (L:List LoopA) (i o:Nat) (c:List AV):Bq ⟨B.set i c++X,R,L⟩ (.box B.length o)=X.getD 0 []:=Um B X i c
@[go_sem] theorem Zdo (B X:List (List AV)) (i k:Nat) (c x:List AV):(B.set i c++X).set (B.length+k) x=B.set i c++X.set k x:=by
 have:=Zfh (B.set i c) X k x
 rwa [List.length_set] at this
@[go_sem] theorem Zcg (B X:List (List AV)) (i:Nat) (c x:List AV):(B.set i c++X).set B.length x=B.set i c++X.set 0 x:=by
 have:=Zee (B.set i c) X x
 rwa [List.length_set] at this
@[go_sem] theorem IG (B X:List (List AV)) (i k:Nat) (c:List AV):(B.set i c++X)[B.length+k]? = X[k]? := by
 rw [List.getElem?_append_right (by simp),List.length_set,Nat.add_sub_cancel_left]
@[go_sem] theorem Hw (B X:List (List AV)) (i:Nat) (c:List AV):(B.set i c++X)[B.length]? = X[0]? := by
 rw [List.getElem?_append_right (by simp),List.length_set,Nat.sub_self]
attribute [go_sem] List.length_set
theorem DY {α:Type} {B B':List α} {l:Nat} {c:α} (h:B <+: B') (hl:B[l]? = some c):B'[l]? = some c:=by
 obtain ⟨t,rfl⟩:=h
 rw [List.getElem?_append_left (Ag.1 hl).1];exact hl
theorem Ht {α:Type} {f:α→List AV} (sz:Nat) (hf:∀ x,(f x).length=sz):∀ {xs:List α} {i:Nat} {x:α},xs[i]? = some x→((xs.flatMap f).drop (i*sz)).take sz=f x
 | [],i,x,h=>by simp at h
 | y::ys,0,x,h=>by
  simp only [List.getElem?_cons_zero,Option.some.injEq] at h
  subst h
  simp [List.flatMap_cons,←hf y]
 | y::ys,i+1,x,h=>by
  simp only [List.getElem?_cons_succ] at h
  rw [List.flatMap_cons,Nat.succ_mul,Nat.add_comm,List.drop_append,hf y,Nat.add_sub_cancel_left,List.drop_eq_nil_of_le (by rw [hf y];omega),List.nil_append]
  exact Ht sz hf h
@[go_sem] theorem Zid (l:List AV):DG l 0 []=l:=by simp [DG]
@[go_sem] theorem ZfY (a x:AV) (l xs:List AV):DG (a::l) 0 (x::xs)=x::DG l 0 xs:=by simp [DG]
@[go_sem] theorem ZgT (a:AV) (l xs:List AV) (n:Nat):DG (a::l) (n+1) xs=a::DG l n xs:=by simp [DG,Nat.succ_add]
@[go_sem] theorem HQ (B l:List (List AV)) (k:Nat):(B++l)[B.length+k]? = l[k]? := by rw [List.getElem?_append_right (by omega),Nat.add_sub_cancel_left]
@[go_sem] theorem Gw (B l:List (List AV)):(B++l)[B.length]? = l[0]? := by rw [List.getElem?_append_right (by omega),Nat.sub_self]
theorem Owns.enter {Rw rows:List RowA} {l:List (Nat × Nat × Own)} {ho o:Own} {v:List VE} {sz n:Nat} (h:Owns Rw rows ((sz,n,o)::l) ho v):Owns rows rows [(sz,n,o)] o:=by
 have b:=h.each _ (List.mem_cons_self ..)
 refine ⟨Nat.le_refl _,fun _ _ _=>rfl,fun i r a q _=>?_,fun x c=>?_,by simp,by simp,.nil⟩
 ·rcases q with q | q
  ·have:=(Ag.1 a).1;omega
  ·rcases b with w | ⟨id,w1,w2,w3⟩
   ·simp only at w;rw [q] at w;cases w
   ·simp only at w1 w3;rw [q] at w1;cases w1
    rw [a] at w3;rw [Option.some.inj w3];rfl
 ·rw [List.mem_singleton.1 c]
  rcases b with w | ⟨id,w1,w2,w3⟩
  ·exact .inl w
  ·exact .inr ⟨id,w1,.inr w1,w3⟩
theorem Fp {nb nr nr' nl:Nat} {st:St} (h:Calm nb nr nl st) (hr:nr≤nr'):Calm nb nr' nl st :=
 ⟨fun r a x b=>C3 (Nat.le_refl _) hr (Nat.le_refl _) (h.rows r a x b),fun cs a x b=>C3 (Nat.le_refl _) hr (Nat.le_refl _) (h.boxes cs a x b),fun d a k x b c=>C3 (Nat.le_refl _) hr (Nat.le_refl _) (h.loops d a k x b c)⟩
section
variable {P:Program} {w0:World} {f:FuncId} {st:St}
def finG (st:St) (Post:AV→St→Prop) (r:AV) (s:St):Prop :=
 st.boxes.length≤s.boxes.length∧st.rows.length≤s.rows.length∧st.loops.length≤s.loops.length∧Calm st.boxes.length s.rows.length st.loops.length (s.cut st.boxes.length s.rows.length st.loops.length) ∧
  Under st.boxes.length s.rows.length st.loops.length r.pubA∧Post r.pubA (s.cut st.boxes.length s.rows.length st.loops.length)
theorem ACalls.finG {args:List AV} {Post:AV→St→Prop} (h:ACalls P w0 f args st (finG st Post)):ACalls P w0 f args st Post:=by
 refine ⟨h.1,fun M w b a c=>(h.2 M w b a c).mono ?_⟩
 rintro en m ⟨v,M',r,d,j,⟨i,n,e,l,g,k⟩,h3,h4,h5⟩
 exact ⟨v,M'.cut st.boxes.length d.rows.length st.loops.length,r.pubA,_,j,k,h3.cut (by have:=a.N;omega) (by have:=a.NR;omega) (by have:=a.loop.NL;omega) (by rw [h4.loop.NL];exact e),h4.cut i (Nat.le_refl _) e l,h5.pubA.cut g⟩
theorem Zkm {B B' X:List (List AV)} {R0 rows:List RowA} {L l:List LoopA} {Post:AV→St→Prop} {v:AV} {ow:List (Nat × Nat × Own)} {oh:Own} (ho:Owns R0 rows ow oh) (hc:Calm B.length rows.length L.length ⟨B',R0,L⟩) (hB:B'.length=B.length) (hu:Under B.length rows.length L.length v.pubA) (hp:Post v.pubA ⟨B',rows,L⟩) :
  Go.Ev.finG ⟨B,R0,L⟩ Post v ⟨B'++X,rows,L++l⟩:=by
 have e:St.cut ⟨B'++X,rows,L++l⟩ B.length rows.length L.length=⟨B',rows,L⟩:=by simp [St.cut,←hB]
 refine ⟨by simp [hB],ho.len,by simp,?_,hu,by simp only [e];exact hp⟩
 simp only [e]
 refine ⟨fun r d x hx=>?_,hc.boxes,hc.loops⟩
 obtain ⟨i,c,rfl⟩:=List.mem_iff_getElem.1 d
 have b:rows[i]? = some rows[i]:=List.getElem?_eq_getElem c
 by_cases q:R0.length≤i∨oh = .row i
 ·rw [ho.calm i _ b q (Q6 i)] at hx;cases hx
 ·have a:i<R0.length:=by omega
  have:=ho.keep i a (fun e=>q (.inr e))
  rw [b,List.getElem?_eq_getElem a] at this
  rw [Option.some.inj this] at hx
  exact hc.rows _ (List.getElem_mem a) x hx
end
theorem R9 {B B' X:List (List AV)} {R0 rows:List RowA} {L:List LoopA} {Post:AV→St→Prop} {v:AV} {ow:List (Nat × Nat × Own)} {oh:Own} (ho:Owns R0 rows ow oh) (hc:Calm B.length rows.length L.length ⟨B',R0,L⟩) (hB:B'.length=B.length) (hu:Under B.length rows.length L.length v.pubA) (hp:Post v.pubA ⟨B',rows,L⟩) :
  Go.Ev.finG ⟨B,R0,L⟩ Post v ⟨B'++X,rows,L⟩:=by
 have:=Zkm (X:=X) (l:=[]) ho hc hB hu hp
 rwa [List.append_nil] at this
section
variable {P:Program} {w0:World} {n:Nat} {e:Env} {st:St} {M0:Mem} {W0:World} {ro:Option Nat} {Q:AQ} {c:Code}
theorem Is {B0 B bs X:List (List AV)} {Rw rows:List RowA} {L:List LoopA} {l:List (Nat × Nat × Own)} {oh:Own} (hN:M0.N=B0.length) (hNR:M0.NR=Rw.length) (hNL:M0.NL=L.length) (hB:B.length=B0.length) (hc:Calm B0.length rows.length L.length ⟨B,Rw,L⟩) (ho:Owns Rw rows l oh)
  (hbs:∀ cs∈bs,∀ x∈cs,Under (B0.length+bs.length) rows.length L.length x) (he:Ls (B0.length+bs.length) rows.length L.length e)
  (h:GL P w0 n M0 W0 ro c Q e ⟨B++bs,rows,L⟩):GL P w0 n M0 W0 ro c Q e ⟨B++(bs++X),rows,L⟩:=by
 rw [←hB] at hN hc hbs he
 clear hB B0
 have p:=ho.len
 have d:St.cut ⟨B++(bs++X),rows,L⟩ (B.length+bs.length) rows.length L.length=⟨B++bs,rows,L⟩:=by
  simp only [St.cut,List.take_length,←List.append_assoc]
  rw [List.take_left' (by simp)]
 refine TM (B.length+bs.length) rows.length L.length (by simp) (Nat.le_refl _) (Nat.le_refl _) (by omega) (by omega) (by omega) ?_ he (by rw [d];exact h)
 rw [d]
 refine ⟨fun r m x hx=>?_,fun cs hcs x hx=>?_,fun j b k x hx g=>?_⟩
 ·obtain ⟨i,o,rfl⟩:=List.mem_iff_getElem.1 m
  have f:rows[i]? = some rows[i]:=List.getElem?_eq_getElem o
  by_cases q:Rw.length≤i∨oh = .row i
  ·rw [ho.calm i _ f q (Q6 i)] at hx;cases hx
  ·have a:i<Rw.length:=by omega
   have:=ho.keep i a (fun e=>q (.inr e))
   rw [f,List.getElem?_eq_getElem a] at this
   rw [Option.some.inj this] at hx
   exact C3 (by omega) (Nat.le_refl _) (Nat.le_refl _) (hc.rows _ (List.getElem_mem a) x hx)
 ·rcases List.mem_append.1 hcs with hcs | hcs
  ·exact C3 (by omega) (Nat.le_refl _) (Nat.le_refl _) (hc.boxes cs hcs x hx)
  ·exact hbs cs hcs x hx
 ·exact C3 (by omega) (Nat.le_refl _) (Nat.le_refl _) (hc.loops j b k x hx g)
end
def UD (acc:List Nat) (o:Oper):Nat:=o.after.toList.foldl (fun m e=>if Region.binds .any e then m ||| 2 ^ e.on ||| acc.getD e.on 0 else m) 0
def IK:List Oper→List Nat→List Nat
 | [],acc=>acc
 | o::os,acc=>IK os (acc++[UD acc o])
def Qo (ms:List Nat) (i j:Nat):Bool:=(ms.getD i 0).testBit j
theorem YH (acc:List Nat) (j:Nat):∀ (es:List Edge) (m:Nat),(es.foldl (fun m e=>if Region.binds .any e then m ||| 2 ^ e.on ||| acc.getD e.on 0 else m) m).testBit j=true→m.testBit j=true∨∃ e∈es,Region.binds .any e=true∧(e.on=j∨Qo acc e.on j=true)
 | [],m,h => .inl h
 | e::es,m,h=>by
  simp only [List.foldl_cons] at h
  rcases YH acc j es _ h with h | ⟨e',h1,h2⟩
  ·by_cases c:Region.binds .any e=true
   ·rw [Ae c] at h
    simp only [Nat.testBit_or,Bool.or_eq_true,Nat.testBit_two_pow,decide_eq_true_eq] at h
    rcases h with (h | h) | h
    ·exact .inl h
    ·exact .inr ⟨e,List.mem_cons_self .., c,.inl h⟩
    ·exact .inr ⟨e,List.mem_cons_self .., c,.inr h⟩
   ·rw [Af c] at h;exact .inl h
  ·exact .inr ⟨e',List.mem_cons_of_mem _ h1,h2⟩
theorem UA (acc acc':List Nat):∀ (es:List Edge) (m:Nat),(∀ e∈es,Region.binds .any e=true→acc.getD e.on 0=acc'.getD e.on 0) →
  es.foldl (fun m e=>if Region.binds .any e then m ||| 2 ^ e.on ||| acc.getD e.on 0 else m) m=es.foldl (fun m e=>if Region.binds .any e then m ||| 2 ^ e.on ||| acc'.getD e.on 0 else m) m
 | [],_,_=>rfl
 | e::es,m,h=>by
  simp only [List.foldl_cons]
  have:(if Region.binds .any e=true then m ||| 2 ^ e.on ||| acc.getD e.on 0 else m)=if Region.binds .any e=true then m ||| 2 ^ e.on ||| acc'.getD e.on 0 else m:=by
   by_cases c:Region.binds .any e=true
   ·rw [Ae c,Ae c,h e (List.mem_cons_self ..) c]
   ·rw [Af c,Af c]
  rw [this]
  exact UA acc acc' es _ fun a b=>h a (List.mem_cons_of_mem _ b)
theorem RU:∀ (os:List Oper) (acc:List Nat) (i:Nat),i<acc.length→(IK os acc).getD i 0=acc.getD i 0
 | [],_,_,_=>rfl
 | o::os,acc,i,h=>by
  rw [IK,RU os _ i (by simp;omega),List.getD_eq_getElem?_getD,List.getElem?_append_left h,List.getD_eq_getElem?_getD]
theorem YV:∀ (os:List Oper) (acc:List Nat) (k:Nat) (o:Oper),os[k]? = some o→(∀ (k:Nat) (o:Oper),os[k]? = some o→∀ e∈o.after,Region.binds .any e=true→e.on<acc.length+k)→(IK os acc).getD (acc.length+k) 0=UD (IK os acc) o
 | [],_,_,_,h,_=>by simp at h
 | o'::os,acc,0,o,h,hb=>by
  simp only [List.getElem?_cons_zero,Option.some.injEq] at h
  subst h
  rw [IK,RU os _ _ (by simp)]
  have c:(acc++[UD acc o']).getD (acc.length+0) 0=UD acc o':=by simp [List.getD_eq_getElem?_getD]
  rw [c]
  refine UA _ _ _ _ fun e b a=>?_
  have:=hb 0 o' rfl e (by simpa using b) a
  rw [RU os _ _ (by simp;omega),List.getD_eq_getElem?_getD,List.getD_eq_getElem?_getD,List.getElem?_append_left (by omega)]
 | o'::os,acc,k+1,o,h,hb=>by
  rw [IK]
  have:=YV os (acc++[UD acc o']) k o (by simpa using h) (fun k o h e b a=>by
   have:=hb (k+1) o (by simpa using h) e b a
   simp;omega)
  rw [List.length_append,List.length_singleton,Nat.add_assoc,Nat.add_comm 1 k] at this
  exact this
def Qs (ef:List Nat) (ms:List Nat) (i j:Nat):Bool :=
 if ef.contains i then ef.contains j||Qo ms i j else if ef.contains j then Qo ms j i else decide (j<i)&&Qo ms i j
def TE (ef:List Nat) (ms:List Nat) (i j:Nat):Bool :=
 if ef.contains i then ef.contains j||Qo ms i j else ef.contains j&&Qo ms j i
def Vd (l:List Oper) (ef:List Nat):Bool:=(ef.all fun i=>decide (i<l.length)) &&
 (List.range l.length).all fun i=>match l[i]? with
  | some o=>(o.after.toList.all fun e => !Region.binds .any e||decide (e.on<i))&&(List.range l.length).all fun j=>match l[j]? with
   | some p=>match p.dst with
    | some s=>(decide (i=j)||o.dst != some s||TE ef (IK l []) i j)&&(!(S4 l o).contains s||Qs ef (IK l []) i j)
    | none=>true
   | none=>true
  | none=>true
theorem FU {l:List Oper} {ef:List Nat} (hB:Vd l ef=true) {i:Nat} {o:Oper} (ho:l[i]? = some o) :
  (∀ e∈o.after,Region.binds .any e=true→e.on<i)∧∀ j p s,l[j]? = some p→p.dst=some s→(o.dst=some s→i=j∨TE ef (IK l []) i j=true)∧(s∈S4 l o→Qs ef (IK l []) i j=true):=by
 have b:=List.all_eq_true.1 (Bool.and_eq_true_iff.1 hB).2 i (List.mem_range.2 (Ag.1 ho).1)
 simp only [ho,Bool.and_eq_true] at b
 refine ⟨fun e d f=>?_,fun j p s c hs=>?_⟩
 ·have:=List.all_eq_true.1 b.1 e (by simpa using d)
  simpa [f] using this
 ·have a:=List.all_eq_true.1 b.2 j (List.mem_range.2 (Ag.1 c).1)
  simp only [c,hs,Bool.and_eq_true,Bool.or_eq_true,decide_eq_true_eq,bne_iff_ne,Bool.not_eq_true'] at a
  refine ⟨fun hd=>?_,fun g=>?_⟩
  ·rcases a.1 with (h | h) | h
   ·exact .inl h
   ·exact absurd hd h
   ·exact .inr h
  ·rcases a.2 with h3 | h3
   ·have:(S4 l o).contains s=true:=by simpa using g
    rw [h3] at this;cases this
   ·exact h3
theorem TQ {l:List Oper} {ef:List Nat} (hB:Vd l ef=true) {listed:Array Bool} (closed:∀ (j:Nat) (oj:Oper),l[j]? = some oj→listed.getD j false=true→∀ e∈oj.after,Region.binds .any e=true→listed.getD e.on false=true) (j:Nat) :
  ∀ (i:Nat) (o:Oper),l[i]? = some o→(∀ e∈o.after,Region.binds .any e=true→listed.getD e.on false=true)→Qo (IK l []) i j=true→listed.getD j false=true:=by
 intro i
 induction i using Nat.strongRecOn with
 | _ i ih =>
  intro o ho n a
  have f:=YV l [] i o ho (fun k o h e c g=>by have:=(FU hB h).1 e c g;simpa using this)
  simp only [List.length_nil,Nat.zero_add] at f
  unfold Qo at a
  rw [f] at a
  rcases YH _ _ _ _ a with h | ⟨e,h1,h2,h3⟩
  ·simp at h
  ·have c:e∈o.after:=by simpa using h1
   have b:=n e c h2
   have d:=(FU hB ho).1 e c h2
   rcases h3 with rfl | h3
   ·exact b
   ·have m:=(Ag.1 ho).1
    exact ih e.on d _ (List.getElem?_eq_getElem (by omega)) (closed e.on _ (List.getElem?_eq_getElem (by omega)) b) h3
def Eh (ef:List Nat):Nat→List Oper→List Oper
 | _,[]=>[]
 | i,o::os=>(if ef.contains i then { o with dst:=none,op := .move (.const (.bool true)),guard:=none } else o)::Eh ef (i+1) os
theorem RO (ef:List Nat):∀ (l:List Oper) (k i:Nat),(Eh ef k l)[i]? = (l[i]?).map fun o=>if ef.contains (k+i) then { o with dst:=none,op := .move (.const (.bool true)),guard:=none } else o
 | [],_,_=>by simp [Eh]
 | o::os,k,0=>by simp [Eh]
 | o::os,k,i+1=>by simp only [Eh,List.getElem?_cons_succ];rw [RO ef os (k+1) i,Nat.add_assoc,Nat.add_comm 1 i]
theorem Kt (ef:List Nat):∀ (l:List Oper) (k:Nat),(Eh ef k l).length=l.length
 | [],_=>rfl
 | o::os,k=>by simp [Eh,Kt ef os]
section
variable {P:Program} {w0:World} {n:Nat}
def DU (P:Program) (w0:World) (ev:Env) (s:St) (o:Oper) (v:AV) (s':St):Prop :=
 match o.op with
 | .call ⟨.value f,args,_⟩=>AP ev true f∧(∀ x∈args.toList,AP ev true x)∧OJ P w0 (Ar ev f) (args.toList.map fun x=>argP ev (Ar ev x)) s fun r t=>r=v∧t=s'
 | op=>(Be P ev true s op).1∧(Be P ev true s op).2.1=v∧(Be P ev true s op).2.2=s'
theorem XX {ev:Env} {s s':St} {o:Oper} {v:AV} (hc:¬ LK o.op=true):DU P w0 ev s o v s'=((Be P ev true s o.op).1∧(Be P ev true s o.op).2.1=v∧(Be P ev true s o.op).2.2=s'):=by
 obtain ⟨g,op,d,e,a,b⟩:=o
 cases op with
 | call cc =>
  obtain ⟨callee,c,h⟩:=cc
  cases callee with
  | value f=>exact absurd rfl hc
  | _=>rfl
 | _=>rfl
def Zc (P:Program) (w0:World) (ev:Env) (s:St) (o:Oper) (Post:AV→St→Prop):Prop :=
 (LK o.op=true∧match o.op with
  | .call ⟨.value f,args,_⟩=>AP ev true f∧(∀ x∈args.toList,AP ev true x)∧OJ P w0 (Ar ev f) (args.toList.map fun x=>argP ev (Ar ev x)) s Post
  | _=>False)∨∃ v s',DU P w0 ev s o v s'∧∀ r t,r=v∧t=s'→Post r t
theorem Xd {M:Mem} {ev:Env} {s s':St} {a:Act} {w:World} (h:Rel w0 n M ev s a w) (ro:Option Nat) (m:Nat) {o:Oper} {v:AV} (hv:DU P w0 ev s o v s')
  (Q:Exit→Act→World→Prop) (K:Act→World→Prop) (hK:∀ u w' M',Ext w0 M w M' w'→RelSt w0 M' s' w'→R w0 M' w' u v→K (a.put o.dst u) w'):o.wpIn (FW ro) m P a w K Q:=by
 by_cases hc:LK o.op=true
 ·obtain ⟨dst,op,p,q,j,k⟩:=o
  cases op<;>try cases hc
  rename_i cc
  obtain ⟨callee,l,y⟩:=cc
  cases callee<;>try cases hc
  rename_i f
  obtain ⟨e,d,g⟩:=hv
  refine KL h ro m e d g Q _ (fun r t x u w' M' i b c=>?_)
  obtain ⟨rfl,rfl⟩:=x
  exact hK u w' M' i b c
 ·rw [XX hc] at hv
  obtain ⟨e,d,g⟩:=hv
  refine Sm h ro m o e Q _ (fun u w' M' i b c=>?_)
  rw [g] at b
  rw [d] at c
  exact hK u w' M' i b c
theorem Zb {M:Mem} {ev:Env} {s:St} {a:Act} {w:World} (h:Rel w0 n M ev s a w) (ro:Option Nat) (m:Nat) {o:Oper} {Post:AV→St→Prop} (hv:Zc P w0 ev s o Post)
  (Q:Exit→Act→World→Prop) (K:Act→World→Prop) (hK:∀ v s' u w' M',Post v s'→Ext w0 M w M' w'→RelSt w0 M' s' w'→R w0 M' w' u v→K (a.put o.dst u) w'):o.wpIn (FW ro) m P a w K Q:=by
 rcases hv with ⟨hc,hv⟩ | ⟨v,s',hv,d⟩
 ·obtain ⟨dst,op,k,p,e,i⟩:=o
  cases op<;>try cases hc
  rename_i cc
  obtain ⟨callee,j,y⟩:=cc
  cases callee<;>try cases hc
  rename_i f
  obtain ⟨q,l,x⟩:=hv
  exact KL h ro m q l x Q _ (fun r t d u w' M' c b g=>hK r t u w' M' d c b g)
 ·exact Xd h ro m hv Q K fun u w' M' c b g=>hK v s' u w' M' (d _ _ ⟨rfl,rfl⟩) c b g
def Good (P:Program) (w0:World) (n:Nat) (l:List Oper) (ef:List Nat) (F:St→Prop) (T:Env→St→Prop):Nat→List Nat→Env→St→Prop
 | 0,_,_,_=>False
 | k+1,dn,ev,s=>F s∧((ef.all fun i=>dn.contains i)=true→T ev s)∧∀ i∈ef,dn.contains i=false→(ef.all fun j => !Qo (IK l []) i j||dn.contains j)=true →
   ∃ o,l[i]? = some o∧o.guard=none∧LC n o.dst∧∃ Post:AV→St→Prop,Zc P w0 (DO true l o ev) s o Post∧∀ v s',Post v s'→Good P w0 n l ef F T k (i::dn) (Lm ev o.dst true v) s'
structure AInv (w0:World) (n:Nat) (l:List Oper) (ef:List Nat) (e e1:Env) (M1:Mem) (w1:World) (ds:List Deferred) (dn:List Nat) (ev:Env) (s:St) (listed:Array Bool) (a:Act) (w:World) (M:Mem):Prop where
 size:listed.size=l.length
 closed:∀ (j:Nat) (oj:Oper),l[j]? = some oj→listed.getD j false=true→∀ e∈oj.after,Region.binds .any e=true→listed.getD e.on false=true
 eff:∀ i∈ef,(listed.getD i false=true↔i∈dn)
 sub:∀ i∈dn,i∈ef
 rel:RelSt w0 M s w
 tmps:a.tmps.size=n
 defers:a.defers=ds
 ext:Ext w0 M1 w1 M w
 evn:∀ t,(∀ j∈dn,∀ o,l[j]? = some o→o.dst≠some t)→D2 ev t=D2 e1 t
 done:∀ t x,(∃ j∈dn,∃ o,l[j]? = some o∧o.dst=some t)→D2 ev t=some x→entryOk w0 M w (a.tmps.getD t undef) x
 new:∀ t x,(∀ j∈dn,∀ o,l[j]? = some o→o.dst≠some t)→(∃ i o,i ∉ ef∧l[i]? = some o∧o.dst=some t∧listed.getD i false=true)→D2 e1 t=some x→entryOk w0 M w (a.tmps.getD t undef) x
 old:∀ t x,(∀ i o,l[i]? = some o→o.dst=some t→listed.getD i false=false)→D2 e t=some x→entryOk w0 M w (a.tmps.getD t undef) x
theorem WH {l:List Oper} {ef:List Nat} {e e1:Env} {F:St→Prop} {T:Env→St→Prop} {M1:Mem} {w1:World} {ds:List Deferred} {ro:Option Nat} {m:Nat} {Q:Exit→Act→World→Prop} (hB:Vd l ef=true)
  (hF:∀ s,F s→∃ c,YK P w0 n true l (fun e' s'=>e'=e1∧s'=s) c (Eh ef 0 l) e s)
  (hT:∀ ev s M a w,T ev s→Rel w0 n M ev s a w→Ext w0 M1 w1 M w→a.defers=ds→Q .normal a w) :
  ∀ fuel listed a w M k dn ev s,fuel=listed.toList.count false→Good P w0 n l ef F T k dn ev s→AInv w0 n l ef e e1 M1 w1 ds dn ev s listed a w M→wpAnyIn (FW ro) m P .any l.toArray Q fuel listed a w:=by
 -- what the z of the operations apart from the effects tells
 have z:∀ s,F s→∃ E C V,Trail P w0 n l (Eh ef 0 l) e s E C V∧E l.length=e1:=by
  intro s hs
  obtain ⟨c,hc⟩:=hF s hs
  obtain ⟨E,C,V,h1,h2,_⟩:=Vs c _ _ hc
  rw [Kt] at h2
  exact ⟨E,C,V,h1,h2⟩
 have af:∀ {i:Nat} {o:Oper},i ∉ ef→l[i]? = some o→(Eh ef 0 l)[i]? = some o:=by
  intro i o hi ho
  rw [RO,ho]
  simp [hi]
 have G:∀ {i:Nat} {o:Oper} {t:Nat},(Eh ef 0 l)[i]? = some o→o.dst=some t→i ∉ ef∧l[i]? = some o:=by
  intro i o t hi hd
  rw [RO] at hi
  cases hl:l[i]? with
  | none=>simp [hl] at hi
  | some p =>
   rw [hl] at hi
   simp only [Option.map_some,Nat.zero_add,Option.some.injEq] at hi
   by_cases c:i∈ef
   ·simp [c] at hi
    subst hi
    cases hd
   ·simp [c] at hi
    subst hi
    exact ⟨c,rfl⟩
 have Z:∀ (i j:Nat) (o p:Oper) (t:Nat),(Eh ef 0 l)[i]? = some o→(Eh ef 0 l)[j]? = some p→o.dst=some t→p.dst=some t→i=j:=by
  intro i j o p t hi hj h1 h2
  obtain ⟨a1,a2⟩:=G hi h1
  obtain ⟨b1,b2⟩:=G hj h2
  rcases ((FU hB a2).2 j p t b2 h2).1 h1 with h | h
  ·exact h
  ·simp [TE,a1,b1] at h
 have ae:∀ s,F s→∀ t,(∀ i o,i ∉ ef→l[i]? = some o→o.dst≠some t)→D2 e1 t=D2 e t:=by
  intro s hs t ht
  obtain ⟨E,C,V,T',H⟩:=z s hs
  have:=(NY T' Z t l.length (by rw [Kt];exact Nat.le_refl _)).1 fun i o _ hi hd=>by
   obtain ⟨a1,a2⟩:=G hi hd
   exact ht i o a1 a2 hd
  rw [H] at this
  exact this
 intro fuel
 induction fuel with
 | zero =>
  intro listed a w M k dn ev s hf hg inv
  have q:∀ j,j<l.length→listed.getD j false=true:=by
   intro j hj
   cases hq:listed.getD j false with
   | true=>rfl
   | false =>
    exfalso
    have az:j<listed.size:=by rw [inv.size];omega
    have:false∈listed.toList:=by
     have e1:listed[j]=false:=by simpa [az] using hq
     rw [←e1];simp
    have:=List.count_pos_iff.2 this
    omega
  cases k with
  | zero=>exact hg.elim
  | succ k =>
  obtain ⟨g1,g2,_⟩:=hg
  have a4:(ef.all fun i=>dn.contains i)=true:=by
   refine List.all_eq_true.2 fun i hi=>?_
   have c:i<l.length:=by simpa using List.all_eq_true.1 (Bool.and_eq_true_iff.1 hB).1 i hi
   simpa using (inv.eff i hi).1 (q i c)
  refine ⟨?_,hT ev s M a w (g2 a4) ⟨inv.rel,inv.tmps,fun t x g=>?_⟩ inv.ext inv.defers⟩
  ·refine List.eq_nil_iff_forall_not_mem.2 fun i hi=>?_
   obtain ⟨U,o,ho,_⟩:=mem_ready.1 hi
   have ho':l[i]? = some o:=by simpa using ho
   have:=q i (Ag.1 ho').1
   obtain ⟨q1,q2⟩:=Zak U
   obtain ⟨q3,q4⟩:=Zb0 this
   rw [q2] at q4;cases q4
  ·by_cases A:∃ j∈dn,∃ o,l[j]? = some o∧o.dst=some t
   ·exact inv.done t x A g
   ·have N:∀ j∈dn,∀ o,l[j]? = some o→o.dst≠some t:=fun j hj o ho hd=>A ⟨j,hj,o,ho,hd⟩
    rw [inv.evn t N] at g
    by_cases Bf:∃ i o,i ∉ ef∧l[i]? = some o∧o.dst=some t
    ·obtain ⟨i,o,b1,b2,b3⟩:=Bf
     exact inv.new t x N ⟨i,o,b1,b2,b3,q i (Ag.1 b2).1⟩ g
    ·rw [ae s g1 t fun i o b1 b2 b3=>Bf ⟨i,o,b1,b2,b3⟩] at g
     refine inv.old t x (fun i o ho hd=>?_) g
     by_cases c:i∈ef
     ·exact absurd hd (N i ((inv.eff i c).1 (q i (Ag.1 ho).1)) o ho)
     ·exact absurd ⟨i,o,c,ho,hd⟩ Bf
 | succ fuel ih =>
  intro listed a w M k dn ev s hf hg inv
  cases k with
  | zero=>exact hg.elim
  | succ k =>
  obtain ⟨g1,g2,g3⟩:=hg
  have ag:∃ j,j<l.length∧listed.getD j false=false∧∀ i,i<j→listed.getD i false=true:=by
   refine SZ fun q=>?_
   have:0<listed.toList.count false:=by omega
   have hm:=List.count_pos_iff.1 this
   obtain ⟨i,hi,H⟩:=List.mem_iff_getElem.1 hm
   have b:i<listed.size:=by simpa using hi
   have:=q i (by rw [←inv.size];exact b)
   simp only [Array.getD_eq_getD_getElem?,Array.getElem?_eq_getElem b,Option.getD_some] at this
   rw [Array.getElem_toList] at H
   rw [H] at this;cases this
  obtain ⟨k0,ar,aq,au⟩:=ag
  have ax:k0<listed.size:=by rw [inv.size];omega
  have a5:l[k0]? = some l[k0]:=List.getElem?_eq_getElem ar
  have O:k0∈Region.ready .any l.toArray listed :=
   mem_ready.2 ⟨by simpa [ax] using aq,l[k0],by simp,fun ed H hb=>au _ ((FU hB a5).1 ed H hb)⟩
  refine ⟨fun h0=>absurd O (by rw [h0];simp),fun i hi=>?_⟩
  obtain ⟨U,o,ho,aa⟩:=mem_ready.1 hi
  have ho':l[i]? = some o:=by simpa using ho
  have ai:i<l.length:=(Ag.1 ho').1
  have b:i<listed.size:=by rw [inv.size];omega
  have ad:listed.getD i false=false:=by simpa [b] using U
  have J:∀ j,Qo (IK l []) i j=true→listed.getD j false=true:=fun j hj=>TQ hB inv.closed j i o ho' aa hj
  have ab:fuel=(listed.setIfInBounds i true).toList.count false:=by
   have ap:listed[i]=false:=by simpa [b] using U
   have a6:0<listed.toList.count false:=List.count_pos_iff.2 (by rw [←ap];simp)
   rw [Array.toList_setIfInBounds,List.count_set (by simpa using b)]
   simp only [Array.getElem_toList,ap]
   rw [Ae (show (false == false)=true from rfl),Af (show ¬ (true == false)=true by decide)]
   omega
  have y:∀ (j:Nat) (oj:Oper),l[j]? = some oj→(listed.setIfInBounds i true).getD j false=true→∀ ed∈oj.after,Region.binds .any ed=true→(listed.setIfInBounds i true).getD ed.on false=true:=by
   intro j oj hj hl ed H hb
   rw [EY b] at hl ⊢
   split
   ·rfl
   ·by_cases c:i=j
    ·subst c
     rw [ho'] at hj;cases hj
     exact aa ed H hb
    ·rw [Af c] at hl
     exact inv.closed j oj hj hl ed H hb
  unfold wpOpIn
  simp only [ho]
  by_cases hie:i∈ef
  ·-- an effect
   have aw:dn.contains i=false:=by
    cases hq:dn.contains i with
    | false=>rfl
    | true=>have:=(inv.eff i hie).2 (by simpa using hq);rw [ad] at this;cases this
   obtain ⟨o2,q1,q2,q3,Post,q4,ay⟩:=g3 i hie aw (by
    refine List.all_eq_true.2 fun j hj=>?_
    cases hq:Qo (IK l []) i j with
    | false=>rfl
    | true=>simpa using (inv.eff j hj).1 (J j hq))
   rw [ho'] at q1;cases q1
   have K:Rel w0 n M (DO true l o ev) s a w:=by
    refine ⟨inv.rel,inv.tmps,fun t x hs=>?_⟩
    simp only [DO,if_true] at hs
    have hm:=MI _ _ _ _ hs
    have g:=IZ _ _ _ _ hs
    by_cases A:∃ j∈dn,∃ o,l[j]? = some o∧o.dst=some t
    ·exact inv.done t x A g
    ·have N:∀ j∈dn,∀ o,l[j]? = some o→o.dst≠some t:=fun j hj o ho hd=>A ⟨j,hj,o,ho,hd⟩
     rw [inv.evn t N] at g
     by_cases Bf:∃ i o,i ∉ ef∧l[i]? = some o∧o.dst=some t
     ·obtain ⟨j,p,b1,b2,b3⟩:=Bf
      have hl:=((FU hB ho').2 j p t b2 b3).2 hm
      have:Qo (IK l []) i j=true:=by simpa [Qs,hie,b1] using hl
      exact inv.new t x N ⟨j,p,b1,b2,b3,J j this⟩ g
     ·rw [ae s g1 t fun i o b1 b2 b3=>Bf ⟨i,o,b1,b2,b3⟩] at g
      refine inv.old t x (fun j p hp hd=>?_) g
      by_cases c:j∈ef
      ·cases hq:listed.getD j false with
       | false=>rfl
       | true=>exact absurd hd (N j ((inv.eff j c).1 hq) p hp)
      ·exact absurd ⟨j,p,c,hp,hd⟩ Bf
   have hw:Region.wanted o (yielded l.toArray a.tmps)=true:=by simp [Region.wanted,q2]
   rw [hw,Ae rfl]
   refine Zb K ro m q4 Q _ fun v s' u w' M' ah g aj hu=>?_
   have q5:=ay v s' ah
   have keep:∀ t x,o.dst≠some t→entryOk w0 M w (a.tmps.getD t undef) x→entryOk w0 M' w' ((a.put o.dst u).tmps.getD t undef) x:=by
    intro t x f h1
    rw [Le a o.dst u t (by rw [inv.tmps];exact q3),Af f]
    exact h1.mono g
   refine ih _ _ _ M' k (i::dn) _ s' ab q5 ⟨by simp [inv.size],y,fun j hj=>?_,fun j hj=>?_,aj,by rw [Qz];exact inv.tmps,by rw [KO];exact inv.defers,inv.ext.trans g,fun t ht=>?_,fun t x Y hx'=>?_,fun t x Y hN hx'=>?_,fun t x hO hx'=>?_⟩
   ·rw [EY b]
    by_cases c:i=j
    ·subst c;simp
    ·rw [Af c,inv.eff j hj];simp [Ne.symm c]
   ·rcases List.mem_cons.1 hj with rfl | hj
    ·exact hie
    ·exact inv.sub j hj
   ·have f:=ht i (List.mem_cons_self ..) o ho'
    have:D2 (Lm ev o.dst true v) t=D2 ev t:=by
     cases hd:o.dst with
     | none=>rfl
     | some d=>rw [hd] at f;simp only [Lm,D2];rw [Af (fun h=>f (by rw [h]))]
    rw [this]
    exact inv.evn t fun j hj=>ht j (List.mem_cons_of_mem _ hj)
   ·by_cases c:o.dst=some t
    ·rw [c] at hx'
     simp only [Lm,D2,if_true,Option.some.injEq] at hx'
     subst hx'
     rw [Le a o.dst u t (by rw [inv.tmps];exact q3),Ae c]
     simpa only [entryOk,if_true] using hu
    ·have:D2 (Lm ev o.dst true v) t=D2 ev t:=by
      cases hd:o.dst with
      | none=>rfl
      | some d=>rw [hd] at c;simp only [Lm,D2];rw [Af (fun h=>c (by rw [h]))]
     rw [this] at hx'
     refine keep t x c (inv.done t x ?_ hx')
     obtain ⟨j,hj,p,hp,hd⟩:=Y
     rcases List.mem_cons.1 hj with rfl | hj
     ·rw [ho'] at hp;cases hp;exact absurd hd c
     ·exact ⟨j,hj,p,hp,hd⟩
   ·have f:=Y i (List.mem_cons_self ..) o ho'
    refine keep t x f (inv.new t x (fun j hj=>Y j (List.mem_cons_of_mem _ hj)) ?_ hx')
    obtain ⟨j,p,b1,b2,b3,b4⟩:=hN
    rw [EY b] at b4
    by_cases c:i=j
    ·subst c;exact absurd hie b1
    ·rw [Af c] at b4;exact ⟨j,p,b1,b2,b3,b4⟩
   ·have f:o.dst≠some t:=fun hd=>by
     have:=hO i o ho' hd
     rw [EY b,Ae rfl] at this;cases this
    refine keep t x f (inv.old t x (fun j p hp hd=>?_) hx')
    have:=hO j p hp hd
    rw [EY b] at this
    by_cases c:i=j
    ·rw [Ae c] at this;cases this
    ·rwa [Af c] at this
  ·-- one of the others
   obtain ⟨E,C,V,T',H⟩:=z s g1
   have am:=af hie ho'
   obtain ⟨t1,t2,t3,t4,t5⟩:=T'.step i o am
   have r:∀ t j,j≤l.length→_:=fun t j hj=>NY T' Z t j (by rw [Kt];exact hj)
   have D:∀ j∈dn,∀ p,l[j]? = some p→Qo (IK l []) j i=true→False:=by
    intro j hj p hp a0
    have av:=(inv.eff j (inv.sub j hj)).2 hj
    have:=TQ hB inv.closed i j p hp (inv.closed j p hp av) a0
    rw [ad] at this;cases this
   have K:Rel w0 n M (DO true l o (E i)) s a w:=by
    refine ⟨inv.rel,inv.tmps,fun t x hs=>?_⟩
    simp only [DO,if_true] at hs
    have hm:=MI _ _ _ _ hs
    have g:=IZ _ _ _ _ hs
    have N:∀ j∈dn,∀ p,l[j]? = some p→p.dst≠some t:=by
     intro j hj p hp hd
     have hl:=((FU hB ho').2 j p t hp hd).2 hm
     have hje:=inv.sub j hj
     exact D j hj p hp (by simpa [Qs,hie,hje] using hl)
    by_cases Bf:∃ i o,i ∉ ef∧l[i]? = some o∧o.dst=some t
    ·obtain ⟨j,p,b1,b2,b3⟩:=Bf
     have hl:=((FU hB ho').2 j p t b2 b3).2 hm
     have ao:j<i∧Qo (IK l []) i j=true:=by simpa [Qs,hie,b1] using hl
     have e2:=(r t i (Nat.le_of_lt ai)).2 j p ao.1 (af b1 b2) b3
     have e3:=(r t l.length (Nat.le_refl _)).2 j p (by omega) (af b1 b2) b3
     rw [e2] at g
     rw [H] at e3
     exact inv.new t x N ⟨j,p,b1,b2,b3,J j ao.2⟩ (e3.trans g)
    ·have:=(r t i (Nat.le_of_lt ai)).1 fun j p _ hj hd=>by
      obtain ⟨a1,a2⟩:=G hj hd
      exact Bf ⟨j,p,a1,a2,hd⟩
     rw [this] at g
     refine inv.old t x (fun j p hp hd=>?_) g
     by_cases c:j∈ef
     ·cases hq:listed.getD j false with
      | false=>rfl
      | true=>exact absurd hd (N j ((inv.eff j c).1 hq) p hp)
     ·exact absurd ⟨j,p,c,hp,hd⟩ Bf
   refine SH K ro m t2 (by rw [t4];exact t5) Q _ fun u w' M' g aj hu=>?_
   rw [t4] at hu
   have keep:∀ t x,o.dst≠some t→entryOk w0 M w (a.tmps.getD t undef) x→entryOk w0 M' w' ((a.put o.dst u).tmps.getD t undef) x:=by
    intro t x f h1
    rw [Le a o.dst u t (by rw [inv.tmps];exact t3),Af f]
    exact h1.mono g
   have a3:∀ t,o.dst=some t→∀ j∈dn,∀ p,l[j]? = some p→p.dst≠some t:=by
    intro t hd j hj p hp ak
    have hje:=inv.sub j hj
    rcases ((FU hB ho').2 j p t hp ak).1 hd with h | h
    ·subst h;exact hie hje
    ·exact D j hj p hp (by simpa [TE,hie,hje] using h)
   refine ih _ _ _ M' (k+1) dn ev s ab ⟨g1,g2,g3⟩ ⟨by simp [inv.size],y,fun j hj=>?_,inv.sub,aj,by rw [Qz];exact inv.tmps,by rw [KO];exact inv.defers,inv.ext.trans g,inv.evn,fun t x Y hx'=>?_,fun t x Y hN hx'=>?_,fun t x hO hx'=>?_⟩
   ·rw [EY b,Af (fun (h:i=j)=>hie (h▸hj))]
    exact inv.eff j hj
   ·refine keep t x (fun hd=>?_) (inv.done t x Y hx')
    obtain ⟨j,hj,p,hp,ak⟩:=Y
    exact a3 t hd j hj p hp ak
   ·by_cases c:o.dst=some t
    ·rw [Le a o.dst u t (by rw [inv.tmps];exact t3),Ae c]
     have e3:=(r t l.length (Nat.le_refl _)).2 i o ai am c
     rw [H,hx'] at e3
     cases e3
     exact hu
    ·refine keep t x c (inv.new t x Y ?_ hx')
     obtain ⟨j,p,b1,b2,b3,b4⟩:=hN
     rw [EY b] at b4
     by_cases c':i=j
     ·subst c';rw [ho'] at b2;cases b2;exact absurd b3 c
     ·rw [Af c'] at b4;exact ⟨j,p,b1,b2,b3,b4⟩
   ·have f:o.dst≠some t:=fun hd=>by
     have:=hO i o ho' hd
     rw [EY b,Ae rfl] at this;cases this
    refine keep t x f (inv.old t x (fun j p hp hd=>?_) hx')
    have:=hO j p hp hd
    rw [EY b] at this
    by_cases c:i=j
    ·rw [Ae c] at this;cases this
    ·rwa [Af c] at this
def Conv (w0:World) (n nb:Nat) (e:Env) (s:St) (e':Env) (s':St):Prop:=∀ M a w,Rel w0 n M e s a w→∃ M',(∀ Ms ws,Ms.N=nb→Ext w0 Ms ws M w→Ext w0 Ms ws M' w)∧Rel w0 n M' e' s' a w
theorem Ho {M0:Mem} {W0:World} {ro:Option Nat} {Q:AQ} {e:Env} {st:St} (hm:P.follows .mixedOrders=true) (ef:List Nat) (L:List Nat) {id:Nat} {l:List Oper} (hB:Vd l ef=true) (F:St→Prop) (k nb:Nat) {e1 e2:Env} {s2:St} (hnb:st.boxes.length=nb)
  (hF:∀ s,F s→∃ c,YK P w0 n true l (fun e' s'=>e'=e1∧s'=s) c (Eh ef 0 l) e s) (hG:Good P w0 n l ef F (fun ev s=>Conv w0 n nb ev s e2 s2) k [] e1 st) (hQ:Q .normal (Dz L e2) s2):GL P w0 n M0 W0 ro (.region id l.toArray true) Q e st:=by
 intro m M a w hr
 obtain ⟨d1,d2⟩:=hr.rel.st.drew
 refine wpIn_region_any hm (WH (e:=e) (e1:=e1) (M1:=M) (w1:=w) (ds:=a.defers) hB hF (fun ev s g q u r b f hd=>?_) _ _ a _ M k [] e1 st ?_ hG ?_)
 ·obtain ⟨M2,p,o⟩:=r g q u b
  have d:=p M w (hr.rel.st.N.trans hnb) f
  refine ⟨M2,_,_,⟨o.sub (Bm L _),hr.ext.trans d,?_⟩,hQ⟩
  rw [hd]
  exact hr.marks.later d hr.rel.st
 ·simp
 ·have hnl:∀ j,(Array.replicate l.toArray.size false).getD j false=false:=fun j=>by
   by_cases c:j<l.length
   ·simp [Array.getD_eq_getD_getElem?,c]
   ·simp [Array.getD_eq_getD_getElem?,c]
  exact ⟨by simp,fun j _ _ hl=>(by rw [hnl] at hl;cases hl),fun i _=>(by rw [hnl];simp),fun _ h=>(nomatch h),d1,hr.rel.size,rfl,d2,fun _ _=>rfl,fun _ _ ⟨_,h,_⟩=>(nomatch h),
   fun _ _ _ ⟨i,_,_,_,_,h⟩=>(by rw [hnl] at h;cases h),fun t x _ hs=>(hr.rel.env t x hs).mono d2⟩
theorem CO (L:List Nat) {nb:Nat} {e e':Env} {s:St} (h:Dz L e=e'):Conv w0 n nb e s e' s:=fun M _ w a=>⟨M,fun _ _ _ h=>h,by rw [←h];exact a.sub (Bm L e)⟩
def ZhK (l:List Oper) (ef dn:List Nat):List Nat:=ef.filter fun i => !dn.contains i&&ef.all fun j => !Qo (IK l []) i j||dn.contains j
theorem Good.mk {l:List Oper} {ef dn:List Nat} {F:St→Prop} {T:Env→St→Prop} {k:Nat} {ev:Env} {s:St} (rs:List Nat) (hr:ZhK l ef dn=rs) (hF:F s) (hT:(ef.all fun i=>dn.contains i)=true→T ev s)
  (h:∀ i∈rs,∃ o,l[i]? = some o∧o.guard=none∧LC n o.dst∧∃ Post:AV→St→Prop,Zc P w0 (DO true l o ev) s o Post∧∀ v s',Post v s'→Good P w0 n l ef F T k (i::dn) (Lm ev o.dst true v) s'):Good P w0 n l ef F T (k+1) dn ev s :=
 ⟨hF,hT,fun i a hd b=>h i (by rw [←hr];exact List.mem_filter.2 ⟨a,by rw [hd,b];rfl⟩)⟩
theorem BU {l:List Oper} {ef dn:List Nat} {F:St→Prop} {T:Env→St→Prop} {k i:Nat} {ev:Env} {s:St} {o:Oper} {v:AV} {s':St} (ho:l[i]? = some o) (hg:o.guard=none) (hd:LC n o.dst) (hs:DU P w0 (DO true l o ev) s o v s')
  (hk:Good P w0 n l ef F T k (i::dn) (Lm ev o.dst true v) s'):∃ o,l[i]? = some o∧o.guard=none∧LC n o.dst∧∃ Post:AV→St→Prop,Zc P w0 (DO true l o ev) s o Post∧∀ v s',Post v s'→Good P w0 n l ef F T k (i::dn) (Lm ev o.dst true v) s' :=
 ⟨o,ho,hg,hd,fun r t=>r=v∧t=s',.inr ⟨v,s',hs,fun _ _ h=>h⟩,by rintro _ _ ⟨rfl,rfl⟩;exact hk⟩
theorem Jf {l:List Oper} {ef dn:List Nat} {F:St→Prop} {T:Env→St→Prop} {k i:Nat} {ev:Env} {s:St} {o:Oper} {f:Operand} {args:Array Operand} {ts:Array TypeId} {Post:AV→St→Prop} (ho:l[i]? = some o) (hg:o.guard=none) (hd:LC n o.dst) (hop:o.op = .call ⟨.value f,args,ts⟩)
  (h1:AP (DO true l o ev) true f) (h2:∀ x∈args.toList,AP (DO true l o ev) true x) (h3:OJ P w0 (Ar (DO true l o ev) f) (args.toList.map fun x=>argP (DO true l o ev) (Ar (DO true l o ev) x)) s Post)
  (hk:∀ v s',Post v s'→Good P w0 n l ef F T k (i::dn) (Lm ev o.dst true v) s'):∃ o,l[i]? = some o∧o.guard=none∧LC n o.dst∧∃ Post:AV→St→Prop,Zc P w0 (DO true l o ev) s o Post∧∀ v s',Post v s'→Good P w0 n l ef F T k (i::dn) (Lm ev o.dst true v) s' :=
 ⟨o,ho,hg,hd,Post,.inl ⟨by rw [hop];rfl,by rw [hop];exact ⟨h1,h2,h3⟩⟩,hk⟩
end
def Tg {α:Type} (_:α):Prop:=True
theorem tg {α:Type} {a:α}:Tg a:=trivial
theorem cl {p:Prop} (h:p:=by first | (intros;omega) | (intros;simp_all;done) | (intros;simp only [Bool.or_eq_false_iff,Bool.or_eq_true,Bool.and_eq_true,Bool.and_eq_false_iff,decide_eq_true_eq,decide_eq_false_iff_not,bne_iff_ne] at *; omega)):p:=h
theorem ev {p:Prop} (h:p:=by simp +decide only [go_sem,Nat.reduceAdd]):p:=h
theorem ef {p F:Prop} (f:F) (h:F→p:=by intro hs;first | rfl | (simp +decide only [go_sem,Nat.reduceAdd,hs];done)):p:=h f
theorem en {p F:Prop} (f:F) (h:F→p:=by intro hs;first | (simp +decide only [go_sem,Nat.reduceAdd,hs];done) | (simp +decide only [go_sem,Nat.reduceAdd,hs];rfl)):p:=h f
theorem ow {p:Prop} (h:p:=by (simp +decide only [go_sem,Nat.reduceAdd,Ls])<;>(try (repeat' apply Aa))<;>first | omega | assumption):p:=h
theorem Yc:(0:Nat)=0:=rfl
section
variable {P:Program} {w0:World} {n:Nat} {M0:Mem} {W0:World} {ro:Option Nat} {e:Env} {st:St} {Q:AQ}
theorem LQ {c:Nat} {L:List Nat} (tc:Tg c) (tL:Tg L) {id:Nat} {l:List Oper} (h:YK P w0 n false l (fun e' st'=>Q .normal (Dz L e') st') c l e st):GL P w0 n M0 W0 ro (.region id l.toArray false) Q e st:=Ao c L h
theorem YB {L:List Nat} (t:Tg L) {c:Code} (h:GL P w0 n M0 W0 ro c Q (Dz L e) st):GL P w0 n M0 W0 ro c Q e st:=D3 _ h (Bm _ _)
theorem O9 {h c1 c2:Nat} {L:List Nat} (tt:Tg (h,c1,c2,L)) (hm:P.follows .mixedOrders=true) {id:Nat} {l:List Oper} (hB:YQ l h=true)
  (hev:YK P w0 n true l (fun e1 s1=>YK P w0 n false l (fun e2 s2=>Q .normal (Dz L e2) s2) c2 (l.drop h) e1 s1) c1 (l.take h) e st):GL P w0 n M0 W0 ro (.region id l.toArray true) Q e st:=ZdP hm h c1 c2 L hB hev
theorem HI {c d:Bool} {fv:AV} {args:List AV} {k:AV→St→Prop} (h:MK P w0 c d fv args st k):MK P w0 c d fv args st k:=h
theorem AN {β:Type} {F:Prop} {b:Bool} {X Y r:β} (h:(if b=true then X else Y)=r) (f:F) {c:Operand} {x y:Code} (ht:(b=true∧F)→X=r→GL P w0 n M0 W0 ro x Q e st) (hf:(b=false∧F)→Y=r→GL P w0 n M0 W0 ro y Q e st)
  (hc:AP e true c:=by simp +decide only [go_sem,Nat.reduceAdd]) (hb:F→Ar e c = .val (.bool b):=by intro hs;first | (simp +decide only [go_sem,Nat.reduceAdd,hs];done) | (simp +decide only [go_sem,Nat.reduceAdd,hs];rfl)):GL P w0 n M0 W0 ro (.cond c x y) Q e st :=
 A4 b hc (hb f) (fun q=>ht ⟨q,f⟩ (Ba h q)) (fun q=>hf ⟨q,f⟩ (A9 h q))
theorem td {B0 B bs X:List (List AV)} {Rw rows:List RowA} {L:List LoopA} {l:List (Nat × Nat × Own)} {c:Code} (hN:M0.N=B0.length) (hNR:M0.NR=Rw.length) (hNL:M0.NL=L.length) (hc:Calm B0.length Rw.length L.length ⟨B,Rw,L⟩) (ho:Owns Rw rows l)
  (h:GL P w0 n M0 W0 ro c Q e ⟨B++bs,rows,L⟩) (hB:B.length=B0.length:=by first | rfl | simp only [List.length_set])
  (hbs:∀ cs∈bs,∀ x∈cs,Under (B0.length+bs.length) rows.length L.length x:=by (simp +decide only [go_sem,Nat.reduceAdd])<;>(try (repeat' apply Aa))<;>first | omega | assumption)
  (he:Ls (B0.length+bs.length) rows.length L.length e:=by (simp +decide only [go_sem,Nat.reduceAdd,Ls])<;>(try (repeat' apply Aa))<;>first | omega | assumption):GL P w0 n M0 W0 ro c Q e ⟨B++(bs++X),rows,L⟩ :=
 AM hN hNR hNL hB hc ho hbs he h
end
section
variable {P:Program} {w0:World} {n:Nat} {M0:Mem} {W0:World} {ro:Option Nat} {e:Env} {st:St} {Q:AQ}
theorem Vy (t:TypeId) (hn:n≤1000000) {c:Code} (h:GL P w0 n M0 W0 ro c Q ((1000000+t,false,.junk)::e) st):GL P w0 n M0 W0 ro c Q e st :=
 Ot _ _ (fun M a w b=>⟨M,.refl _ _ _,b.st,b.size,fun s x hs=>by
  simp only [D2] at hs
  by_cases q:1000000+t=s
  ·rw [Ae q] at hs
   cases hs
   have d:1000000≤s:=by rw [←q];exact Nat.le_add_right _ _
   simp only [entryOk,Bool.false_eq_true,if_false]
   rw [Array.getD_eq_getD_getElem?,Array.getElem?_eq_none (by rw [b.size];omega)]
   rfl
  ·rw [Af q] at hs
   exact b.env s x hs⟩) h
end
theorem rg {F p q:Prop} (L:List Nat) (f:F) (k:q) (h:Tg L→F→q→p:=by
  intro tL hs hq
  apply Ah;intro K hK
  refine LQ (c:=1) tg tL ?_
  rw [Am];simp +decide only [go_sem,Nat.reduceAdd,hs]
  first | (refine hK _ _ ?_;exact hq) | ((repeat' apply Aa)<;>first | (refine hK _ _ ?_;exact hq) | (clear hq;exact cl))):p:=h tg f k
theorem rc {F p q:Prop} (c:Nat) (L:List Nat) (f:F) (k:q) (h:Tg c→Tg L→F→q→p:=by
  intro tc tL hs hq
  apply Ah;intro K hK
  refine LQ tc tL ?_
  rw [Am];simp +decide only [go_sem,Nat.reduceAdd,hs]
  first | (refine HI ?_;revert K;exact hq) | ((repeat' apply Aa)<;>first | (refine HI ?_;revert K;exact hq) | (clear hq;exact cl))):p:=h tg tg f k
theorem nc {F p q:Prop} (f:F) (k:q) (h:F→q→p:=by
  intro hs hq
  rw [Am];simp +decide only [go_sem,Nat.reduceAdd,hs]
  first | (refine HI ?_;exact hq) | ((repeat' apply Aa)<;>first | (refine HI ?_;exact hq) | (clear hq;exact cl))):p:=h f k
theorem ne {F p q:Prop} (f:F) {K:Env→St→Prop} {A:Env→St→Prop} (hK:∀ e s,A e s→K e s) (k:q) (h:F→(∀ e s,A e s→K e s)→q→p:=by
  intro hs hK hq
  rw [Am];simp +decide only [go_sem,Nat.reduceAdd,hs]
  first | (refine hK _ _ ?_;exact hq) | ((repeat' apply Aa)<;>first | (refine hK _ _ ?_;exact hq) | (clear hq;exact cl))):p:=h f hK k
theorem dg {F p q:Prop} (m c1 c2:Nat) (L:List Nat) (f:F) {P:Program} (hm:P.follows .mixedOrders=true) (k:q) (h:Tg (m,c1,c2,L)→F→P.follows .mixedOrders=true→q→p:=by
  intro tt hs hm hq
  apply Ah;intro K hK
  refine O9 tt hm (by kernel_rfl) ?_
  rw [Am];simp +decide only [go_sem,Nat.reduceAdd,hs]
  (repeat' with_reducible apply Aa)<;>first | (rw [Am];simp +decide only [go_sem,Nat.reduceAdd,hs]) | (clear hq;exact cl)
  first | (refine hK _ _ ?_;exact hq) | ((repeat' apply Aa)<;>first | (refine hK _ _ ?_;exact hq) | (clear hq;exact cl))):p:=h tg f hm k
theorem sk {F p q:Prop} (L:List Nat) (f:F) {A K:Env→St→Prop} (hK:∀ e s,A e s→K e s) (k:q) (h:Tg L→F→(∀ e s,A e s→K e s)→q→p:=by
  intro tL hs hK hq
  refine YB tL ?_
  apply Br;simp +decide only [go_sem,Nat.reduceAdd]
  first | (refine hK _ _ ?_;exact hq) | ((repeat' apply Aa)<;>first | (refine hK _ _ ?_;exact hq) | (clear hq;exact cl))):p:=h tg f hK k
theorem sx {F p q:Prop} (L:List Nat) (f:F) {A K:Env→St→Prop} (hK:∀ e s,A e s→K e s) (k:q) (h:Tg L→F→(∀ e s,A e s→K e s)→q→p:=by
  intro tL hs hK hq
  refine YB tL ?_
  apply KG;simp +decide only [go_sem,Nat.reduceAdd]
  first | (refine hK _ _ ?_;exact hq) | ((repeat' apply Aa)<;>first | (refine hK _ _ ?_;exact hq) | (clear hq;exact cl))):p:=h tg f hK k
theorem rl {F p q:Prop} (L:List Nat) (f:F) {A K:Env→St→Prop} (hK:∀ e s,A e s→K e s) (k:q) (h:Tg L→F→(∀ e s,A e s→K e s)→q→p:=by
  intro tL hs hK hq
  refine LQ (c:=1) tg tL ?_
  rw [Am];simp +decide only [go_sem,Nat.reduceAdd,hs]
  first | (refine hK _ _ ?_;exact hq) | ((repeat' apply Aa)<;>first | (refine hK _ _ ?_;exact hq) | (clear hq;exact cl))):p:=h tg f hK k
theorem rk {F p q:Prop} (c:Nat) (L:List Nat) (f:F) (k:q) (h:Tg c→Tg L→F→q→p:=by
  intro tc tL hs hq
  refine LQ tc tL ?_
  rw [Am];simp +decide only [go_sem,Nat.reduceAdd,hs]
  first | (refine HI ?_;exact hq) | ((repeat' apply Aa)<;>first | (refine HI ?_;exact hq) | (clear hq;exact cl))):p:=h tg tg f k
theorem hd {P:Program} {w0:World} {f:FuncId} {fn:Func} {c:Code} {n:Nat} {args:List AV} {B:List (List AV)} {Rw:List RowA} {L:List LoopA} {Post:AV→St→Prop} (rs:List ResultVar) (hf:P.funcs[f]? = some fn) (hn:fn.ntmps=n)
  (k:∀ (M0:Mem) (W0:World),M0.N=B.length→M0.NR=Rw.length→M0.NL=L.length→Calm B.length Rw.length L.length ⟨B,Rw,L⟩→(∀ x∈args,Under B.length Rw.length L.length x)→Owns Rw Rw []→(0:Nat)=0 →
   GL P w0 n M0 W0 none c (ZcZ P rs (finP ⟨B,Rw,L⟩ Post)) (Au 0 args) ⟨B,Rw,L⟩)
  (hb:fn.body=some c:=by rfl) (hrs:fn.results=rs.toArray:=by rfl) (hm:fn.name ≠ "runtime.NumGoroutine" := by decide) (ha:args.length≤n:=by exact Nat.le_of_ble_eq_true rfl):ACalls P w0 f args ⟨B,Rw,L⟩ Post :=
 ACalls.finP (EF (rs:=rs) hf hb hrs hn (A1 hf (by rw [hb];rfl) hm) ha fun M0 W0 b e a d g=>k M0 W0 b e a d g (Owns.none Rw) rfl)
theorem ix {α β:Type} {l:List α} {i:Int} {F:α→Option β} {r:β} (g:α→AV) (h:(B7 l i).bind F=some r):∃ x,0≤i∧i<l.length∧(l.map g).getD i.toNat .junk=g x∧F x=some r:=by
 obtain ⟨x,d,h⟩:=bind_some h
 obtain ⟨a,b,c⟩:=AA d
 exact ⟨x,a,b,AB c,h⟩
abbrev Ck (e:Env) (st:St) (B:List (List AV)) (Rw:List RowA) (L:List LoopA) (e0:Env) (bs:List (List AV)) (ow:List (Nat × Nat × Own)) (c:Prop):Prop :=
 ∃ (X:List (List AV)) (rows:List RowA),e=e0∧st=⟨B++(bs++X),rows,L⟩∧Owns Rw rows ow∧c
end Go.Ev
namespace Go.Proofs.YtgpmlelfkjfbiaaGreatDoor
open Go Go.RowKit Go.Ev
structure Part where
 kind:Int
 index:Int
 name:ByteArray
structure Itm where
 v:Vl
 level:Int
structure Lim where
 name:ByteArray
 low:Int
 high:Int
 bounds:Bool
 scale:Bool
 text:Bool
 list:Bool
 fields:Bool
structure Sch where
 name:ByteArray
 version:Int
 type:Ty
def ZD {α:Type} (f:α→AV) (l:List α):AV := .list (l.map f) .none
@[go_sem] theorem FA {α:Type} (f:α→AV) (l:List α):ZD f l = .list (l.map f) .none:=rfl
@[go_sem] theorem ZkZ {α:Type} (f:α→AV) (l:List α) (n:Nat):(l.map f).take n=(l.take n).map f:=List.map_take.symm
@[go_sem] theorem ZkF {α:Type} (f:α→AV) (l:List α) (n:Nat):(l.map f).drop n=(l.drop n).map f:=List.map_drop.symm
attribute [go_sem] List.length_map List.take_length
def Yg (x:Int):AV := .val (.int .i64 x)
@[go_sem] theorem FP (x:Int):Yg x = .val (.int .i64 x):=rfl
@[go_sem] theorem ZiB (l:List (Int)):(∀ y∈l.map Yg,y.cells.length=1)↔True:=iff_true_intro fun y a=>by
 obtain ⟨x,_,rfl⟩:=List.mem_map.1 a
 simp +decide only [go_sem]
@[go_sem] theorem Zm0 (l:List (Int)):(∀ y∈l.map Yg,y.cells.length=1∧A5 y=true)↔True:=iff_true_intro fun y a=>by
 obtain ⟨x,_,rfl⟩:=List.mem_map.1 a
 simp +decide only [go_sem]
@[go_sem] theorem ZjB (nb nr nl:Nat) (l:List (Int)):(∀ y∈l.map Yg,Under nb nr nl y)↔True:=iff_true_intro fun y a=>by
 obtain ⟨x,_,rfl⟩:=List.mem_map.1 a
 exact .val _
@[go_sem] theorem Zli (l:List (Int)):(l.map Yg).map AV.pub=l.map Yg:=by
 rw [List.map_map]
 refine List.map_congr_left fun x _=>?_
 simp +decide only [Function.comp,go_sem]
def avB (x:Bool):AV := .val (.bool x)
@[go_sem] theorem FN (x:Bool):avB x = .val (.bool x):=rfl
@[go_sem] theorem Zjf (l:List (Bool)):(∀ y∈l.map avB,y.cells.length=1)↔True:=iff_true_intro fun y a=>by
 obtain ⟨x,_,rfl⟩:=List.mem_map.1 a
 simp +decide only [go_sem]
@[go_sem] theorem ZmB (l:List (Bool)):(∀ y∈l.map avB,y.cells.length=1∧A5 y=true)↔True:=iff_true_intro fun y a=>by
 obtain ⟨x,_,rfl⟩:=List.mem_map.1 a
 simp +decide only [go_sem]
@[go_sem] theorem Zjj (nb nr nl:Nat) (l:List (Bool)):(∀ y∈l.map avB,Under nb nr nl y)↔True:=iff_true_intro fun y a=>by
 obtain ⟨x,_,rfl⟩:=List.mem_map.1 a
 exact .val _
@[go_sem] theorem Zl7 (l:List (Bool)):(l.map avB).map AV.pub=l.map avB:=by
 rw [List.map_map]
 refine List.map_congr_left fun x _=>?_
 simp +decide only [Function.comp,go_sem]
def Lq (x:ByteArray):AV := .val (.string x)
@[go_sem] theorem Fz (x:ByteArray):Lq x = .val (.string x):=rfl
@[go_sem] theorem Zi9 (l:List (ByteArray)):(∀ y∈l.map Lq,y.cells.length=1)↔True:=iff_true_intro fun y a=>by
 obtain ⟨x,_,rfl⟩:=List.mem_map.1 a
 simp +decide only [go_sem]
@[go_sem] theorem ZmE (l:List (ByteArray)):(∀ y∈l.map Lq,y.cells.length=1∧A5 y=true)↔True:=iff_true_intro fun y a=>by
 obtain ⟨x,_,rfl⟩:=List.mem_map.1 a
 simp +decide only [go_sem]
@[go_sem] theorem Zjn (nb nr nl:Nat) (l:List (ByteArray)):(∀ y∈l.map Lq,Under nb nr nl y)↔True:=iff_true_intro fun y a=>by
 obtain ⟨x,_,rfl⟩:=List.mem_map.1 a
 exact .val _
@[go_sem] theorem Zll (l:List (ByteArray)):(l.map Lq).map AV.pub=l.map Lq:=by
 rw [List.map_map]
 refine List.map_congr_left fun x _=>?_
 simp +decide only [Function.comp,go_sem]
def Bo (x:Vl):AV := .agg x.cs
@[go_sem] theorem FB (x:Vl):Bo x = .agg x.cs:=rfl
@[go_sem] theorem ZiE (l:List (Vl)):(∀ y∈l.map Bo,y.cells.length=6)↔True:=iff_true_intro fun y a=>by
 obtain ⟨x,_,rfl⟩:=List.mem_map.1 a
 simp +decide only [go_sem]
@[go_sem] theorem ZmK (l:List (Vl)):(∀ y∈l.map Bo,y.cells.length=6∧A5 y=true)↔True:=iff_true_intro fun y a=>by
 obtain ⟨x,_,rfl⟩:=List.mem_map.1 a
 simp +decide only [go_sem]
@[go_sem] theorem Zjv (nb nr nl:Nat) (l:List (Vl)):(∀ y∈l.map Bo,Under nb nr nl y)↔True:=iff_true_intro fun y a=>by
 obtain ⟨x,_,rfl⟩:=List.mem_map.1 a
 exact .agg (x.under _ _ _)
@[go_sem] theorem ZlG (l:List (Vl)):(l.map Bo).map AV.pub=l.map Bo:=by
 rw [List.map_map]
 refine List.map_congr_left fun x _=>?_
 simp +decide only [Function.comp,go_sem]
def HF (x:Ty):AV := .agg x.cs
@[go_sem] theorem FK (x:Ty):HF x = .agg x.cs:=rfl
@[go_sem] theorem Zjy (l:List (Ty)):(∀ y∈l.map HF,y.cells.length=7)↔True:=iff_true_intro fun y a=>by
 obtain ⟨x,_,rfl⟩:=List.mem_map.1 a
 simp +decide only [go_sem]
@[go_sem] theorem ZmC (l:List (Ty)):(∀ y∈l.map HF,y.cells.length=7∧A5 y=true)↔True:=iff_true_intro fun y a=>by
 obtain ⟨x,_,rfl⟩:=List.mem_map.1 a
 simp +decide only [go_sem]
@[go_sem] theorem ZiC (nb nr nl:Nat) (l:List (Ty)):(∀ y∈l.map HF,Under nb nr nl y)↔True:=iff_true_intro fun y a=>by
 obtain ⟨x,_,rfl⟩:=List.mem_map.1 a
 exact .agg (x.under _ _ _)
@[go_sem] theorem Zma (l:List (Ty)):(l.map HF).map AV.pub=l.map HF:=by
 rw [List.map_map]
 refine List.map_congr_left fun x _=>?_
 simp +decide only [Function.comp,go_sem]
def BM (x:ByteArray × Vl):AV := .agg (.val (.string x.1)::x.2.cs)
@[go_sem] theorem Fa (x:ByteArray × Vl):BM x = .agg (.val (.string x.1)::x.2.cs):=rfl
@[go_sem] theorem ZiT (l:List (ByteArray × Vl)):(∀ y∈l.map BM,y.cells.length=7)↔True:=iff_true_intro fun y a=>by
 obtain ⟨x,_,rfl⟩:=List.mem_map.1 a
 simp +decide only [go_sem]
@[go_sem] theorem ZmG (l:List (ByteArray × Vl)):(∀ y∈l.map BM,y.cells.length=7∧A5 y=true)↔True:=iff_true_intro fun y a=>by
 obtain ⟨x,_,rfl⟩:=List.mem_map.1 a
 simp +decide only [go_sem]
@[go_sem] theorem ZbL (nb nr nl:Nat) (l:List (ByteArray × Vl)):(∀ y∈l.map BM,Under nb nr nl y)↔True:=iff_true_intro fun y a=>by
 obtain ⟨x,_,rfl⟩:=List.mem_map.1 a
 exact LW nb nr nl [x] _ (by simp [J7,BM])
@[go_sem] theorem Zft (l:List (ByteArray × Vl)):(l.map BM).map AV.pub=l.map BM:=by
 rw [List.map_map]
 refine List.map_congr_left fun x _=>?_
 simp +decide only [Function.comp,go_sem]
def Cm (x:Int × ByteArray × Int × Ty × List Vl):AV := .agg (.val (.int .i64 x.1) :: .val (.string x.2.1) :: .val (.int .i64 x.2.2.1)::(x.2.2.2.1.cs++[.list (x.2.2.2.2.map Bo) .none]))
@[go_sem] theorem Ea (x:Int × ByteArray × Int × Ty × List Vl):Cm x = .agg (.val (.int .i64 x.1) :: .val (.string x.2.1) :: .val (.int .i64 x.2.2.1)::(x.2.2.2.1.cs++[.list (x.2.2.2.2.map Bo) .none])):=rfl
@[go_sem] theorem ZhR (l:List (Int × ByteArray × Int × Ty × List Vl)):(∀ y∈l.map Cm,y.cells.length=11)↔True:=iff_true_intro fun y a=>by
 obtain ⟨x,_,rfl⟩:=List.mem_map.1 a
 simp +decide only [go_sem]
@[go_sem] theorem Zl0 (l:List (Int × ByteArray × Int × Ty × List Vl)):(∀ y∈l.map Cm,y.cells.length=11∧A5 y=true)↔True:=iff_true_intro fun y a=>by
 obtain ⟨x,_,rfl⟩:=List.mem_map.1 a
 simp +decide only [go_sem]
@[go_sem] theorem Ziq (nb nr nl:Nat) (l:List (Int × ByteArray × Int × Ty × List Vl)):(∀ y∈l.map Cm,Under nb nr nl y)↔True:=iff_true_intro fun y a=>by
 obtain ⟨x,_,rfl⟩:=List.mem_map.1 a
 exact Kr nb nr nl [x] _ (by simp [Jb,Cm,GG];intros;rfl)
@[go_sem] theorem Zkc (l:List (Int × ByteArray × Int × Ty × List Vl)):(l.map Cm).map AV.pub=l.map Cm:=by
 rw [List.map_map]
 refine List.map_congr_left fun x _=>?_
 simp +decide only [Function.comp,go_sem]
def Wg (x:Sch):AV := .agg (.val (.string x.name) :: .val (.int .i64 x.version)::x.type.cs)
@[go_sem] theorem Db (x:Sch):Wg x = .agg (.val (.string x.name) :: .val (.int .i64 x.version)::x.type.cs):=rfl
@[go_sem] theorem Zg1 (l:List (Sch)):(∀ y∈l.map Wg,y.cells.length=9)↔True:=iff_true_intro fun y a=>by
 obtain ⟨x,_,rfl⟩:=List.mem_map.1 a
 simp +decide only [go_sem]
@[go_sem] theorem ZjW (l:List (Sch)):(∀ y∈l.map Wg,y.cells.length=9∧A5 y=true)↔True:=iff_true_intro fun y a=>by
 obtain ⟨x,_,rfl⟩:=List.mem_map.1 a
 simp +decide only [go_sem]
@[go_sem] theorem Zhd (nb nr nl:Nat) (l:List (Sch)):(∀ y∈l.map Wg,Under nb nr nl y)↔True:=iff_true_intro fun y a=>by
 obtain ⟨x,_,rfl⟩:=List.mem_map.1 a
 simp only [Db,Ph,List.mem_cons,forall_eq_or_imp,WF,true_and];exact x.type.under _ _ _
@[go_sem] theorem ZiH (l:List (Sch)):(l.map Wg).map AV.pub=l.map Wg:=by
 rw [List.map_map]
 refine List.map_congr_left fun x _=>?_
 simp +decide only [Function.comp,go_sem]
def Wi (x:Itm):AV := .agg (x.v.cs++[.val (.int .i64 x.level)])
@[go_sem] theorem Da (x:Itm):Wi x = .agg (x.v.cs++[.val (.int .i64 x.level)]):=rfl
@[go_sem] theorem Zg9 (l:List (Itm)):(∀ y∈l.map Wi,y.cells.length=7)↔True:=iff_true_intro fun y a=>by
 obtain ⟨x,_,rfl⟩:=List.mem_map.1 a
 simp +decide only [go_sem]
@[go_sem] theorem ZjM (l:List (Itm)):(∀ y∈l.map Wi,y.cells.length=7∧A5 y=true)↔True:=iff_true_intro fun y a=>by
 obtain ⟨x,_,rfl⟩:=List.mem_map.1 a
 simp +decide only [go_sem]
@[go_sem] theorem ZgW (nb nr nl:Nat) (l:List (Itm)):(∀ y∈l.map Wi,Under nb nr nl y)↔True:=iff_true_intro fun y a=>by
 obtain ⟨x,_,rfl⟩:=List.mem_map.1 a
 simp only [Da,Ph,List.mem_append,List.mem_singleton];rintro z (hz | rfl);exact x.v.under _ _ _ z hz;exact .val _
@[go_sem] theorem ZiY (l:List (Itm)):(l.map Wi).map AV.pub=l.map Wi:=by
 rw [List.map_map]
 refine List.map_congr_left fun x _=>?_
 simp +decide only [Function.comp,go_sem]
def Xk (x:Lim):AV := .agg [.val (.string x.name),.val (.int .i64 x.low),.val (.int .i64 x.high),.val (.bool x.bounds),.val (.bool x.scale),.val (.bool x.text),.val (.bool x.list),.val (.bool x.fields)]
@[go_sem] theorem Ed (x:Lim):Xk x = .agg [.val (.string x.name),.val (.int .i64 x.low),.val (.int .i64 x.high),.val (.bool x.bounds),.val (.bool x.scale),.val (.bool x.text),.val (.bool x.list),.val (.bool x.fields)]:=rfl
@[go_sem] theorem Zip (l:List (Lim)):(∀ y∈l.map Xk,y.cells.length=8)↔True:=iff_true_intro fun y a=>by
 obtain ⟨x,_,rfl⟩:=List.mem_map.1 a
 simp +decide only [go_sem]
@[go_sem] theorem Zl6 (l:List (Lim)):(∀ y∈l.map Xk,y.cells.length=8∧A5 y=true)↔True:=iff_true_intro fun y a=>by
 obtain ⟨x,_,rfl⟩:=List.mem_map.1 a
 simp +decide only [go_sem]
@[go_sem] theorem ZhB (nb nr nl:Nat) (l:List (Lim)):(∀ y∈l.map Xk,Under nb nr nl y)↔True:=iff_true_intro fun y a=>by
 obtain ⟨x,_,rfl⟩:=List.mem_map.1 a
 simp +decide only [go_sem];try intro z b;simp_all [Vl.under,Ty.under]
@[go_sem] theorem ZkW (l:List (Lim)):(l.map Xk).map AV.pub=l.map Xk:=by
 rw [List.map_map]
 refine List.map_congr_left fun x _=>?_
 simp +decide only [Function.comp,go_sem]
def JB (x:ByteArray × Int):AV := .agg [.val (.string x.1),.val (.int .i64 x.2)]
@[go_sem] theorem Ek (x:ByteArray × Int):JB x = .agg [.val (.string x.1),.val (.int .i64 x.2)]:=rfl
@[go_sem] theorem Zie (l:List (ByteArray × Int)):(∀ y∈l.map JB,y.cells.length=2)↔True:=iff_true_intro fun y a=>by
 obtain ⟨x,_,rfl⟩:=List.mem_map.1 a
 simp +decide only [go_sem]
@[go_sem] theorem Zlv (l:List (ByteArray × Int)):(∀ y∈l.map JB,y.cells.length=2∧A5 y=true)↔True:=iff_true_intro fun y a=>by
 obtain ⟨x,_,rfl⟩:=List.mem_map.1 a
 simp +decide only [go_sem]
@[go_sem] theorem Zh8 (nb nr nl:Nat) (l:List (ByteArray × Int)):(∀ y∈l.map JB,Under nb nr nl y)↔True:=iff_true_intro fun y a=>by
 obtain ⟨x,_,rfl⟩:=List.mem_map.1 a
 simp +decide only [go_sem];try intro z b;simp_all [Vl.under,Ty.under]
@[go_sem] theorem ZkA (l:List (ByteArray × Int)):(l.map JB).map AV.pub=l.map JB:=by
 rw [List.map_map]
 refine List.map_congr_left fun x _=>?_
 simp +decide only [Function.comp,go_sem]
def Zcc (x:Ty × Ty):AV := .agg (x.1.cs++x.2.cs)
@[go_sem] theorem Ef (x:Ty × Ty):Zcc x = .agg (x.1.cs++x.2.cs):=rfl
@[go_sem] theorem Zhh (l:List (Ty × Ty)):(∀ y∈l.map Zcc,y.cells.length=14)↔True:=iff_true_intro fun y a=>by
 obtain ⟨x,_,rfl⟩:=List.mem_map.1 a
 simp +decide only [go_sem]
@[go_sem] theorem ZlP (l:List (Ty × Ty)):(∀ y∈l.map Zcc,y.cells.length=14∧A5 y=true)↔True:=iff_true_intro fun y a=>by
 obtain ⟨x,_,rfl⟩:=List.mem_map.1 a
 simp +decide only [go_sem]
@[go_sem] theorem Zho (nb nr nl:Nat) (l:List (Ty × Ty)):(∀ y∈l.map Zcc,Under nb nr nl y)↔True:=iff_true_intro fun y a=>by
 obtain ⟨x,_,rfl⟩:=List.mem_map.1 a
 exact .agg fun z b=>(List.mem_append.1 b).elim (x.1.under _ _ _ z) (x.2.under _ _ _ z)
@[go_sem] theorem ZkU (l:List (Ty × Ty)):(l.map Zcc).map AV.pub=l.map Zcc:=by
 rw [List.map_map]
 refine List.map_congr_left fun x _=>?_
 simp +decide only [Function.comp,go_sem]
def Vw (x:Part):AV := .agg [.val (.int .i64 x.kind),.val (.int .i64 x.index),.val (.string x.name)]
@[go_sem] theorem Eb (x:Part):Vw x = .agg [.val (.int .i64 x.kind),.val (.int .i64 x.index),.val (.string x.name)]:=rfl
@[go_sem] theorem Zib (l:List (Part)):(∀ y∈l.map Vw,y.cells.length=3)↔True:=iff_true_intro fun y a=>by
 obtain ⟨x,_,rfl⟩:=List.mem_map.1 a
 simp +decide only [go_sem]
@[go_sem] theorem ZlH (l:List (Part)):(∀ y∈l.map Vw,y.cells.length=3∧A5 y=true)↔True:=iff_true_intro fun y a=>by
 obtain ⟨x,_,rfl⟩:=List.mem_map.1 a
 simp +decide only [go_sem]
@[go_sem] theorem Zhl (nb nr nl:Nat) (l:List (Part)):(∀ y∈l.map Vw,Under nb nr nl y)↔True:=iff_true_intro fun y a=>by
 obtain ⟨x,_,rfl⟩:=List.mem_map.1 a
 simp +decide only [go_sem];try intro z b;simp_all [Vl.under,Ty.under]
@[go_sem] theorem ZjL (l:List (Part)):(l.map Vw).map AV.pub=l.map Vw:=by
 rw [List.map_map]
 refine List.map_congr_left fun x _=>?_
 simp +decide only [Function.comp,go_sem]
theorem VA (x:ByteArray × Vl):(BM x).pub=BM x:=by
 have:=Zft [x]
 simpa using this
theorem J2 (l:List (ByteArray × Vl)) (nb nr nl:Nat):∀ y∈l.flatMap fun x=>(BM x).cells,Under nb nr nl y:=fun y a=>by
 obtain ⟨x,c,b⟩:=List.mem_flatMap.1 a
 have h:Under nb nr nl (BM x):=(ZbL nb nr nl [x]).2 trivial _ (List.mem_singleton.2 rfl)
 cases h with
 | agg h=>exact h y b
@[go_sem] theorem ZgA (l:List (List Part)):(∀ y∈l.map (ZD Vw),y.cells.length=1)↔True:=iff_true_intro fun y a=>by
 obtain ⟨x,_,rfl⟩:=List.mem_map.1 a
 simp +decide only [go_sem]
@[go_sem] theorem ZjR (l:List (List Part)):(∀ y∈l.map (ZD Vw),y.cells.length=1∧A5 y=true)↔True:=iff_true_intro fun y a=>by
 obtain ⟨x,_,rfl⟩:=List.mem_map.1 a
 simp +decide only [go_sem]
@[go_sem] theorem Zg2 (nb nr nl:Nat) (l:List (List Part)):(∀ y∈l.map (ZD Vw),Under nb nr nl y)↔True:=iff_true_intro fun y a=>by
 obtain ⟨x,_,rfl⟩:=List.mem_map.1 a
 simp +decide only [go_sem]
@[go_sem] theorem Zjd (l:List (List Part)):(l.map (ZD Vw)).map AV.pub=l.map (ZD Vw):=by
 rw [List.map_map]
 refine List.map_congr_left fun x _=>?_
 simp +decide only [Function.comp,go_sem]
@[go_sem] theorem Zif (l:List (List ByteArray)):(∀ y∈l.map (ZD Lq),y.cells.length=1)↔True:=iff_true_intro fun y a=>by
 obtain ⟨x,_,rfl⟩:=List.mem_map.1 a
 simp +decide only [go_sem]
@[go_sem] theorem Zmg (l:List (List ByteArray)):(∀ y∈l.map (ZD Lq),y.cells.length=1∧A5 y=true)↔True:=iff_true_intro fun y a=>by
 obtain ⟨x,_,rfl⟩:=List.mem_map.1 a
 simp +decide only [go_sem]
@[go_sem] theorem Zhs (nb nr nl:Nat) (l:List (List ByteArray)):(∀ y∈l.map (ZD Lq),Under nb nr nl y)↔True:=iff_true_intro fun y a=>by
 obtain ⟨x,_,rfl⟩:=List.mem_map.1 a
 simp +decide only [go_sem]
@[go_sem] theorem Zk1 (l:List (List ByteArray)):(l.map (ZD Lq)).map AV.pub=l.map (ZD Lq):=by
 rw [List.map_map]
 refine List.map_congr_left fun x _=>?_
 simp +decide only [Function.comp,go_sem]
@[go_sem] theorem Zhq (l:List (List Int)):(∀ y∈l.map (ZD Yg),y.cells.length=1)↔True:=iff_true_intro fun y a=>by
 obtain ⟨x,_,rfl⟩:=List.mem_map.1 a
 simp +decide only [go_sem]
@[go_sem] theorem Zl3 (l:List (List Int)):(∀ y∈l.map (ZD Yg),y.cells.length=1∧A5 y=true)↔True:=iff_true_intro fun y a=>by
 obtain ⟨x,_,rfl⟩:=List.mem_map.1 a
 simp +decide only [go_sem]
@[go_sem] theorem Zik (nb nr nl:Nat) (l:List (List Int)):(∀ y∈l.map (ZD Yg),Under nb nr nl y)↔True:=iff_true_intro fun y a=>by
 obtain ⟨x,_,rfl⟩:=List.mem_map.1 a
 simp +decide only [go_sem]
@[go_sem] theorem ZjP (l:List (List Int)):(l.map (ZD Yg)).map AV.pub=l.map (ZD Yg):=by
 rw [List.map_map]
 refine List.map_congr_left fun x _=>?_
 simp +decide only [Function.comp,go_sem]
@[go_sem] theorem UM (l:List Vl):Fv l=l.map Bo:=GG l
@[go_sem] theorem Yq (l:List Ty):N5 l=l.map HF:=RJ l
@[go_sem] theorem Y1 (l:List (ByteArray × Vl)):J7 l=l.map BM:=Pj l
@[go_sem] theorem WU (l:List (Int × ByteArray × Int × Ty × List Vl)):Jb l=l.map Cm:=by
 rw [P7]
 refine List.map_congr_left fun x _=>?_
 rw [UM];rfl
@[go_sem] theorem Zd4 (l:List ByteArray):(l.map fun x=>AV.val (.string x))=l.map Lq:=rfl
@[go_sem] theorem Vl.under_mem (nb nr nl:Nat) (v:Vl):(∀ x∈v.cs,Under nb nr nl x)↔True:=iff_true_intro (v.under nb nr nl)
@[go_sem] theorem Ty.under_mem (nb nr nl:Nat) (v:Ty):(∀ x∈v.cs,Under nb nr nl x)↔True:=iff_true_intro (v.under nb nr nl)
@[go_sem] theorem Zhc {α:Type} (p:α→Prop) (l m:List α):(∀ x∈l++m,p x)↔(∀ x∈l,p x)∧∀ x∈m,p x:=List.forall_mem_append
theorem rt {α:Type} {x r:α} {F G C p:Prop} (h:some x=some r) (f:F) (hcalm:C) (hO:G) (k:some x=some r→F→C→G→p:=by
  intro h hs hcalm hO
  apply A2;simp +decide only [go_sem,Nat.reduceAdd,hs]
  have hgt:=Option.some.inj h;subst hgt
  first | refine DT hcalm rfl hO.pre (by simp +decide only [go_sem,Nat.reduceAdd]) ⟨?_,?_⟩ | refine Fg hcalm rfl hO.pre (by simp +decide only [go_sem,Nat.reduceAdd]) ⟨?_,?_⟩
  all_goals first | rfl | (simp +decide only [go_sem,Nat.reduceAdd,hs];done) | (simp +decide only [go_sem,Nat.reduceAdd,Vl.cs,Ty.cs,hs];done)):p:=k h f hcalm hO
theorem hv {p F:Prop} (f:F) (h:F→p:=by intro hs;first | rfl | (simp +decide only [go_sem,Nat.reduceAdd,hs];done) | (simp +decide only [go_sem,Nat.reduceAdd,Vl.cs,Ty.cs,hs];done)):p:=h f
theorem Ty.cs_eqs (t:Ty):t.cs=[.val (.int .i64 t.kind),.val (.int .i64 t.min),.val (.int .i64 t.max),.val (.int .i64 t.scale),.list (t.words.map Lq) .none,.list (t.elem.map HF) .none,.list (t.fields.map Cm) .none]:=by
 cases t;rw [Ty.cs,Yq,WU];rfl
theorem Vl.cs_eqs (v:Vl):v.cs=[.val (.int .i64 v.kind),.val (.int .i64 v.int),.val (.int .i64 v.scale),.val (.string v.text),.list (v.list.map Bo) .none,.list (v.fields.map BM) .none]:=by
 rw [v.cs_eq,UM,Y1]
theorem Uh (w0:World) (B:List (List AV)) (Rw:List RowA) (L:List LoopA) (hT:Lib.Utf8Tabs 0 1 w0) (s:ByteArray) (hs:s.size≤maxLen) :
  ACalls Tryz.prog w0 115 [.val (.string s)] ⟨B,Rw,L⟩ fun v s'=>v = .val (.bool (Lib.validD s.data.toList))∧s'=⟨B,Rw,L⟩:=Zcf w0 _ hT s hs
theorem NP (w0:World) (B:List (List AV)) (Rw:List RowA) (L:List LoopA) (a b:ByteArray) :
  ACalls Tryz.prog w0 141 [.val (.string a),.val (.string b)] ⟨B,Rw,L⟩ fun v s'=>v = .val (.int .i64 (ER a b))∧s'=⟨B,Rw,L⟩:=Zk w0 _ a b
attribute [go_sem] QY Oq JX Nat.mul_one Nat.zero_add Nat.add_zero Option.isSome_some List.getElem?_cons_zero List.getElem?_cons_succ
abbrev ALp:Prop:=(∀ (α:Type) (l m:List α),List.append l m=l++m)∧(∀ (α:Type) (a:α) (l m:List α),(a::l)++m=a::(l++m))∧∀ (α:Type) (l:List α),[]++l=l
theorem al {F:Prop} (h:F):ALp∧F:=⟨⟨fun _ _ _=>rfl,fun _ _ _ _=>rfl,fun _ _=>rfl⟩,h⟩
theorem Vl.cs_mks (k i s:Int) (t:ByteArray) (l:List Vl) (f:List (ByteArray × Vl)):(Vl.mk k i s t l f).cs=[.val (.int .i64 k),.val (.int .i64 i),.val (.int .i64 s),.val (.string t),.list (l.map Bo) .none,.list (f.map BM) .none]:=Vl.cs_eqs _
theorem Ty.cs_mks (a b c d:Int) (w:List ByteArray) (e:List Ty) (f:List (Int × ByteArray × Int × Ty × List Vl)):(Ty.mk a b c d w e f).cs=[.val (.int .i64 a),.val (.int .i64 b),.val (.int .i64 c),.val (.int .i64 d),.list (w.map Lq) .none,.list (e.map HF) .none,.list (f.map Cm) .none]:=Ty.cs_eqs _
theorem cm {F:Prop} (h:F):((∀ k i s t l f,(Vl.mk k i s t l f).cs=[.val (.int .i64 k),.val (.int .i64 i),.val (.int .i64 s),.val (.string t),.list (l.map Bo) .none,.list (f.map BM) .none])∧∀ a b c d w e f,(Ty.mk a b c d w e f).cs=[.val (.int .i64 a),.val (.int .i64 b),.val (.int .i64 c),.val (.int .i64 d),.list (w.map Lq) .none,.list (e.map HF) .none,.list (f.map Cm) .none])∧F:=⟨⟨Vl.cs_mks,Ty.cs_mks⟩,h⟩
theorem EA {p:Prop} (h:p:=by first | rfl | simp only [List.length_append,List.length_cons,List.length_nil,List.length_map,Nat.zero_add,Nat.add_zero]):p:=h
theorem HN {p:Prop} (h:p:=by simp only [List.length_set]):p:=h
theorem kr {p:Prop} (h:p:=by kernel_rfl):p:=h
theorem px {p:Prop} (h:p:=by first | exact List.prefix_append _ _ | exact List.prefix_refl _):p:=h
theorem Tj {p:Prop} (h:p:=by simp only [List.append_assoc,List.cons_append,List.nil_append]):p:=h
theorem nq {p:Prop} (h:p:=by first | assumption | omega | (simp only [List.length_set] at *; omega)):p:=h
theorem Yo {p:Prop} (h:p:=by first | rfl | simp only [List.flatMap_nil]):p:=h
theorem vu {p V:Prop} (v:V) (h:V→p:=by intro v;simp only [List.mem_cons,List.not_mem_nil,or_false,forall_eq_or_imp,forall_eq];exact v _ _ _ _):p:=h v
theorem Ju {p V:Prop} {Rw rows:List RowA} {l:List (Nat × Nat × Ev.Own)} {ho:Ev.Own} {v:List VE} (u:V) (hO:Owns Rw rows l ho v) (h:V→Rw.length≤rows.length→p:=by
  intro u hl
  (simp +decide only [go_sem,Nat.reduceAdd,Ls])<;>(try (repeat' apply Aa))<;>first | omega | assumption | exact u _ _ _ (by omega) (by omega) (by omega)):p:=h u hO.len
theorem ln {p:Prop} {Rw rows Rw' rows':List RowA} {l l':List (Nat × Nat × Ev.Own)} {ho ho':Ev.Own} {v v':List VE} (h1:Owns Rw rows l ho v) (h2:Owns Rw' rows' l' ho' v') (h:Rw.length≤rows.length→Rw'.length≤rows'.length→p:=by intro _ _;first | exact Nat.le_refl _ | omega):p:=h h1.len h2.len
theorem dl {F p q:Prop} (m c1 c2:Nat) (L:List Nat) (f:F) {P:Program} (hm:P.follows .mixedOrders=true) {A K:Env→St→Prop} (hK:∀ e s,A e s→K e s) (k:q) (h:Tg (m,c1,c2,L)→F→P.follows .mixedOrders=true→(∀ e s,A e s→K e s)→q→p:=by
  intro tt hs hm hK hq
  refine O9 tt hm (by kernel_rfl) ?_
  rw [Am];simp +decide only [go_sem,Nat.reduceAdd,hs]
  (repeat' with_reducible apply Aa)<;>first | (rw [Am];simp +decide only [go_sem,Nat.reduceAdd,hs]) | (clear hq;exact cl)
  first | (refine hK _ _ ?_;exact hq) | ((repeat' apply Aa)<;>first | (refine hK _ _ ?_;exact hq) | (clear hq;exact cl))):p:=h tg f hm hK k
theorem dk {F p q:Prop} (m c1 c2:Nat) (L:List Nat) (f:F) {P:Program} (hm:P.follows .mixedOrders=true) (k:q) (h:Tg (m,c1,c2,L)→F→P.follows .mixedOrders=true→q→p:=by
  intro tt hs hm hq
  refine O9 tt hm (by kernel_rfl) ?_
  rw [Am];simp +decide only [go_sem,Nat.reduceAdd,hs]
  first | (refine HI ?_;exact hq) | ((repeat' apply Aa)<;>first | (refine HI ?_;exact hq) | (clear hq;exact cl))):p:=h tg f hm k
theorem dj {F p q:Prop} (m c1 c2:Nat) (L:List Nat) (f:F) {P:Program} (hm:P.follows .mixedOrders=true) (k:q) (h:Tg (m,c1,c2,L)→F→P.follows .mixedOrders=true→q→p:=by
  intro tt hs hm hq
  refine O9 tt hm (by kernel_rfl) ?_
  rw [Am];simp +decide only [go_sem,Nat.reduceAdd,hs]
  (repeat' with_reducible apply Aa)<;>first | (rw [Am];simp +decide only [go_sem,Nat.reduceAdd,hs]) | (clear hq;exact cl)
  first | (refine HI ?_;exact hq) | ((repeat' apply Aa)<;>first | (refine HI ?_;exact hq) | (clear hq;exact cl))):p:=h tg f hm k
theorem dn {F p q:Prop} (f:F) {A K:Env→St→Prop} (hK:∀ e s,A e s→K e s) (k:q) (h:F→(∀ e s,A e s→K e s)→q→p:=by
  intro hs hK hq
  rw [Am];simp +decide only [go_sem,Nat.reduceAdd,hs]
  (repeat' with_reducible apply Aa)<;>first | (rw [Am];simp +decide only [go_sem,Nat.reduceAdd,hs]) | (clear hq;exact cl)
  first | (refine hK _ _ ?_;exact hq) | ((repeat' apply Aa)<;>first | (refine hK _ _ ?_;exact hq) | (clear hq;exact cl))):p:=h f hK k
theorem rT {α:Type} {x r:α} {F G C p:Prop} (h:x=r) (f:F) (hcalm:C) (hO:G) (k:x=r→F→C→G→p:=by
  intro h hs hcalm hO
  apply A2;simp +decide only [go_sem,Nat.reduceAdd,hs]
  subst h
  first | refine DT hcalm rfl hO.pre (by simp +decide only [go_sem,Nat.reduceAdd]) ⟨?_,rfl⟩ | refine Fg hcalm rfl hO.pre (by simp +decide only [go_sem,Nat.reduceAdd]) ⟨?_,rfl⟩
  first | rfl | (simp +decide only [go_sem,Nat.reduceAdd,hs];done) | (simp +decide only [go_sem,Nat.reduceAdd,Vl.cs,Ty.cs,hs];done)):p:=k h f hcalm hO
end Go.Proofs.YtgpmlelfkjfbiaaGreatDoor
namespace Go.Ev
open Go Go.RowKit Go.Shelf
section
variable {P:Program} {w0:World} {st:St}
theorem YF {M:Mem} {w w':World} {e:TypeId} {sz:Nat} {v':Value} {n:Nat} {us:Nat→Value} {xs:List AV} (hst:RelSt w0 M st w) (hb:Below w.heap.size w w') (ho:w'.ownsRow w.heap.size e sz v' n (flat us n)) (hn:xs.length=n)
  (hus:∀ i,i<n→(us i).cells.size=sz) (hR:∀ i (hi:i<xs.length),R w0 M w (us i) xs[i]):∃ M',Ext w0 M w M' w'∧RelSt w0 M' st w'∧R w0 M' w' v' (.list xs .none):=by
 subst hn
 obtain ⟨k,h⟩:=ho
 rcases h with ⟨rfl,h0⟩ | ⟨g,cap,cur,rfl,hg,hcur,hc1,hc2,hc3,hc4⟩
 ·obtain ⟨c,b⟩:=hst.later hb w.heap.size 0 (Nat.le_refl _) (.inr rfl)
  have:xs=[]:=List.length_eq_zero_iff.1 h0
  subst this
  exact ⟨_,b,c,.nil (fun id=>by simp)⟩
 ·obtain ⟨c,b⟩:=hst.later hb g (xs.length*sz) hg (.inl (Array.getElem?_eq_some_iff.1 hcur).1)
  refine ⟨_,b,c,.list sz us hc1 hc2 (fun i hi=>⟨hus i hi,fun j d=>?_⟩) (fun i hi=>(hR i hi).mono b) trivial⟩
  have a:i*sz+j<xs.length*sz:=by
   have:(i+1)*sz≤xs.length*sz:=Nat.mul_le_mul_right _ hi
   rw [Nat.succ_mul] at this;omega
  refine ⟨.inr (by simp only [Mem.newTop,if_true,Nat.zero_add];exact a),?_⟩
  have f:=JI hus i hi j d
  rw [←f,←hc4,List.getElem?_take_of_lt a,Array.getElem?_toList]
  simp [World.cell?,hcur]
theorem Zar {ρ:Ren} (L:Go.Proofs.SlLaysE0.n41 P ρ) (i0:TypeInfo) (z:Value) (size bytes:Nat) (hi:P.info? (ρ.t 23)=some i0) (hz0:i0.zero=some z) (hz1:i0.size=size) (hz2:i0.bytes=bytes) (hzs:z.cells.size=size) (hsz:0<size)
  (z23:∀ w,(Go.sizeOf (ρ.t 23)).run P w = .ok size w) (a:Addr) (c:Nat) (w:World) :
  Calls P (ρ.f 41) #[.slice (some a) 0 c] w fun e w'=>∃ v',e = .returned v'∧w'.ownsRow w.heap.size (ρ.t 23) size v' 0 []∧Below w.heap.size w w':=by
 have l:=L.mixed;have y:=L.t4;have a4:=L.a4;have C:=L.z4;have E:=L.v4;have g:=L.t22;have o:=L.a22;have r:=L.z22;have x:=L.v22
 have s:∀ (w:World) (a:Option Addr) (n c h i:Nat),(binOp .eql (ρ.t 22) (.slice a n c) (.slice none h i)).run P w = .ok (.bool a.isNone) w:=fun w a n c h i=>Lib.run_eql_slice_nil w _ _ a n c h i L.t22
 have p:∀ w,Sem.run P (underlying (ρ.t 22)) w = .ok (TypeDesc.slice (ρ.t 23)) w:=run_underlying g
 obtain ⟨_,_,FG⟩:=L.f41
 go_enter FG,Go.Proofs.SlBodyN.n41_ntmps ρ
 go_wp2_with (at_builtin;refine wpList_append_own _ rfl _ _ (ρ.t 22) rfl w.heap.size (ρ.t 23) i0 z size bytes g hi hz0 hz1 hz2 hzs hsz _ _ _ rfl (World.ownsRow_made w #[] 0 (Nat.le_refl _) (Nat.zero_le _) (by simp)) a 0 c [] rfl (by simp) (by intro j u q;simp at q) (by intro u hu;cases hu) (by unfold maxLen;omega) (by omega) (by simp) ?_)
 intro v' D d b m
 go_wp2
 go_ret
 exact ⟨v',rfl,by simpa using d,((Below.refl _ w).alloc (Nat.le_refl _) _).grown b (by simp) (by intro k v;simp [Value.ownBlock] at v;omega)⟩
theorem ZaB {ρ:Ren} (L:Go.Proofs.SlLaysE0.n41 P ρ) (hen:J0 P (ρ.f 41)) (i0:TypeInfo) (z:Value) (size bytes:Nat) (hi:P.info? (ρ.t 23)=some i0) (hz0:i0.zero=some z) (hz1:i0.size=size) (hz2:i0.bytes=bytes) (hzs:z.cells.size=size) (hsz:0<size)
  (z23:∀ w,(Go.sizeOf (ρ.t 23)).run P w = .ok size w) {xs:List AV} {o:Own} (hx:∀ y∈xs,y.cells.length=size) (h1:∀ y∈xs,A5 y=true) (hbig:xs.length*bytes≤140737488355328) :
  ACalls P w0 (ρ.f 41) [.list xs o] st fun r s=>r = .list xs .none∧s=st:=by
 refine ⟨hen,fun M w q m h=>?_⟩
 obtain ⟨v,rfl⟩:∃ v,q = #[v]:=by
  have:=h.1
  simp only [List.length_cons,List.length_nil] at this
  exact Array.size_eq_one_iff.1 this
 have hv:R w0 M w v (.list xs o):=h.2 0 (by simp) (by simp)
 cases hv with
 | nil ho =>
  refine (Go.Proofs.AnyE.slices_Clone_nil L 0 0 w).mono ?_
  rintro en N ⟨rfl,rfl⟩
  exact ⟨_,M,_,st,rfl,⟨rfl,rfl⟩,.refl _ _ _,m,.nil (fun id=>by simp)⟩
 | @emp ad _ ho =>
  refine (Zar L i0 z size bytes hi hz0 hz1 hz2 hzs hsz z23 ad 0 w).mono ?_
  rintro en N ⟨E,rfl,a,c⟩
  obtain ⟨M',x,K,G⟩:=YF (xs:=[]) (us:=fun _=>undef) m c a rfl (fun i hi=>absurd hi (by omega)) (fun i hi=>absurd hi (by simp))
  exact ⟨E,M',_,st,rfl,⟨rfl,rfl⟩,x,K,G⟩
 | @list b off cap _ _ sz us hc hm hcell hu ho =>
  have d:∀ i,i<xs.length→(us i).cells.size=size:=fun i hi=>by
   rw [((hu i hi).cells).1];exact hx _ (List.getElem_mem _)
  have g:∀ i,i<xs.length→∀ j,j<size→w.cell? ⟨b,off+i*size+j,none⟩=(us i).cells[j]? := fun i hi j H=>by
   have e:sz=size:=((hcell i hi).1).symm.trans (d i hi)
   subst e
   exact ((hcell i hi).2 j H).2
  refine (Go.Proofs.AnyE.slices_Clone L i0 z size bytes hi hz0 hz1 hz2 hzs hsz z23 b off xs.length cap (flat us xs.length) w (AW d) (Nat.le_trans hc hm) hbig (fun j u H=>?_) (fun u F=>?_)).mono ?_
  ·have:=Gy d hsz g j u H
   rwa [E4] at this
  ·obtain ⟨i,C,J⟩:=List.mem_flatMap.1 F
   have l:i<xs.length:=by simpa using C
   obtain ⟨k,O,rfl⟩:=List.mem_iff_getElem.1 J
   have n:=(hu i l).cells
   have p:k<(us i).cells.size:=by simpa using O
   have:=n.2 k p (by rw [←n.1];exact p)
   rw [Array.getElem_toList]
   refine this.oneCell ((hu i l).cellsOne (fun vs D=>?_) _ (List.getElem_mem _))
   have:=h1 _ (List.getElem_mem l)
   rw [D] at this;cases this
  ·rintro en N ⟨E,rfl,a,_,c⟩
   obtain ⟨M',x,K,G⟩:=YF m c a rfl d hu
   exact ⟨E,M',_,st,rfl,⟨rfl,rfl⟩,x,K,G⟩
def Zbr (P:Program) (t:TypeId) (size bytes:Nat):Bool :=
 match P.info? t with
 | some i=>(i.size == size)&&(i.bytes == bytes)&&(match i.zero with | some z=>z.cells.size == size | none=>false)
 | none=>false
theorem Uw {t:TypeId} {size bytes:Nat} (h:Zbr P t size bytes=true):∃ i0 z,P.info? t=some i0∧i0.zero=some z∧i0.size=size∧i0.bytes=bytes∧z.cells.size=size:=by
 unfold Zbr at h
 cases hi:P.info? t with
 | none=>simp [hi] at h
 | some i =>
  simp only [hi,Bool.and_eq_true,beq_iff_eq] at h
  cases hz:i.zero with
  | none=>simp [hz] at h
  | some z =>
   simp only [hz,beq_iff_eq] at h
   exact ⟨i,z,rfl,hz,h.1.1,h.1.2,h.2⟩
theorem Yz {ρ:Ren} (L:Go.Proofs.SlLaysE0.n41 P ρ) (hen:J0 P (ρ.f 41)) (size bytes:Nat) (hi:Zbr P (ρ.t 23) size bytes=true) (hsz:0<size) (z23:∀ w,(Go.sizeOf (ρ.t 23)).run P w = .ok size w) {xs:List AV} {o:Own}
  (hx:∀ y∈xs,y.cells.length=size∧A5 y=true) (hbig:xs.length*bytes≤140737488355328):ACalls P w0 (ρ.f 41) [.list xs o] st fun r s=>r = .list xs .none∧s=st:=by
 obtain ⟨b,z,a1,a2,a3,a4,a5⟩:=Uw hi
 exact ZaB L hen b z size bytes a1 a2 a3 a4 a5 hsz z23 (fun y a=>(hx y a).1) (fun y a=>(hx y a).2) hbig
end
theorem Owns.len1 {Rw rows:List RowA} {o ho:Own} {sz n m:Nat} (h:Owns Rw rows [(sz,n,o)] ho) (e:n=m):Owns Rw rows [(sz,m,o)] ho:=e▸h
theorem Df {B:List (List AV)} {l i:Nat} {cs:List AV} (h:B[l]? = some cs) (hne:i≠l) :
  (∀ X R L o c,DK ⟨B.set i c++X,R,L⟩ (.box l o)=true)∧(∀ R L o c,DK ⟨B.set i c,R,L⟩ (.box l o)=true)∧(∀ X R L o c,Bq ⟨B.set i c++X,R,L⟩ (.box l o)=cs)∧(∀ R L o c,Bq ⟨B.set i c,R,L⟩ (.box l o)=cs) ∧
  (∀ X c,(B.set i c++X)[l]? = some cs)∧(∀ c,(B.set i c)[l]? = some cs)∧(∀ X c,(B.set i c++X).getD l []=cs)∧(∀ c,(B.set i c).getD l []=cs):=by
 have a:∀ c,(B.set i c)[l]? = some cs:=fun c=>by rw [List.getElem?_set_ne hne];exact h
 refine ⟨fun X R L o c=>(An (a c)).1 X R L o,fun R L o c=>(An (a c)).2.1 R L o,fun X R L o c=>(An (a c)).2.2.1 X R L o,fun R L o c=>(An (a c)).2.2.2.1 R L o,fun X c=>(An (a c)).2.2.2.2.1 X,a,
  fun X c=>(An (a c)).2.2.2.2.2.2.1 X,fun c=>(An (a c)).2.2.2.2.2.2.2.1⟩
theorem MN {P:Program} {w0:World} {n:Nat} {M0:Mem} {W0:World} {ro:Option Nat} {Q:AQ} {e:Env} {st:St} (hm:P.follows .mixedOrders=true) (ef:List Nat) (L:List Nat) {id:Nat} {l:List Oper} (hB:Vd l ef=true) (F:St→Prop) (k nb:Nat) {e1:Env} (hnb:st.boxes.length=nb)
  (hF:∀ s,F s→∃ c,YK P w0 n true l (fun e' s'=>e'=e1∧s'=s) c (Eh ef 0 l) e s) (hG:Good P w0 n l ef F (fun ev s=>∃ e2 s2,Conv w0 n nb ev s e2 s2∧Q .normal (Dz L e2) s2) k [] e1 st):GL P w0 n M0 W0 ro (.region id l.toArray true) Q e st:=by
 intro m M a w hr
 obtain ⟨d1,d2⟩:=hr.rel.st.drew
 refine wpIn_region_any hm (WH (e:=e) (e1:=e1) (M1:=M) (w1:=w) (ds:=a.defers) hB hF (fun ev s o r v d b g hd=>?_) _ _ a _ M k [] e1 st ?_ hG ?_)
 ·obtain ⟨e2,s2,d,u⟩:=d
  obtain ⟨M2,q,p⟩:=d o r v b
  have f:=q M w (hr.rel.st.N.trans hnb) g
  refine ⟨M2,_,_,⟨p.sub (Bm L _),hr.ext.trans f,?_⟩,u⟩
  rw [hd]
  exact hr.marks.later f hr.rel.st
 ·simp
 ·have hnl:∀ j,(Array.replicate l.toArray.size false).getD j false=false:=fun j=>by
   by_cases c:j<l.length
   ·simp [Array.getD_eq_getD_getElem?,c]
   ·simp [Array.getD_eq_getD_getElem?,c]
  exact ⟨by simp,fun j _ _ hl=>(by rw [hnl] at hl;cases hl),fun i _=>(by rw [hnl];simp),fun _ h=>(nomatch h),d1,hr.rel.size,rfl,d2,fun _ _=>rfl,fun _ _ ⟨_,h,_⟩=>(nomatch h),
   fun _ _ _ ⟨i,_,_,_,_,h⟩=>(by rw [hnl] at h;cases h),fun t x _ hs=>(hr.rel.env t x hs).mono d2⟩
theorem Rx {P:Program} {w0:World} {f:FuncId} {args args' cs:List AV} {st s':St} {v:AV} (h:ACalls P w0 f args' st fun r s=>r=v∧s=s') (he:(args++cs).map AV.pubA=args'):OJ P w0 (.clo f cs) args st fun r t=>r=v∧t=s':=h.pub he
end Go.Ev
namespace Go.Proofs.YtgpmlelfkjfbiaaGreatDoor
open Go Go.RowKit Go.Ev
def J6:Go.Shelf.Ren:=⟨fun | 41=>106 | n=>n,fun | 22=>22 | 23=>9 | 4=>4 | n=>n,fun | n=>n⟩
theorem Of:Go.Proofs.SlLaysE0.n41 Tryz.prog J6:={
 mixed:=by kernel_rfl
 f41:=⟨Tryz.f106.name,by decide,Tryz.func106.trans (congrArg some (by kernel_rfl))⟩
 t4:=Tryz.underlying4
 a4:=Tryz.isAgg4
 z4:=Tryz.sizeOf4
 v4:=Tryz.zeroValue4
 t22:=Tryz.underlying22
 a22:=Tryz.isAgg22
 z22:=Tryz.sizeOf22
 v22:=Tryz.zeroValue22 }
theorem Qq (w0:World) (B:List (List AV)) (Rw:List RowA) (L:List LoopA) (l:List ByteArray) (h:l.length*16≤140737488355328) :
  ACalls Tryz.prog w0 106 [.list (l.map Lq) .none] ⟨B,Rw,L⟩ fun r s=>r = .list (l.map Lq) .none∧s=⟨B,Rw,L⟩ :=
 Yz (ρ:=J6) Of (A1 Tryz.func106 rfl (by decide)) 1 16 (by kernel_rfl) (by decide) Tryz.sizeOf9 (by simp +decide only [go_sem]) (by rw [List.length_map];exact h)
end Go.Proofs.YtgpmlelfkjfbiaaGreatDoor
namespace Go.Ev
open Go Go.RowKit Go.Shelf Go.Sort Go.Proofs
theorem Pm {α β:Type} {f:α→List β} {sz:Nat}:∀ {xs:List α},(∀ x∈xs,(f x).length=sz)→(xs.flatMap f).length=xs.length*sz
 | [],_=>by simp
 | x::xs,h=>by
  rw [List.flatMap_cons,List.length_append,h x (List.mem_cons_self ..),Pm (fun y a=>h y (List.mem_cons_of_mem _ a)),List.length_cons,Nat.succ_mul,Nat.add_comm]
theorem TG {α β:Type} {f:α→List β} {sz:Nat}:∀ {xs:List α},(∀ x∈xs,(f x).length=sz)→∀ (i:Nat) (hi:i<xs.length) (j:Nat),j<sz→(xs.flatMap f)[i*sz+j]? = (f xs[i])[j]?
 | [],_,i,hi,_,_=>absurd hi (by simp)
 | x::xs,h,0,hi,j,hj=>by
  rw [List.flatMap_cons,Nat.zero_mul,Nat.zero_add,List.getElem?_append_left (by rw [h x (List.mem_cons_self ..)];exact hj)]
  rfl
 | x::xs,h,i+1,hi,j,hj=>by
  have b:=h x (List.mem_cons_self ..)
  rw [List.flatMap_cons,Nat.succ_mul,List.getElem?_append_right (by omega),b,show i*sz+sz+j-sz=i*sz+j by omega]
  exact TG (fun y a=>h y (List.mem_cons_of_mem _ a)) i (by simpa using hi) j hj
abbrev Wc:List UInt8→List UInt8→Int:=Lib.compareBytes
theorem Tv:∀ a,Wc a a=0
 | []=>rfl
 | x::a=>by simp only [Wc,Lib.compareBytes,UInt8.lt_irrefl,if_false];exact Tv a
theorem Q7:∀ a b,Wc b a = - Wc a b
 | [],[]=>rfl
 | [],_::_=>rfl
 | _::_,[]=>rfl
 | x::a,y::b=>by
  have ih:=Q7 a b
  simp only [Wc,Lib.compareBytes] at *
  by_cases h1:x<y
  ·have c:¬ y<x:=fun h=>by rw [UInt8.lt_iff_toNat_lt] at *; omega
   simp [h1,c]
  ·by_cases c:y<x
   ·simp [h1,c]
   ·simp only [h1,c,if_false];exact ih
theorem QL:∀ a b c,Wc a b≤0→Wc b c≤0→Wc a c≤0∧(Wc a b<0∨Wc b c<0→Wc a c<0)
 | [],[],c,_,h=>⟨h,fun q=>q.elim (fun q=>absurd q (by decide)) id⟩
 | [],_::_,[],_,h=>absurd (show (1:Int)≤0 from h) (by decide)
 | [],_::_,_::_,_,_=>⟨show (-1:Int)≤0 by decide,fun _=>show (-1:Int)<0 by decide⟩
 | _::_,[],c,h,_=>absurd (show (1:Int)≤0 from h) (by decide)
 | _::_,_::_,[],_,h=>absurd (show (1:Int)≤0 from h) (by decide)
 | x::a,y::b,z::c,h1,h2=>by
  have ih:=QL a b c
  simp only [Wc,Lib.compareBytes,UInt8.lt_iff_toNat_lt] at *
  by_cases p1:x.toNat<y.toNat
  ·by_cases p2:y.toNat<z.toNat
   ·have:x.toNat<z.toNat:=by omega
    simp [this]
   ·by_cases p3:z.toNat<y.toNat
    ·simp [p2,p3] at h2
    ·have:x.toNat<z.toNat:=by omega
     simp [this]
  ·by_cases p4:y.toNat<x.toNat
   ·simp [p1,p4] at h1
   ·simp only [p1,p4,if_false] at h1
    by_cases p2:y.toNat<z.toNat
    ·have:x.toNat<z.toNat:=by omega
     simp [this]
    ·by_cases p3:z.toNat<y.toNat
     ·simp [p2,p3] at h2
     ·simp only [p2,p3,if_false] at h2
      have e:¬ x.toNat<z.toNat:=by omega
      have d:¬ z.toNat<x.toNat:=by omega
      simp only [p1,p4,p2,p3,e,d,if_false]
      exact ih h1 h2
theorem Zdr {α:Type} (nm:α→ByteArray):SWO (ltOf fun x y:α=>Lib.compareBytes (nm x).data.toList (nm y).data.toList) where
 irrefl x:=by simp only [ltOf,decide_eq_false_iff_not];have:=Tv (nm x).data.toList;simp only [Wc] at this;omega
 trans x y z h1 h2:=by
  simp only [ltOf,decide_eq_true_eq] at *
  exact (QL (nm x).data.toList (nm y).data.toList (nm z).data.toList (by simp only [Wc];omega) (by simp only [Wc];omega)).2 (.inl h1)
 ntrans x y z h1 h2:=by
  simp only [ltOf,decide_eq_false_iff_not] at *
  have a:=Q7 (nm x).data.toList (nm y).data.toList
  have b:=Q7 (nm y).data.toList (nm z).data.toList
  have c:=Q7 (nm x).data.toList (nm z).data.toList
  have:=(QL (nm z).data.toList (nm y).data.toList (nm x).data.toList (by simp only [Wc] at *; omega) (by simp only [Wc] at *; omega)).1
  simp only [Wc] at *
  omega
def IQ (nm:Nat→ByteArray) (n:Nat):List Nat:=(pdq (ltOf fun i j:Nat=>Lib.compareBytes (nm i).data.toList (nm j).data.toList) (Array.range n) 0 n (Lib.bitLen n) true true).toList
theorem Nc (nm:Nat→ByteArray) (n:Nat):(IQ nm n).Perm (List.range n)∧∀ i j,i<j→j<n→¬ Lib.compareBytes (nm ((IQ nm n)[j]!)).data.toList (nm ((IQ nm n)[i]!)).data.toList<0:=by
 have h:=pdq_sorts (ltOf fun i j:Nat=>Lib.compareBytes (nm i).data.toList (nm j).data.toList) (Zdr nm) (Array.range n) 0 n (Lib.bitLen n) true true (Nat.zero_le _) (by simp) (Or.inl rfl)
 obtain ⟨⟨f,p,c⟩,l⟩:=h
 have a:(pdq (ltOf fun i j:Nat=>Lib.compareBytes (nm i).data.toList (nm j).data.toList) (Array.range n) 0 n (Lib.bitLen n) true true).size=n:=by simpa using f
 refine ⟨?_,fun i j o b=>?_⟩
 ·have m:((pdq (ltOf fun i j:Nat=>Lib.compareBytes (nm i).data.toList (nm j).data.toList) (Array.range n) 0 n (Lib.bitLen n) true true).extract 0 n).toList=IQ nm n:=by
   unfold IQ
   rw [Array.toList_extract]
   simp only [List.extract,Nat.sub_zero,List.drop_zero]
   exact List.take_of_length_le (by rw [Array.length_toList,a];exact Nat.le_refl _)
  rw [m] at c
  have e:((Array.range n).extract 0 n).toList=List.range n:=by simp [List.extract,Array.toList_range]
  rwa [e] at c
 ·have:=l i j (Nat.zero_le _) o b
  unfold ltOf at this
  have:=of_decide_eq_false this
  unfold IQ
  have g:∀ k,k<n→((pdq (ltOf fun i j:Nat=>Lib.compareBytes (nm i).data.toList (nm j).data.toList) (Array.range n) 0 n (Lib.bitLen n) true true).toList)[k]! = (pdq (ltOf fun i j:Nat=>Lib.compareBytes (nm i).data.toList (nm j).data.toList) (Array.range n) 0 n (Lib.bitLen n) true true)[k]! := fun k d=>by
   rw [getElem!_pos _ k (by rw [Array.length_toList,a];exact d),getElem!_pos _ k (by rw [a];exact d),Array.getElem_toList]
  rw [g i (by omega),g j b]
  exact this
theorem Hm (nm:Nat→ByteArray) (n:Nat):(IQ nm n).length=n:=by simpa using (Nc nm n).1.length_eq
theorem Zeg (nm:Nat→ByteArray) (n:Nat):∀ i∈IQ nm n,i<n:=fun i a=>by simpa using (Nc nm n).1.mem_iff.1 a
def MP {α:Type} (nm:α→ByteArray) (d:α) (xs:List α):List α:=(IQ (fun i=>nm (xs.getD i d)) xs.length).map fun i=>xs.getD i d
section
variable {P:Program} {w0:World} {st:St} {M:Mem} {w:World}
theorem RelSt.setVec (h:RelSt w0 M st w) {id ver sz:Nat} {cs cs':List AV} {w':World} (hid:st.rows[id]? = some (.vec ver sz cs)) (hb:Below w0.heap.size w w') (hoth:∀ b,b<w.heap.size→b≠M.blk id→w'.heap[b]? = w.heap[b]?)
  {c':Array Value} {ty:TypeId} (hc:w'.heap[M.blk id]? = some (.cells c' ty (0,0))) (hsz:c'.size=M.cap id*sz) (hle:cs'.length≤c'.size) (hone:∀ x∈cs',x.one=true) (hR:∀ i (h1:i<c'.size) (h2:i<cs'.length),R w0 M w c'[i] cs'[i]) :
  Ext w0 M w M w'∧RelSt w0 M { st with rows:=st.rows.set id (.vec ver sz cs') } w':=by
 have a:id<st.rows.length:=(Ag.1 hid).1
 have g:id<M.NR:=by rw [h.NR];exact a
 obtain ⟨G,Q,K,u,z,O,F,c,E,f8,V,H,C,J⟩:=h.row id _ hid
 have f:KeepsObj w w':=fun b o h1 h2=>by
  have d:=(Array.getElem?_eq_some_iff.1 h1).1
  by_cases q:b=M.blk id
  ·subst q;rw [f8] at h1;cases h1;cases h2
  ·exact (hoth b d q).trans h1
 have j:Ext w0 M w M w' :=
  ⟨Nat.le_refl _,fun _ _=>rfl,Nat.le_refl _,fun _ _=>⟨Nat.le_refl _,fun _=>⟨rfl,rfl,rfl⟩⟩,fun b U v hi hv=>by
   have d:=World.block_lt_of_cell? w _ hv
   refine ⟨?_,hi⟩
   have q:b≠M.blk id:=by
    rintro rfl
    rcases hi with hi | hi
    ·omega
    ·rw [u] at hi;omega
   unfold World.cell? at hv ⊢
   simp only [hoth b d q] at hv ⊢
   exact hv,hb.size,Nat.le_refl _,fun _ _=>rfl,fun _ h1 h2=>absurd h2 (Nat.not_lt.2 h1),fun b o h1 h2 _=>f b o h1 h2⟩
 refine ⟨j,h.below.trans hb,h.N,by simp [h.NR],fun b t=>h.top b (Nat.le_trans hb.size t),h.inj,fun l s y=>?_,fun i x hi=>?_,h.rowinj,h.loop.mono j rfl f⟩
 ·obtain ⟨a1,a2,D,r,a3,a4,a5,a6⟩:=h.box l s y
  have k:l<M.N:=by rw [h.N];exact (Ag.1 y).1
  exact ⟨a1,a2,D,r,by rw [hoth _ (Array.getElem?_eq_some_iff.1 a3).1 (z l k)];exact a3,a4,a5,fun i h1 h2=>(a6 i h1 h2).mono j⟩
 ·by_cases q:i=id
  ·subst q
   rw [List.getElem?_set_self a] at hi
   cases hi
   exact ⟨G,Q,K,u,z,O,F,c',ty,hc,hsz,hle,hone,fun i h1 h2=>(hR i h1 h2).mono j⟩
  ·rw [List.getElem?_set_ne (Ne.symm q)] at hi
   have p:i<M.NR:=by rw [h.NR];exact (Ag.1 hi).1
   have m:=h.row i x hi
   have n:M.blk i≠M.blk id:=fun e=>q (h.rowinj i id p g e)
   exact m.keep j rfl rfl rfl rfl rfl m.ne (hoth _ m.lt n)
theorem Zb1 {ρ:Ren} (L:SlLaysF0.n6 P ρ) (hen:J0 P (ρ.f 6)) (k:Nat) (aE:∀ w,(isAgg (ρ.t 24)).run P w = .ok true w) (zE:∀ w,(Go.sizeOf (ρ.t 24)).run P w = .ok (k+1) w) (g:FuncId) (hg:J0 P g)
  (hcmp:∀ (s s':ByteArray) (r r':List Value) (W:World),r.length=k→r'.length=k→(∀ v∈r,v.oneCell'=true)→(∀ v∈r',v.oneCell'=true) →
   Calls P g #[.agg (.string s::r).toArray,.agg (.string s'::r').toArray] W fun e w'=>e = .returned (.int .i64 (Lib.compareBytes s.data.toList s'.data.toList))∧∃ q os',w'=grow (W.drewN q) os')
  {α:Type} (f:α→AV) (nm:α→ByteArray) (d:α) (l:List α) (hf:∀ x,∃ r,f x = .agg (.val (.string (nm x))::r)∧r.length=k) {rid ver:Nat} (hid:st.rows[rid]? = some (.vec ver (k+1) (l.flatMap fun x=>(f x).cells))) (hn:0<l.length) (hz:l.length<4611686018427387904) :
  ACalls P w0 (ρ.f 6) [.vec rid ver 0 l.length,.clo g []] st fun r s=>r = .tup []∧s={ st with rows:=st.rows.set rid (.vec ver (k+1) ((MP nm d l).flatMap fun x=>(f x).cells)) }:=by
 refine ⟨hen,fun M w ab ag G=>?_⟩
 obtain ⟨v0,v1,rfl⟩:∃ v0 v1,ab = #[v0,v1]:=by
  have hs:=G.1
  simp only [List.length_cons,List.length_nil] at hs
  match ab,hs with
  | ⟨[a,b]⟩,_=>exact ⟨a,b,rfl⟩
 have h0:R w0 M w v0 (.vec rid ver 0 l.length):=G.2 0 (by simp) (by simp)
 have h1:R w0 M w v1 (.clo g []):=G.2 1 (by simp) (by simp)
 obtain ⟨av,rfl,aw⟩:=Xz h1
 have:av = #[]:=Array.size_eq_zero_iff.1 aw.1
 subst this
 have Q:∀ x,(f x).cells.length=k+1:=fun x=>by obtain ⟨r,e,N⟩:=hf x;rw [e];simp [AV.cells,N]
 have ah:(l.flatMap fun x=>(f x).cells).length=l.length*(k+1):=Pm fun x _=>Q x
 obtain ⟨f1,f2,f3,f4,f5,f6,f7,c,ty,f8,f9,ar,am,au⟩:=ag.row rid _ hid
 cases h0 with
 | @vec _ _ _ _ p cap z hver hh =>
 obtain ⟨rfl,ax,hm⟩:=hh f1.symm
 have Z:M.blk rid<w.heap.size:=(Array.getElem?_eq_some_iff.1 f8).1
 have ao:l.length*(k+1)≤c.size:=by rw [←ah];exact ar
 -- the elements,by their number
 let enc:Nat→List Value:=fun i=>if i<l.length then (c.toList.drop (i*(k+1))).take (k+1) else .string (nm d)::List.replicate k (.int .i64 0)
 have bnd:∀ i,i<l.length→i*(k+1)+(k+1)≤c.size:=fun i z=>by
  have:(i+1)*(k+1)≤l.length*(k+1):=Nat.mul_le_mul_right _ z
  rw [Nat.succ_mul] at this;omega
 have hk:∀ i,(enc i).length=k+1:=fun i=>by
  simp only [enc];split
  ·rename_i q;have:=bnd i q;simp;omega
  ·simp
 have u:∀ i,i<l.length→∀ j,j<k+1→(enc i)[j]? = c[i*(k+1)+j]? := fun i z j hj=>by
  simp only [enc,Ae z]
  rw [List.getElem?_take_of_lt hj,List.getElem?_drop,Array.getElem?_toList]
 have cR:∀ i (z:i<l.length) j (hj:j<k+1),∃ v x,c[i*(k+1)+j]? = some v∧(f l[i]).cells[j]? = some x∧x.one=true∧R w0 M w v x:=fun i z j hj=>by
  have hb:=bnd i z
  have n:i*(k+1)+j<c.size:=by omega
  have ad:i*(k+1)+j<(l.flatMap fun x=>(f x).cells).length:=by rw [ah];have:(i+1)*(k+1)≤l.length*(k+1):=Nat.mul_le_mul_right _ z;rw [Nat.succ_mul] at this;omega
  have e:=TG (f:=fun x=>(f x).cells) (xs:=l) (fun x _=>Q x) i z j hj
  rw [List.getElem?_eq_getElem ad] at e
  exact ⟨_,_,Array.getElem?_eq_getElem n,e.symm,am _ (List.getElem_mem _),au _ n ad⟩
 have C:∀ i,∀ v∈enc i,v.oneCell'=true:=fun i v hv=>by
  by_cases q:i<l.length
  ·obtain ⟨j,hj,rfl⟩:=List.mem_iff_getElem.1 hv
   have ak:j<k+1:=by rw [hk] at hj;exact hj
   obtain ⟨v,x,e1,e2,E,e4⟩:=cR i q j ak
   have:=u i q j ak
   rw [List.getElem?_eq_getElem hj,e1] at this
   cases this
   exact e4.oneCell E
  ·simp only [enc,Af q,List.mem_cons,List.mem_replicate] at hv
   rcases hv with rfl | ⟨_,rfl⟩<;>rfl
 let nmI:Nat→ByteArray:=fun i=>nm (l.getD i d)
 have V:∀ i,∃ r,enc i = .string (nmI i)::r∧r.length=k:=fun i=>by
  by_cases q:i<l.length
  ·obtain ⟨v,x,e1,e2,E,e4⟩:=cR i q 0 (by omega)
   obtain ⟨r,er,N⟩:=hf l[i]
   rw [er] at e2
   simp only [AV.cells,List.getElem?_cons_zero,Option.some.injEq] at e2
   subst e2
   have ev:v = .string (nm l[i]):=by cases e4;rfl
   subst ev
   have hg:=u i q 0 (by omega)
   rw [e1] at hg
   cases he:enc i with
   | nil=>rw [he] at hg;cases hg
   | cons y ys =>
    rw [he] at hg
    simp only [List.getElem?_cons_zero,Option.some.injEq] at hg
    have hl:=hk i
    rw [he] at hl
    refine ⟨ys,?_,by simpa using hl⟩
    simp only [nmI,List.getD_eq_getElem?_getD,List.getElem?_eq_getElem q,Option.getD_some,hg]
  ·exact ⟨List.replicate k (.int .i64 0),by simp only [enc,nmI,Af q,List.getD_eq_getElem?_getD,List.getElem?_eq_none (Nat.le_of_not_lt q),Option.getD_none],by simp⟩
 let cf:Nat→Nat→Int:=fun i j=>Lib.compareBytes (nmI i).data.toList (nmI j).data.toList
 have ae:CmpLays P g #[] enc (k+1) cf (M.blk rid) 0 (Array.range l.length).size w:=by
  intro m os dk ay x y
  obtain ⟨r,e1,e2⟩:=V x
  obtain ⟨r',E,e4⟩:=V y
  have a1:=C x
  have a2:=C y
  rw [e1] at a1
  rw [E] at a2
  have:=hcmp (nmI x) (nmI y) r r' (sortWorldK enc (k+1) w (M.blk rid) 0 m dk os) e2 e4 (fun v hv=>a1 v (List.mem_cons_of_mem _ hv)) (fun v hv=>a2 v (List.mem_cons_of_mem _ hv))
  simp only [e1,E,cf]
  exact this
 have hH:HoldsK enc (k+1) w (M.blk rid) 0 (Array.range l.length):=by
  intro t K
  rw [size_flatK,Array.size_range] at K
  rw [get_flatK _ _ _ _ (by simpa using K)]
  have H:t / (k+1)<l.length:=Nat.div_lt_of_lt_mul (by rw [Nat.mul_comm];exact K)
  have N:t % (k+1)<k+1:=Nat.mod_lt _ (by omega)
  have e1:((Array.range l.length)[t / (k+1)]! : Nat)=t / (k+1):=by simp [H]
  have e2:=u _ H _ N
  have E:t / (k+1)*(k+1)+t % (k+1)=t:=by rw [Nat.mul_comm];exact Nat.div_add_mod t (k+1)
  rw [E] at e2
  rw [e1]
  have n:t<c.size:=by omega
  have J:t % (k+1)<(enc (t / (k+1))).length:=by rw [hk];exact N
  rw [getElem!_pos (enc (t / (k+1))) _ J]
  rw [List.getElem?_eq_getElem J,Array.getElem?_eq_getElem n] at e2
  refine ⟨?_,?_⟩
  ·simp only [World.cell?,f8,Nat.zero_add,id_eq]
   rw [Array.getElem?_eq_getElem n]
   exact e2.symm
  ·simp [World.frozen?,f8]
 have hS:=AnyQ.slices_SortFunc_eq L (k+1) aE zE enc hk C cf (Zdr nmI) g #[] (M.blk rid) 0 cap (Array.range l.length) w (fun a w'=>by
   have:=hg a w'
   exact this) ae hH Z (by simpa using hz)
 simp only [Array.size_range] at hS
 have e0:(some ⟨M.blk rid,0*M.rsz rid,none⟩:Option Addr)=some ⟨M.blk rid,0,none⟩:=by rw [Nat.zero_mul]
 rw [e0]
 refine hS.mono ?_
 rintro en w' ⟨rfl,m,os,rfl⟩
 -- what the sort leaves
 let D:=pdq (ltOf cf) (Array.range l.length) 0 l.length (Lib.bitLen l.length) true true
 have hD:D.toList=IQ nmI l.length:=rfl
 have aj:D.size=l.length:=by rw [←Array.length_toList,hD,Hm]
 have U:∀ i,i<l.length→(D[i]! : Nat)<l.length:=fun i z=>by
  have O:i<D.size:=by omega
  rw [getElem!_pos D i O]
  exact Zeg nmI l.length _ (by rw [←hD];exact Array.getElem_mem_toList O)
 have ap:∀ i (z:i<l.length),(IQ nmI l.length)[i]'(by rw [Hm];exact z)=(D[i]! : Nat):=fun i z=>by
  have O:i<D.size:=by omega
  rw [getElem!_pos D i O,←Array.getElem_toList]
  simp only [hD]
 let F:=flatK enc (k+1) D
 have hF:F.size=l.length*(k+1):=by simp only [F,size_flatK,aj]
 let c':Array Value:=putCells id 0 F c
 have af:(MP nm d l).length=l.length:=by simp only [MP,List.length_map];exact Hm _ _
 have h:((MP nm d l).flatMap fun x=>(f x).cells).length=l.length*(k+1):=by rw [Pm fun x _=>Q x,af]
 have ai:∀ t,t<l.length*(k+1)→∃ v x,c'[t]? = some v∧((MP nm d l).flatMap fun x=>(f x).cells)[t]? = some x∧x.one=true∧R w0 M w v x:=fun t K=>by
  have H:t / (k+1)<l.length:=Nat.div_lt_of_lt_mul (by rw [Nat.mul_comm];exact K)
  have N:t % (k+1)<k+1:=Nat.mod_lt _ (by omega)
  have E:t / (k+1)*(k+1)+t % (k+1)=t:=by rw [Nat.mul_comm];exact Nat.div_add_mod t (k+1)
  obtain ⟨v,x,e1,e2,e4,e5⟩:=cR _ (U _ H) _ N
  refine ⟨v,x,?_,?_,e4,e5⟩
  ·have n:t<c.size:=by omega
   simp only [c',putCells,Array.getElem?_mapIdx,Array.getElem?_eq_getElem n,Option.map_some,Nat.zero_add,Nat.zero_le,true_and,hF,Ae K,Nat.sub_zero,id_eq]
   simp only [F]
   rw [get_flatK _ _ _ _ (by rw [aj];exact K)]
   have J:t % (k+1)<(enc (D[t / (k+1)]!)).length:=by rw [hk];exact N
   rw [getElem!_pos (enc (D[t / (k+1)]!)) _ J,←List.getElem?_eq_getElem J,u _ (U _ H) _ N]
   exact e1
  ·have e6:=TG (f:=fun x=>(f x).cells) (xs:=MP nm d l) (fun x _=>Q x) (t / (k+1)) (by rw [af];exact H) (t % (k+1)) N
   rw [E] at e6
   rw [e6]
   have e7:(MP nm d l)[t / (k+1)]'(by rw [af];exact H)=l[(D[t / (k+1)]! : Nat)]'(U _ H):=by
    simp only [MP,List.getElem_map]
    rw [show (IQ (fun i=>nm (l.getD i d)) l.length)[t / (k+1)]'(by rw [Hm];exact H)=(D[t / (k+1)]! : Nat) from ap _ H]
    rw [List.getD_eq_getElem?_getD,List.getElem?_eq_getElem (U _ H),Option.getD_some]
   rw [e7]
   exact e2
 have Y:c'.size=c.size:=by simp [c',putCells]
 have o:(sortWorldK enc (k+1) w (M.blk rid) 0 m D os).heap=w.heap.modify (M.blk rid) (onCells (putCells id 0 F))++os:=rfl
 have aa:∀ b,b<w.heap.size→b≠M.blk rid→(sortWorldK enc (k+1) w (M.blk rid) 0 m D os).heap[b]? = w.heap[b]? := fun b hb aq=>by
  rw [o,Array.getElem?_append_left (by simpa using hb),Array.getElem?_modify,Af (fun q=>aq q.symm)]
 obtain ⟨x1,x2⟩:=ag.setVec (c':=c') (ty:=ty) (cs':=(MP nm d l).flatMap fun x=>(f x).cells) (w':=sortWorldK enc (k+1) w (M.blk rid) 0 m D os) hid
  ⟨rfl,rfl,rfl,by rw [o];simp,fun b hb=>aa b (Nat.lt_of_lt_of_le hb ag.base_le) (by omega)⟩ aa
  (by rw [o,Array.getElem?_append_left (by simpa using Z),Array.getElem?_modify,Ae rfl,f8];rfl) (by rw [Y];exact f9) (by rw [h,Y];exact ao)
  (fun x hx=>by
   obtain ⟨t,K,rfl⟩:=List.mem_iff_getElem.1 hx
   rw [h] at K
   obtain ⟨v,y,_,e2,E,_⟩:=ai t K
   rw [List.getElem?_eq_getElem (by rw [h];exact K)] at e2
   cases e2
   exact E)
  (fun t h1 h2=>by
   rw [h] at h2
   obtain ⟨v,y,e1,e2,_,e4⟩:=ai t h2
   rw [List.getElem?_eq_getElem (by rw [h];exact h2)] at e2
   rw [Array.getElem?_eq_getElem h1] at e1
   cases e1;cases e2
   exact e4)
 exact ⟨.tuple #[],M,.tup [],_,rfl,⟨rfl,rfl⟩,x1,x2,.tup rfl (fun i h1 _=>absurd h1 (by simp))⟩
end
structure VOne (Rw rows:List RowA) (sz:Nat) (xs:List AV) (x:AV):Prop where
 pre:Rw <+: rows
 calm:∀ r∈rows.drop Rw.length,∀ y∈r.cells,∀ a b c,Under a b c y
 at_:(xs=[]∧x = .list [] .seed)∨∃ id ver,x = .vec id ver 0 xs.length∧0<xs.length∧Rw.length≤id∧rows[id]? = some (.vec ver sz (xs.flatMap AV.cells))
theorem VOne.none (Rw:List RowA) (sz:Nat):VOne Rw Rw sz [] (.list [] .seed):=⟨List.prefix_refl _,by simp,.inl ⟨rfl,rfl⟩⟩
theorem VOne.of_eq {Rw rows:List RowA} {sz:Nat} {xs ys:List AV} {x:AV} (h:VOne Rw rows sz xs x) (he:xs=ys):VOne Rw rows sz ys x:=he▸h
theorem VOne.len {Rw rows:List RowA} {sz:Nat} {xs:List AV} {x:AV} (h:VOne Rw rows sz xs x):Rw.length≤rows.length:=h.pre.length_le
theorem VOne.under {Rw rows:List RowA} {sz:Nat} {xs:List AV} {x:AV} (h:VOne Rw rows sz xs x) (nb nl:Nat):Under nb rows.length nl x:=by
 rcases h.at_ with ⟨_,rfl⟩ | ⟨id,ver,rfl,_,_,h3⟩
 ·exact .list (by simp) trivial
 ·exact .vec (Ag.1 h3).1
theorem VOne.cell {Rw rows:List RowA} {sz:Nat} {xs:List AV} {x:AV} (h:VOne Rw rows sz xs x):x.cells=[x]∧A5 x=true∧x.pubCell.pubCell=x.pubCell:=by
 rcases h.at_ with ⟨_,rfl⟩ | ⟨id,ver,rfl,_,_,h3⟩<;>exact ⟨rfl,rfl,rfl⟩
theorem VOne.append {P:Program} {t el:TypeId} {sz by8:Nat} {ag:Bool} {Rw rows:List RowA} {xs:List AV} {x y:AV} (h:VOne Rw rows sz xs x) (he:Kq P t=some (el,sz,ag,by8)) (hz:(C5 P el).isSome=true) (hs:0<sz)
  (hb:(xs.length+1)*by8≤140737488355328) (hb2:xs.length+1≤4611686018427387904) (hy:y.cells.length=sz∧A5 y=true) (hp:y.pub=y) (hu:∀ c∈y.cells,∀ a b d,Under a b d c) (hxs:∀ z∈xs,z.cells.length=sz) :
  ∃ x' rows',VOne Rw rows' sz (xs++[y]) x'∧∀ (B:List (List AV)) (L:List LoopA) (o2:Own),BA P ⟨B,rows,L⟩ t x (.list [y] o2)=(True,x',⟨B,rows',L⟩):=by
 have g:=h.len
 have i:CP P el sz by8 xs.length [y]=True:=by
  simp only [CP,hs,hz,List.length_singleton,hb,hb2,true_and,List.mem_singleton,forall_eq,hy,and_self]
 rcases h.at_ with ⟨rfl,rfl⟩ | ⟨id,ver,rfl,h1,h2,h3⟩
 ·refine ⟨.vec rows.length 0 0 1,rows++[.vec 0 sz y.cells],⟨h.pre.trans (List.prefix_append _ _),fun r hr z hz' a b c=>?_,.inr ⟨rows.length,0,rfl,by simp,g,by simp⟩⟩,fun B L o2=>?_⟩
  ·rw [List.drop_append_of_le_length g] at hr
   rcases List.mem_append.1 hr with hr | hr
   ·exact h.calm r hr z hz' a b c
   ·simp only [List.mem_singleton] at hr;subst hr;exact hu z hz' a b c
  ·simp only [BA,he,AY,CE,List.length_singleton,List.length_nil,List.flatMap_cons,List.flatMap_nil,List.append_nil,hp]
   rw [show CP P el sz by8 0 [y]=True from i]
   simp
 ·have f:=(Ag.1 h3).1
  have e:(xs.flatMap AV.cells).length=xs.length*sz:=Pm hxs
  refine ⟨.vec id (ver+1) 0 (xs.length+1),rows.set id (.vec (ver+1) sz (xs.flatMap AV.cells++y.cells)),⟨Kz h.pre h2 _,fun r hr z hz' a b c=>?_,.inr ⟨id,ver+1,by rw [List.length_append];rfl,by simp,h2,by simp [f,List.flatMap_append]⟩⟩,fun B L o2=>?_⟩
  ·rw [List.drop_set,Af (by omega)] at hr
   rcases List.mem_or_eq_of_mem_set hr with hr | rfl
   ·exact h.calm r hr z hz' a b c
   ·rcases List.mem_append.1 hz' with q | q
    ·exact h.calm (.vec ver sz (xs.flatMap AV.cells)) (by
      rw [List.mem_iff_getElem?]
      exact ⟨id-Rw.length,by rw [List.getElem?_drop,Nat.add_sub_cancel' h2];exact h3⟩) z q a b c
    ·exact hu z q a b c
  ·simp only [BA,he,AY,CE,List.length_singleton,List.flatMap_cons,List.flatMap_nil,List.append_nil,hp,EW,h3,if_true]
   rw [i]
   simp only [e,true_and,Nat.le_refl,and_self,Prod.mk.injEq,true_and,List.take_of_length_le (Nat.le_of_eq e)]
section
variable {P:Program} {w0:World} {n:Nat} {e:Env} {st:St} {M0:Mem} {W0:World} {ro:Option Nat} {Q:AQ} {c:Code}
theorem tdV {B0 B bs X:List (List AV)} {Rw rows:List RowA} {L:List LoopA} {sz:Nat} {xs:List AV} {x:AV} (hN:M0.N=B0.length) (hNR:M0.NR=Rw.length) (hNL:M0.NL=L.length) (hc:Calm B0.length Rw.length L.length ⟨B,Rw,L⟩) (ho:VOne Rw rows sz xs x)
  (h:GL P w0 n M0 W0 ro c Q e ⟨B++bs,rows,L⟩) (hB:B.length=B0.length:=by first | rfl | simp only [List.length_set])
  (hbs:∀ cs∈bs,∀ x∈cs,Under (B0.length+bs.length) rows.length L.length x:=by (simp +decide only [go_sem,Nat.reduceAdd])<;>(try (repeat' apply Aa))<;>first | omega | assumption)
  (he:Ls (B0.length+bs.length) rows.length L.length e:=by (simp +decide only [go_sem,Nat.reduceAdd,Ls])<;>(try (repeat' apply Aa))<;>first | omega | assumption):GL P w0 n M0 W0 ro c Q e ⟨B++(bs++X),rows,L⟩:=by
 rw [←hB] at hN hc hbs he
 clear hB B0
 have i:=ho.len
 have d:St.cut ⟨B++(bs++X),rows,L⟩ (B.length+bs.length) rows.length L.length=⟨B++bs,rows,L⟩:=by
  simp only [St.cut,List.take_length,←List.append_assoc]
  rw [List.take_left' (by simp)]
 refine TM (B.length+bs.length) rows.length L.length (by simp) (Nat.le_refl _) (Nat.le_refl _) (by omega) (by omega) (by omega) ?_ he (by rw [d];exact h)
 rw [d]
 refine ⟨fun r hr x a=>?_,fun cs hcs x a=>?_,fun g b k x a f=>?_⟩
 ·obtain ⟨t,rfl⟩:=ho.pre
  rcases List.mem_append.1 hr with hr | hr
  ·exact C3 (by omega) (by omega) (Nat.le_refl _) (hc.rows r hr x a)
  ·exact ho.calm r (by simpa using hr) x a _ _ _
 ·rcases List.mem_append.1 hcs with hcs | hcs
  ·exact C3 (by omega) (by omega) (Nat.le_refl _) (hc.boxes cs hcs x a)
  ·exact hbs cs hcs x a
 ·exact C3 (by omega) (by omega) (Nat.le_refl _) (hc.loops g b k x a f)
theorem ZbS {sz:Nat} {ys:List AV} (hy:∀ y∈ys,∃ cs,y = .agg cs∧cs.length=sz):PH sz true (ys.flatMap AV.cells) 0 ys.length=ys:=by
 have b:∀ y∈ys,y.cells.length=sz:=fun y h=>by obtain ⟨cs,rfl,q⟩:=hy y h;exact q
 refine List.ext_getElem (by simp [PH]) (fun i c a=>?_)
 simp only [PH,List.getElem_map,List.getElem_range,Nat.zero_add,PP,if_true]
 obtain ⟨cs,e,q⟩:=hy _ (List.getElem_mem a)
 rw [e]
 congr 1
 refine List.ext_getElem? fun j=>?_
 by_cases hj:j<sz
 ·rw [List.getElem?_take_of_lt hj,List.getElem?_drop,TG b i a j hj,e];rfl
 ·rw [List.getElem?_eq_none (by simp;omega),List.getElem?_eq_none (by omega)]
end
end Go.Ev
namespace Go.Proofs
open Go.Shelf
def Tryz.laysSort_ren:Go.Shelf.Ren:=⟨fun | 6=>218 | 15=>237 | 14=>236 | 28=>257 | 29=>258 | 20=>249 | 21=>250 | 22=>251 | 23=>252 | 24=>253 | 25=>254 | 26=>255 | 27=>256 | 46=>263 | 47=>264 | 48=>265 | 49=>266 | 50=>267 | 57=>270 | n=>n,fun | 22=>44 | 24=>75 | 25=>155 | 3=>3 | 39=>180 | 0=>0 | 53=>220 | 55=>216 | 4=>4 | 46=>239 | 45=>238 | 50=>111 | 5=>5 | 9=>9 | 66=>249 | 70=>84 | 76=>254 | 77=>170 | n=>n,fun | n=>n⟩
theorem Tryz.laysSort:Go.Proofs.SlLaysF0.n6 Tryz.prog Tryz.laysSort_ren:={
 mixed:=by kernel_rfl
 f6:=⟨Tryz.f218.name,by decide,Tryz.func218.trans (congrArg some (by kernel_rfl))⟩
 f14:=⟨Tryz.f236.name,by decide,Tryz.func236.trans (congrArg some (by kernel_rfl))⟩
 f15:=Tryz.func237.trans (congrArg some (by kernel_rfl))
 f20:=⟨Tryz.f249.name,by decide,Tryz.func249.trans (congrArg some (by kernel_rfl))⟩
 f21:=⟨Tryz.f250.name,by decide,Tryz.func250.trans (congrArg some (by kernel_rfl))⟩
 f22:=⟨Tryz.f251.name,by decide,Tryz.func251.trans (congrArg some (by kernel_rfl))⟩
 f23:=⟨Tryz.f252.name,by decide,Tryz.func252.trans (congrArg some (by kernel_rfl))⟩
 f24:=⟨Tryz.f253.name,by decide,Tryz.func253.trans (congrArg some (by kernel_rfl))⟩
 f25:=⟨Tryz.f254.name,by decide,Tryz.func254.trans (congrArg some (by kernel_rfl))⟩
 f26:=⟨Tryz.f255.name,by decide,Tryz.func255.trans (congrArg some (by kernel_rfl))⟩
 f27:=⟨Tryz.f256.name,by decide,Tryz.func256.trans (congrArg some (by kernel_rfl))⟩
 f28:=Tryz.func257.trans (congrArg some (by kernel_rfl))
 f29:=Tryz.func258.trans (congrArg some (by kernel_rfl))
 f46:=⟨Tryz.f263.name,by decide,Tryz.func263.trans (congrArg some (by kernel_rfl))⟩
 f47:=Tryz.func264.trans (congrArg some (by kernel_rfl))
 f48:=Tryz.func265.trans (congrArg some (by kernel_rfl))
 f49:=⟨Tryz.f266.name,by decide,Tryz.func266.trans (congrArg some (by kernel_rfl))⟩
 f50:=⟨Tryz.f267.name,by decide,Tryz.func267.trans (congrArg some (by kernel_rfl))⟩
 f57:=⟨Tryz.f270.name,by decide,Tryz.func270.trans (congrArg some (by kernel_rfl))⟩
 t0:=Tryz.underlying0
 a0:=Tryz.isAgg0
 z0:=Tryz.sizeOf0
 v0:=Tryz.zeroValue0
 t3:=Tryz.underlying3
 a3:=Tryz.isAgg3
 z3:=Tryz.sizeOf3
 v3:=Tryz.zeroValue3
 t4:=Tryz.underlying4
 a4:=Tryz.isAgg4
 z4:=Tryz.sizeOf4
 v4:=Tryz.zeroValue4
 t5:=Tryz.underlying5
 a5:=Tryz.isAgg5
 z5:=Tryz.sizeOf5
 v5:=Tryz.zeroValue5
 t9:=Tryz.underlying9
 a9:=Tryz.isAgg9
 z9:=Tryz.sizeOf9
 v9:=Tryz.zeroValue9
 t22:=Tryz.underlying44
 a22:=Tryz.isAgg44
 z22:=Tryz.sizeOf44
 v22:=Tryz.zeroValue44
 t25:=Tryz.underlying155
 a25:=Tryz.isAgg155
 z25:=Tryz.sizeOf155
 v25:=Tryz.zeroValue155
 t39:=Tryz.underlying180
 a39:=Tryz.isAgg180
 z39:=Tryz.sizeOf180
 v39:=Tryz.zeroValue180
 t45:=Tryz.underlying238
 a45:=Tryz.isAgg238
 z45:=Tryz.sizeOf238
 v45:=Tryz.zeroValue238
 t46:=Tryz.underlying239
 a46:=Tryz.isAgg239
 z46:=Tryz.sizeOf239
 v46:=Tryz.zeroValue239
 t50:=Tryz.underlying111
 a50:=Tryz.isAgg111
 z50:=Tryz.sizeOf111
 v50:=Tryz.zeroValue111
 t53:=Tryz.underlying220
 a53:=Tryz.isAgg220
 z53:=Tryz.sizeOf220
 v53:=Tryz.zeroValue220
 t55:=Tryz.underlying216
 a55:=Tryz.isAgg216
 z55:=Tryz.sizeOf216
 v55:=Tryz.zeroValue216
 t66:=Tryz.underlying249
 a66:=Tryz.isAgg249
 z66:=Tryz.sizeOf249
 v66:=Tryz.zeroValue249
 t70:=Tryz.underlying84
 a70:=Tryz.isAgg84
 z70:=Tryz.sizeOf84
 v70:=Tryz.zeroValue84
 t76:=Tryz.underlying254
 a76:=Tryz.isAgg254
 z76:=Tryz.sizeOf254
 v76:=Tryz.zeroValue254
 t77:=Tryz.underlying170
 a77:=Tryz.isAgg170
 z77:=Tryz.sizeOf170
 v77:=Tryz.zeroValue170 }
end Go.Proofs
namespace Go.Proofs.YtgpmlelfkjfbiaaGreatDoor
open Go Go.RowKit Go.Ev Go.Shelf Go.Sort Go.Lib
theorem ZN (s s':ByteArray) (r r':List Value) (W:World) (h1:r.length=6) (h2:r'.length=6) (h3:∀ v∈r,v.oneCell'=true) (h4:∀ v∈r',v.oneCell'=true) :
  Calls Tryz.prog 219 #[.agg (.string s::r).toArray,.agg (.string s'::r').toArray] W fun e w'=>e = .returned (.int .i64 (Lib.compareBytes s.data.toList s'.data.toList))∧∃ q os',w'=grow (W.drewN q) os':=by
 have hcon:=fun a=>Tryz.strings_Compare s s' a
 change ∀ a,Calls Tryz.prog 141 _ _ _ at hcon
 generalize Lib.compareBytes s.data.toList s'.data.toList=z at hcon ⊢
 match r,h1 with
 | [a1,a2,a3,a4,a5,a6],_ =>
 match r',h2 with
 | [b1,b2,b3,b4,b5,b6],_ =>
 simp only [List.mem_cons,List.not_mem_nil,or_false,forall_eq_or_imp,forall_eq] at h3 h4
 go_enter Tryz.func219,Tryz.ntmps219
 go_wp2_with (go_at_call 141;refine (hcon _).mono ?_;rintro e w' ⟨rfl,rfl⟩)
 go_ret
 exact ⟨rfl,0,_,by rw [alloc_eq_grow,alloc_eq_grow,grow_grow];rfl⟩
def Pi:String:=(Rows.schemaLeavesRow.laid.map (·.1)).getD 2 default
abbrev Pow10 (w:World):Prop:=Lib.TabIs Tryz.prog w Pi .u64 Lib.pow10Tab
theorem Pow10.below {w0 w:World} (h:Pow10 w0) (hb:Below w0.heap.size w0 w):Pow10 w:=by
 unfold Pow10 Lib.TabIs World.var? at *
 cases hg:Tryz.prog.globalNamed Pi with
 | none=>rw [hg] at h;cases h
 | some g =>
  rw [hg] at h
  simp only [Ab] at h ⊢
  cases hx:w0.heap[g]? with
  | none=>rw [hx] at h;cases h
  | some o =>
   rw [hb.block g (Array.getElem?_eq_some_iff.1 hx).1]
   exact h
theorem UJ (u:Nat):Lib.nDigits u≤u / 10+1:=by
 induction u using Nat.strongRecOn with
 | _ u ih =>
  by_cases h:u<10
  ·rw [Lib.nDigits_small h];omega
  ·rw [Lib.nDigits_big h]
   have:=ih (u / 10) (by omega)
   omega
theorem Zcl (n:Int) (h : -9223372036854775808≤n∧n≤9223372036854775807):(Lib.itoa n).length≤maxLen:=by
 unfold Lib.itoa maxLen
 split
 ·rw [List.length_cons,Lib.decDigits_length];have:=UJ n.natAbs;omega
 ·rw [Lib.decDigits_length];have:=UJ n.toNat;omega
theorem ZdO (w0:World) (B:List (List AV)) (Rw:List RowA) (L:List LoopA) (hP:Pow10 w0) (n:Int) (hn : -9223372036854775808≤n∧n≤9223372036854775807) :
  ACalls Tryz.prog w0 157 [.val (.int .i64 n)] ⟨B,Rw,L⟩ fun v s'=>v = .val (.string ⟨(Lib.itoa n).toArray⟩)∧s'=⟨B,Rw,L⟩ :=
 Nn (A1 Tryz.func157 rfl (by decide)) (by
  show decide ((Lib.itoa n).toArray.size≤maxLen)=true
  rw [List.size_toArray]
  exact Ad (Zcl n hn)) fun M w b d a=>by
  have:=UP (us:=[.int .i64 n]) a
  subst this
  refine (Any.strconv_Itoa Tryz.laysM171 n hn.1 hn.2 w (hP.below d)).mono ?_
  rintro e g ⟨rfl,k,c,rfl⟩
  refine ⟨rfl,rfl,rfl,rfl,by simp [grow],fun i f=>?_⟩
  show (grow (w.drewN k) c).heap[i]? = w.heap[i]?
  rw [heap_grow_old (w.drewN k) c f]
  rfl
end Go.Proofs.YtgpmlelfkjfbiaaGreatDoor
namespace Go.Proofs.YtgpmlelfkjfbiaaGreatDoor
open Go Go.RowKit Go.Ev
def JS (b:Int × ByteArray × Int × Ty × List Vl) (g:ByteArray):Bool :=
 Cb b.2.1 g
theorem Xr (w0:World) (B:List (List AV)) (Rw:List RowA) (L:List LoopA) (a0:Int × ByteArray × Int × Ty × List Vl) (la1:Nat) (a1:ByteArray) (hla1:B[la1]? = some ([.val (.string a1)])) (r:Bool) (h:JS a0 a1=r) :
  ACalls Tryz.prog w0 71 [.agg (.val (.int .i64 a0.1)::(.val (.string a0.2.1)::(.val (.int .i64 a0.2.2.1)::((a0.2.2.2.1.cs)++([.list (a0.2.2.2.2.map Bo) .none]))))),.box la1 0] ⟨B,Rw,L⟩ fun x st=>x = .val (.bool r)∧st=⟨B,Rw,L⟩:=by
 rw [JS] at h
 refine hd [.tmp 3] Tryz.func71 Tryz.ntmps71 fun M0 W0 g e c a f d hs=>?_
 simp only [Au]
 have b:=(Ag.1 hla1).1
 have hs:=Aa (An hla1) hs
 refine rg [1,2] hs ?_
 refine rg [3] hs ?_
 exact rT h hs a d
theorem V1 (w0:World) (B:List (List AV)) (Rw:List RowA) (L:List LoopA) (a0:Int × ByteArray × Int × Ty × List Vl) (la1:Nat) (a1:ByteArray) (hla1:B[la1]? = some ([.val (.string a1)])) :
  ACalls Tryz.prog w0 71 [.agg (.val (.int .i64 a0.1)::(.val (.string a0.2.1)::(.val (.int .i64 a0.2.2.1)::((a0.2.2.2.1.cs)++([.list (a0.2.2.2.2.map Bo) .none]))))),.box la1 0] ⟨B,Rw,L⟩ fun x st=>x = .val (.bool (JS a0 a1))∧st=⟨B,Rw,L⟩:=Xr w0 B Rw L a0 la1 a1 hla1 _ rfl
def LS (rec:Vl→Option Vl) (n:Nat) (b:Vl) (b2_k22_4:List Vl) (b2_k22_5:List (ByteArray × Vl)):Option Vl :=
 some (Vl.mk b.kind b.int b.scale b.text b2_k22_4 b2_k22_5)
def G5 (rec:Vl→Option Vl) (n:Nat) (h:Vl):Nat→Int→(List Vl)→(List (ByteArray × Vl))→Option Vl
 | 0,_,_,_=>none
 | m+1,b,b2_l25_4,b2_l25_5 =>
  if decide (b<(h.fields.length:Int)) then
   (B7 h.fields b).bind fun g =>
   (rec g.2).bind fun q =>
   if (b2_l25_5.length+1)*104≤140737488355328∧b2_l25_5.length+1≤4611686018427387904 then
    if BQ (b+1) then
     (G5 rec n h m) (b+1) b2_l25_4 (b2_l25_5++([(g.1,q)]))
    else none
   else none
  else
   LS rec n h b2_l25_4 b2_l25_5
def NJ (rec:Vl→Option Vl) (n:Nat) (b:Vl) (b2_k5_4:List Vl):Option Vl :=
 G5 rec n b n 0 b2_k5_4 ([])
def Ic (rec:Vl→Option Vl) (n:Nat) (g:Vl):Nat→Int→(List Vl)→Option Vl
 | 0,_,_=>none
 | m+1,b,b2_l8_4 =>
  if decide (b<(g.list.length:Int)) then
   (B7 g.list b).bind fun q =>
   (rec q).bind fun h =>
   if (b2_l8_4.length+1)*88≤140737488355328∧b2_l8_4.length+1≤4611686018427387904 then
    if BQ (b+1) then
     (Ic rec n g m) (b+1) (b2_l8_4++([h]))
    else none
   else none
  else
   NJ rec n g b2_l8_4
def Nb (rec:Vl→Option Vl) (n:Nat) (b:Vl):Option Vl :=
 Ic rec n b n 0 ([])
def Bn:Nat→Vl→Option Vl
 | 0,_=>none
 | n+1,b=>Nb (Bn n) n b
def RI (w0:World) (F:Vl→Option Vl):Prop:=∀ (B:List (List AV)) (Rw:List RowA) (L:List LoopA) (b:Vl) (r:Vl),F b=some r→ACalls Tryz.prog w0 66 [.agg (b.cs)] ⟨B,Rw,L⟩ fun x st=>x = .agg (r.cs)∧st=⟨B,Rw,L⟩
theorem Xi (w0:World) (rec:Vl→Option Vl) (ih:RI w0 rec) (n:Nat):RI w0 (Nb rec n):=by
 intro B Rw L a0 r h
 rw [Nb] at h
 refine hd [.cell 2 46] Tryz.func66 Tryz.ntmps66 fun M0 W0 hN C H z hu w hs=>?_
 simp only [Au]
 refine rg [1,2] hs ?_
 refine rg [1,2,3] hs ?_
 have hs:=Aa (Vl.cs_eqs a0) hs
 refine rg [1,2,3] hs ?_
 refine Aw (fun e st=>∃ (i:List Vl) (j:Ev.Own),Ck e st B Rw L [(1,true,.box B.length 0),(2,true,.box (B.length+1) 0),(3,true,.box (B.length+2) 0)] [a0.cs,[.val (.int .i64 0),.val (.int .i64 0),.val (.int .i64 0),.val (.string ((⟨#[]⟩:ByteArray))),.list ([]) .full,.list ([]) .full],[.val (.int .i64 a0.kind),.val (.int .i64 a0.int),.val (.int .i64 a0.scale),.val (.string a0.text),.list (i.map Bo) j,.list ([]) .full]] [(6,i.length,j)] (NJ rec n a0 i=some r)) ?_ ?_
 ·intro K6 ai
  refine rg [1,2,3,12,13,14] hs ?_
  apply Ak
  refine AC (fun m e st=>∃ (x:Int) (c:List Vl) (o:Ev.Own),Ck e st B Rw L [(1,true,.box B.length 0),(2,true,.box (B.length+1) 0),(3,true,.box (B.length+2) 0),(12,true,.list (a0.list.map Bo) .none),(13,true,.val (.int .i64 (a0.list.length:Int))),(14,true,.val (.int .i64 x))] [a0.cs,[.val (.int .i64 0),.val (.int .i64 0),.val (.int .i64 0),.val (.string ((⟨#[]⟩:ByteArray))),.list ([]) .full,.list ([]) .full],[.val (.int .i64 a0.kind),.val (.int .i64 a0.int),.val (.int .i64 a0.scale),.val (.string a0.text),.list (c.map Bo) o,.list ([]) .full]] [(6,c.length,o)] (Ic rec n a0 m x c=some r)) n ⟨0,([]),.full,([]),Rw,ef hs,ef hs,Owns.of_eq ((w).full 6 0) EA,h⟩ ?_
  rintro ml8 e st ⟨x,c,o,Xl8,Rl8,rfl,rfl,w,h⟩ Ul8 Vl8
  cases ml8 with
  | zero=>cases h
  | succ ml8 =>
  rw [Ic] at h
  have F:=w.unders
  simp only [List.mem_cons,List.not_mem_nil,or_false,forall_eq_or_imp,forall_eq] at F
  refine td hN C H z w ?_
  refine rg [1,2,3,12,13,14,15] hs ?_
  apply Ah;intro K10 Q
  refine AN h hs (fun hs h=>?_) (fun hs h=>?_)
  rotate_left
  ·refine sx [1,2,3] hs ai ?_
   exact ⟨c,o,([]),Rl8,ef hs,ef hs,Owns.of_eq (w) EA,h⟩
  refine sk [1,2,3,12,13,14] hs Q ?_
  clear Q
  apply Ah;intro K12 K
  apply Ak
  obtain ⟨ae,ah,h⟩:=bind_some h
  obtain ⟨av,ar,Y⟩:=AA ah
  have V:=AB (f:=Bo) Y
  have hs:=Aa V hs
  refine rg [1,2,3,5,12,13,14] hs ?_
  obtain ⟨ap,ad,h⟩:=bind_some h
  obtain ⟨U,h⟩:=Aj h
  obtain ⟨ao,G,w,u⟩:=w.append (P:=Tryz.prog) RY (by rw [MR];rfl) (by decide) 1 U.1 U.2
  replace u:=fun (ys:List AV) B L o2=>u (c.map Bo) ys B L o2 EA
  replace u:=fun (y:AV) B L o2=>u [y] B L o2 EA ev
  try simp only [List.mem_singleton,List.mem_cons,List.not_mem_nil,or_false,forall_eq_or_imp,forall_eq,List.map_append,List.map_cons,List.map_nil,FP,FN,Fz,FB,FK,Fa,Ea,Eb,FA,Db,Da,Ed,Ek,Ef] at u
  have hs:=Aa u hs
  refine dk 5 2 1 [1,2,3,12,13,14] hs HH ?_
  refine Ai _ (ih _ _ _ ae _ ad) (hv hs) ?_
  refine dn hs K ?_
  clear K
  obtain ⟨ay,h⟩:=Aj h
  refine rl [1,2,3,12,13,14] hs (fun e s=>Vl8 ml8 e s (Nat.lt_succ_self _)) ?_
  exact ⟨(x+1),(c++([ap])),ao,([ae.cs]),G,ef hs,ef hs,Owns.of_eq (w) EA,h⟩
 ·clear h;rintro e st ⟨i,j,Xk5,Rk5,rfl,rfl,w,h⟩
  rw [NJ] at h
  have F:=w.unders
  simp only [List.mem_cons,List.not_mem_nil,or_false,forall_eq_or_imp,forall_eq] at F
  refine td hN C H z w ?_
  refine Aw (fun e st=>∃ (k:List Vl) (l:List (ByteArray × Vl)) (p:Ev.Own) (q:Ev.Own),Ck e st B Rw L [(2,true,.box (B.length+1) 0),(3,true,.box (B.length+2) 0)] [a0.cs,[.val (.int .i64 0),.val (.int .i64 0),.val (.int .i64 0),.val (.string ((⟨#[]⟩:ByteArray))),.list ([]) .full,.list ([]) .full],[.val (.int .i64 a0.kind),.val (.int .i64 a0.int),.val (.int .i64 a0.scale),.val (.string a0.text),.list (k.map Bo) p,.list (l.map BM) q]] [(6,k.length,p),(7,l.length,q)] (LS rec n a0 k l=some r)) ?_ ?_
  ·intro K23 ab
   refine rg [2,3,27,28,29] hs ?_
   apply Ak
   refine AC (fun m e st=>∃ (t:Int) (b:List Vl) (a:List (ByteArray × Vl)) (d:Ev.Own) (g:Ev.Own),Ck e st B Rw L [(2,true,.box (B.length+1) 0),(3,true,.box (B.length+2) 0),(27,true,.list (a0.fields.map BM) .none),(28,true,.val (.int .i64 (a0.fields.length:Int))),(29,true,.val (.int .i64 t))] [a0.cs,[.val (.int .i64 0),.val (.int .i64 0),.val (.int .i64 0),.val (.string ((⟨#[]⟩:ByteArray))),.list ([]) .full,.list ([]) .full],[.val (.int .i64 a0.kind),.val (.int .i64 a0.int),.val (.int .i64 a0.scale),.val (.string a0.text),.list (b.map Bo) d,.list (a.map BM) g]] [(6,b.length,d),(7,a.length,g)] (G5 rec n a0 m t b a=some r)) n ⟨0,i,([]),j,.full,([]),Rk5,ef hs,ef hs,Owns.of_eq (((w).full 7 0).swap (List.Perm.swap _ _ _)) EA,h⟩ ?_
   rintro ml25 e st ⟨t,b,a,d,g,Xl25,Rl25,rfl,rfl,w,h⟩ Ul25 Vl25
   cases ml25 with
   | zero=>cases h
   | succ ml25 =>
   rw [G5] at h
   have F:=w.unders
   simp only [List.mem_cons,List.not_mem_nil,or_false,forall_eq_or_imp,forall_eq] at F
   obtain ⟨ak,aj⟩:=F
   refine td hN C H z w ?_
   refine rg [2,3,27,28,29,30] hs ?_
   apply Ah;intro K27 N
   refine AN h hs (fun hs h=>?_) (fun hs h=>?_)
   rotate_left
   ·refine sx [2,3] hs ab ?_
    exact ⟨b,a,d,g,([]),Rl25,ef hs,ef hs,Owns.of_eq (((w).swap (List.Perm.swap _ _ _)).swap (List.Perm.swap _ _ _)) EA,h⟩
   refine sk [2,3,27,28,29] hs N ?_
   clear N
   apply Ah;intro K29 J
   apply Ak
   obtain ⟨D,af,h⟩:=bind_some h
   obtain ⟨aq,au,Z⟩:=AA af
   have aa:=AB (f:=BM) Z
   have hs:=Aa aa hs
   refine rg [2,3,7,27,28,29] hs ?_
   obtain ⟨aw,ag,h⟩:=bind_some h
   obtain ⟨O,h⟩:=Aj h
   have w:=w.swap (List.Perm.swap _ _ _)
   obtain ⟨am,E,w,v⟩:=w.append (P:=Tryz.prog) OW (by rw [JD];rfl) (by decide) 1 O.1 O.2
   replace v:=fun (ys:List AV) B L o2=>v (a.map BM) ys B L o2 EA
   replace v:=fun (y:AV) B L o2=>v [y] B L o2 EA ev
   try simp only [List.mem_singleton,List.mem_cons,List.not_mem_nil,or_false,forall_eq_or_imp,forall_eq,List.map_append,List.map_cons,List.map_nil,FP,FN,Fz,FB,FK,Fa,Ea,Eb,FA,Db,Da,Ed,Ek,Ef] at v
   have hs:=Aa v hs
   refine dk 9 2 1 [2,3,27,28,29] hs HH ?_
   refine Ai _ (ih _ _ _ D.2 _ ag) (hv hs) ?_
   refine dn hs J ?_
   clear J
   obtain ⟨ax,h⟩:=Aj h
   refine rl [2,3,27,28,29] hs (fun e s=>Vl25 ml25 e s (Nat.lt_succ_self _)) ?_
   exact ⟨(t+1),b,(a++([(D.1,aw)])),d,am,([.val (.string D.1)::(D.2.cs)]),E,ef hs,ef hs,Owns.of_eq ((w).swap (List.Perm.swap _ _ _)) EA,h⟩
  ·clear h;rintro e st ⟨k,l,p,q,Xk22,Rk22,rfl,rfl,w,h⟩
   rw [LS] at h
   have F:=w.unders
   simp only [List.mem_cons,List.not_mem_nil,or_false,forall_eq_or_imp,forall_eq] at F
   obtain ⟨ak,aj⟩:=F
   refine td hN C H z w ?_
   refine rg [2] hs ?_
   exact rt h hs z w
theorem Fb (w0:World):∀ n:Nat,RI w0 (Bn n)
 | 0=>fun _ _ _ _ _ h=>(nomatch h)
 | n+1=>Xi w0 (Bn n) (Fb w0 n) n
def HS (rec:Ty→Option Ty) (n:Nat) (g:Int × ByteArray × Int × Ty × List Vl) (h:Ty) (b:List Vl):Option ((Int × ByteArray × Int × Ty × List Vl)) :=
 some ((g.1,g.2.1,g.2.2.1,h,b))
def DZ (rec:Ty→Option Ty) (n:Nat) (h:Int × ByteArray × Int × Ty × List Vl) (y:Ty):Nat→(List Vl)→Int→Option ((Int × ByteArray × Int × Ty × List Vl))
 | 0,_,_=>none
 | m+1,g,b =>
  if decide (b<(h.2.2.2.2.length:Int)) then
   (B7 h.2.2.2.2 b).bind fun s =>
   (Bn n s).bind fun q =>
   if (g.length+1)*88≤140737488355328∧g.length+1≤4611686018427387904 then
    if BQ (b+1) then
     (DZ rec n h y m) (g++([q])) (b+1)
    else none
   else none
  else
   HS rec n h y g
def D6 (rec:Ty→Option Ty) (n:Nat) (b:Int × ByteArray × Int × Ty × List Vl):Option ((Int × ByteArray × Int × Ty × List Vl)) :=
 (rec b.2.2.2.1).bind fun g =>
 if 0≤(b.2.2.2.2.length:Int)∧(b.2.2.2.2.length:Int)*88≤140737488355328∧(b.2.2.2.2.length:Int)≤4611686018427387904 then
  DZ rec n b g n ([]) 0
 else none
theorem N2 (w0:World) (rec:Ty→Option Ty) (ih:∀ (B:List (List AV)) (Rw:List RowA) (L:List LoopA) (a0:Ty) (r:Ty) (h:rec a0=some r),ACalls Tryz.prog w0 57 [.agg (a0.cs)] ⟨B,Rw,L⟩ fun x st=>x = .agg (r.cs)∧st=⟨B,Rw,L⟩) (n:Nat) (B:List (List AV)) (Rw:List RowA) (L:List LoopA) (a0:Int × ByteArray × Int × Ty × List Vl) (r:(Int × ByteArray × Int × Ty × List Vl)) (h:D6 rec n a0=some r) :
  ACalls Tryz.prog w0 105 [.agg (.val (.int .i64 a0.1)::(.val (.string a0.2.1)::(.val (.int .i64 a0.2.2.1)::((a0.2.2.2.1.cs)++([.list (a0.2.2.2.2.map Bo) .none])))))] ⟨B,Rw,L⟩ fun x st=>x = .agg (.val (.int .i64 r.1)::(.val (.string r.2.1)::(.val (.int .i64 r.2.2.1)::((r.2.2.2.1.cs)++([.list (r.2.2.2.2.map Bo) .none])))))∧st=⟨B,Rw,L⟩:=by
 rw [D6] at h
 refine hd [.cell 2 54] Tryz.func105 Tryz.ntmps105 fun M0 W0 U w E k Z l hs=>?_
 simp only [Au]
 refine rg [1,2] hs ?_
 obtain ⟨j,K,h⟩:=bind_some h
 have hs:=Aa (Ty.cs_eqs a0.2.2.2.1) hs
 have hs:=Aa (Ty.cs_eqs j) hs
 refine rc 2 [1,2] hs ?_;intro K2 F
 refine Ai _ (ih _ _ _ a0.2.2.2.1 _ K) (hv hs) ?_
 refine ne hs F ?_
 clear F
 obtain ⟨Y,h⟩:=Aj h
 have l:=l.make 6 0
 refine rg [1,2,3] hs ?_
 refine Aw (fun e st=>∃ (g:List Vl) (i:Ev.Own),Ck e st B Rw L [(1,true,.box B.length 0),(2,true,.box (B.length+1) 0),(3,true,.list (g.map Bo) i)] [[.val (.int .i64 a0.1),.val (.string a0.2.1),.val (.int .i64 a0.2.2.1),.val (.int .i64 j.kind),.val (.int .i64 j.min),.val (.int .i64 j.max),.val (.int .i64 j.scale),.list (j.words.map Lq) .none,.list (j.elem.map HF) .none,.list (j.fields.map Cm) .none,.list (a0.2.2.2.2.map Bo) .none],[.val (.int .i64 0),.val (.string ((⟨#[]⟩:ByteArray))),.val (.int .i64 0),.val (.int .i64 0),.val (.int .i64 0),.val (.int .i64 0),.val (.int .i64 0),.list ([]) .full,.list ([]) .full,.list ([]) .full,.list ([]) .full]] [(6,g.length,i)] (HS rec n a0 j g=some r)) ?_ ?_
 ·intro K9 G
  refine rg [1,2,3,15,16,17] hs ?_
  apply Ak
  refine AC (fun m e st=>∃ (a:List Vl) (b:Int) (c:Ev.Own),Ck e st B Rw L [(1,true,.box B.length 0),(2,true,.box (B.length+1) 0),(3,true,.list (a.map Bo) c),(15,true,.list (a0.2.2.2.2.map Bo) .none),(16,true,.val (.int .i64 (a0.2.2.2.2.length:Int))),(17,true,.val (.int .i64 b))] [[.val (.int .i64 a0.1),.val (.string a0.2.1),.val (.int .i64 a0.2.2.1),.val (.int .i64 j.kind),.val (.int .i64 j.min),.val (.int .i64 j.max),.val (.int .i64 j.scale),.list (j.words.map Lq) .none,.list (j.elem.map HF) .none,.list (j.fields.map Cm) .none,.list (a0.2.2.2.2.map Bo) .none],[.val (.int .i64 0),.val (.string ((⟨#[]⟩:ByteArray))),.val (.int .i64 0),.val (.int .i64 0),.val (.int .i64 0),.val (.int .i64 0),.val (.int .i64 0),.list ([]) .full,.list ([]) .full,.list ([]) .full,.list ([]) .full]] [(6,a.length,c)] (DZ rec n a0 j m a b=some r)) n ⟨([]),0,((.row Rw.length)),([]),((Rw++[.grow 0 6])),ef hs,ef hs,Owns.of_eq (l) EA,h⟩ ?_
  rintro ml11 e st ⟨a,b,c,Xl11,Rl11,rfl,rfl,l,h⟩ Ul11 Vl11
  cases ml11 with
  | zero=>cases h
  | succ ml11 =>
  rw [DZ] at h
  have O:=l.unders
  simp only [List.mem_cons,List.not_mem_nil,or_false,forall_eq_or_imp,forall_eq] at O
  refine td U w E k l ?_
  refine rg [1,2,3,15,16,17,18] hs ?_
  apply Ah;intro K13 t
  refine AN h hs (fun hs h=>?_) (fun hs h=>?_)
  rotate_left
  ·refine sx [1,2,3] hs G ?_
   exact ⟨a,c,([]),Rl11,ef hs,ef hs,Owns.of_eq (l) EA,h⟩
  refine sk [1,2,3,15,16,17] hs t ?_
  clear t
  apply Ah;intro K15 p
  apply Ak
  obtain ⟨z,D,h⟩:=bind_some h
  obtain ⟨N,J,v⟩:=AA D
  have u:=AB (f:=Bo) v
  have hs:=Aa u hs
  refine rg [1,2,3,5,15,16,17] hs ?_
  obtain ⟨Q,C,h⟩:=bind_some h
  obtain ⟨q,h⟩:=Aj h
  obtain ⟨H,o,l,d⟩:=l.append (P:=Tryz.prog) RY (by rw [MR];rfl) (by decide) 1 q.1 q.2
  replace d:=fun (ys:List AV) B L o2=>d (a.map Bo) ys B L o2 EA
  replace d:=fun (y:AV) B L o2=>d [y] B L o2 EA ev
  try simp only [List.mem_singleton,List.mem_cons,List.not_mem_nil,or_false,forall_eq_or_imp,forall_eq,List.map_append,List.map_cons,List.map_nil,FP,FN,Fz,FB,FK,Fa,Ea,Eb,FA,Db,Da,Ed,Ek,Ef] at d
  have hs:=Aa d hs
  refine rk 2 [1,2,3,15,16,17] hs ?_
  refine Ai _ (Fb w0 n _ _ _ z _ C) (hv hs) ?_
  refine ne hs p ?_
  clear p
  obtain ⟨V,h⟩:=Aj h
  refine rl [1,2,3,15,16,17] hs (fun e s=>Vl11 ml11 e s (Nat.lt_succ_self _)) ?_
  exact ⟨(a++([Q])),(b+1),H,([z.cs]),o,ef hs,ef hs,Owns.of_eq (l) EA,h⟩
 ·clear h;rintro e st ⟨g,i,Xk8,Rk8,rfl,rfl,l,h⟩
  rw [HS] at h
  have O:=l.unders
  simp only [List.mem_cons,List.not_mem_nil,or_false,forall_eq_or_imp,forall_eq] at O
  refine td U w E k l ?_
  refine rg [1,2] hs ?_
  refine rg [2] hs ?_
  exact rt h hs k l
def LA (rec:Ty→Option Ty) (n:Nat) (h:Ty) (g:List Ty) (b:List (Int × ByteArray × Int × Ty × List Vl)):Option Ty :=
 if h.words.length*16≤140737488355328 then
  some (Ty.mk h.kind h.min h.max h.scale h.words g b)
 else none
def Hf (rec:Ty→Option Ty) (n:Nat) (q:Ty):Nat→(List Ty)→(List (Int × ByteArray × Int × Ty × List Vl))→Int→Option Ty
 | 0,_,_,_=>none
 | m+1,h,g,b =>
  if decide (b<(q.fields.length:Int)) then
   (B7 q.fields b).bind fun y =>
   (D6 rec n y).bind fun s =>
   if (g.length+1)*160≤140737488355328∧g.length+1≤4611686018427387904 then
    if BQ (b+1) then
     (Hf rec n q m) h (g++([s])) (b+1)
    else none
   else none
  else
   LA rec n q h g
def Nx (rec:Ty→Option Ty) (n:Nat) (g:Ty) (b:List Ty):Option Ty :=
 if 0≤(g.fields.length:Int)∧(g.fields.length:Int)*160≤140737488355328∧(g.fields.length:Int)≤4611686018427387904 then
  Hf rec n g n b ([]) 0
 else none
def Ij (rec:Ty→Option Ty) (n:Nat) (h:Ty):Nat→(List Ty)→Int→Option Ty
 | 0,_,_=>none
 | m+1,g,b =>
  if decide (b<(h.elem.length:Int)) then
   (B7 h.elem b).bind fun s =>
   (rec s).bind fun q =>
   if (g.length+1)*104≤140737488355328∧g.length+1≤4611686018427387904 then
    if BQ (b+1) then
     (Ij rec n h m) (g++([q])) (b+1)
    else none
   else none
  else
   Nx rec n h g
def O8 (rec:Ty→Option Ty) (n:Nat) (b:Ty):Option Ty :=
 if 0≤(b.elem.length:Int)∧(b.elem.length:Int)*104≤140737488355328∧(b.elem.length:Int)≤4611686018427387904 then
  Ij rec n b n ([]) 0
 else none
def Hz:Nat→Ty→Option Ty
 | 0,_=>none
 | n+1,b=>O8 (Hz n) n b
def RN (w0:World) (F:Ty→Option Ty):Prop:=∀ (B:List (List AV)) (Rw:List RowA) (L:List LoopA) (b:Ty) (r:Ty),F b=some r→ACalls Tryz.prog w0 57 [.agg (b.cs)] ⟨B,Rw,L⟩ fun x st=>x = .agg (r.cs)∧st=⟨B,Rw,L⟩
theorem Xv (w0:World) (rec:Ty→Option Ty) (ih:RN w0 rec) (n:Nat):RN w0 (O8 rec n):=by
 intro B Rw L a0 r h
 rw [O8] at h
 refine hd [.cell 2 26] Tryz.func57 Tryz.ntmps57 fun M0 W0 hN E H z hu j hs=>?_
 simp only [Au]
 refine rg [1,2] hs ?_
 obtain ⟨a3,h⟩:=Aj h
 have j:=j.make 7 0
 refine rg [1,2,3] hs ?_
 refine Aw (fun e st=>∃ (w:List Ty) (o:Ev.Own),Ck e st B Rw L [(1,true,.box B.length 0),(2,true,.box (B.length+1) 0),(3,true,.list (w.map HF) o)] [a0.cs,[.val (.int .i64 0),.val (.int .i64 0),.val (.int .i64 0),.val (.int .i64 0),.list ([]) .full,.list ([]) .full,.list ([]) .full]] [(7,w.length,o)] (Nx rec n a0 w=some r)) ?_ ?_
 ·intro K7 ar
  refine rg [1,2,3,14,15,16] hs ?_
  apply Ak
  refine AC (fun m e st=>∃ (d:List Ty) (t:Int) (p:Ev.Own),Ck e st B Rw L [(1,true,.box B.length 0),(2,true,.box (B.length+1) 0),(3,true,.list (d.map HF) p),(14,true,.list (a0.elem.map HF) .none),(15,true,.val (.int .i64 (a0.elem.length:Int))),(16,true,.val (.int .i64 t))] [a0.cs,[.val (.int .i64 0),.val (.int .i64 0),.val (.int .i64 0),.val (.int .i64 0),.list ([]) .full,.list ([]) .full,.list ([]) .full]] [(7,d.length,p)] (Ij rec n a0 m d t=some r)) n ⟨([]),0,((.row Rw.length)),([]),((Rw++[.grow 0 7])),ef hs,ef hs,Owns.of_eq (j) EA,h⟩ ?_
  rintro ml9 e st ⟨d,t,p,Xl9,Rl9,rfl,rfl,j,h⟩ Ul9 Vl9
  cases ml9 with
  | zero=>cases h
  | succ ml9 =>
  rw [Ij] at h
  have G:=j.unders
  simp only [List.mem_cons,List.not_mem_nil,or_false,forall_eq_or_imp,forall_eq] at G
  refine td hN E H z j ?_
  refine rg [1,2,3,14,15,16,17] hs ?_
  apply Ah;intro K11 J
  refine AN h hs (fun hs h=>?_) (fun hs h=>?_)
  rotate_left
  ·refine sx [1,2,3] hs ar ?_
   exact ⟨d,p,([]),Rl9,ef hs,ef hs,Owns.of_eq (j) EA,h⟩
  refine sk [1,2,3,14,15,16] hs J ?_
  clear J
  apply Ah;intro K13 Q
  apply Ak
  obtain ⟨ag,ad,h⟩:=bind_some h
  obtain ⟨ak,av,Z⟩:=AA ad
  have ab:=AB (f:=HF) Z
  have hs:=Aa ab hs
  refine rg [1,2,3,5,14,15,16] hs ?_
  obtain ⟨ap,aj,h⟩:=bind_some h
  obtain ⟨U,h⟩:=Aj h
  obtain ⟨ax,F,j,k⟩:=j.append (P:=Tryz.prog) Zdc (by rw [Y4];rfl) (by decide) 1 U.1 U.2
  replace k:=fun (ys:List AV) B L o2=>k (d.map HF) ys B L o2 EA
  replace k:=fun (y:AV) B L o2=>k [y] B L o2 EA ev
  try simp only [List.mem_singleton,List.mem_cons,List.not_mem_nil,or_false,forall_eq_or_imp,forall_eq,List.map_append,List.map_cons,List.map_nil,FP,FN,Fz,FB,FK,Fa,Ea,Eb,FA,Db,Da,Ed,Ek,Ef] at k
  have hs:=Aa k hs
  refine rk 2 [1,2,3,14,15,16] hs ?_
  refine Ai _ (ih _ _ _ ag _ aj) (hv hs) ?_
  refine ne hs Q ?_
  clear Q
  obtain ⟨a2,h⟩:=Aj h
  refine rl [1,2,3,14,15,16] hs (fun e s=>Vl9 ml9 e s (Nat.lt_succ_self _)) ?_
  exact ⟨(d++([ap])),(t+1),ax,([ag.cs]),F,ef hs,ef hs,Owns.of_eq (j) EA,h⟩
 ·clear h;rintro e st ⟨w,o,Xk6,Rk6,rfl,rfl,j,h⟩
  rw [Nx] at h
  have G:=j.unders
  simp only [List.mem_cons,List.not_mem_nil,or_false,forall_eq_or_imp,forall_eq] at G
  refine td hN E H z j ?_
  obtain ⟨a1,h⟩:=Aj h
  have j:=j.make 11 0
  refine rg [1,2,3,6] hs ?_
  refine Aw (fun e st=>∃ (q:List Ty) (u:List (Int × ByteArray × Int × Ty × List Vl)) (x:Ev.Own) (v:Ev.Own),Ck e st B Rw L [(1,true,.box B.length 0),(2,true,.box (B.length+1) 0),(3,true,.list (q.map HF) x),(6,true,.list (u.map Cm) v)] [a0.cs,[.val (.int .i64 0),.val (.int .i64 0),.val (.int .i64 0),.val (.int .i64 0),.list ([]) .full,.list ([]) .full,.list ([]) .full]] [(7,q.length,x),(11,u.length,v)] (LA rec n a0 q u=some r)) ?_ ?_
  ·intro K27 ae
   refine rg [1,2,3,6,31,32,33] hs ?_
   apply Ak
   refine AC (fun m e st=>∃ (c:List Ty) (a:List (Int × ByteArray × Int × Ty × List Vl)) (g:Int) (b:Ev.Own) (i:Ev.Own),Ck e st B Rw L [(1,true,.box B.length 0),(2,true,.box (B.length+1) 0),(3,true,.list (c.map HF) b),(6,true,.list (a.map Cm) i),(31,true,.list (a0.fields.map Cm) .none),(32,true,.val (.int .i64 (a0.fields.length:Int))),(33,true,.val (.int .i64 g))] [a0.cs,[.val (.int .i64 0),.val (.int .i64 0),.val (.int .i64 0),.val (.int .i64 0),.list ([]) .full,.list ([]) .full,.list ([]) .full]] [(7,c.length,b),(11,a.length,i)] (Hf rec n a0 m c a g=some r)) n ⟨w,([]),0,o,((.row Rk6.length)),([]),((Rk6++[.grow 0 11])),ef hs,ef hs,Owns.of_eq ((j).swap (List.Perm.swap _ _ _)) EA,h⟩ ?_
   rintro ml29 e st ⟨c,a,g,b,i,Xl29,Rl29,rfl,rfl,j,h⟩ Ul29 Vl29
   cases ml29 with
   | zero=>cases h
   | succ ml29 =>
   rw [Hf] at h
   have G:=j.unders
   simp only [List.mem_cons,List.not_mem_nil,or_false,forall_eq_or_imp,forall_eq] at G
   obtain ⟨ao,am⟩:=G
   refine td hN E H z j ?_
   refine rg [1,2,3,6,31,32,33,34] hs ?_
   apply Ah;intro K31 K
   refine AN h hs (fun hs h=>?_) (fun hs h=>?_)
   rotate_left
   ·refine sx [1,2,3,6] hs ae ?_
    exact ⟨c,a,b,i,([]),Rl29,ef hs,ef hs,Owns.of_eq (((j).swap (List.Perm.swap _ _ _)).swap (List.Perm.swap _ _ _)) EA,h⟩
   refine sk [1,2,3,6,31,32,33] hs K ?_
   clear K
   apply Ah;intro K33 N
   apply Ak
   obtain ⟨C,ai,h⟩:=bind_some h
   obtain ⟨aw,aq,Y⟩:=AA ai
   have aa:=AB (f:=Cm) Y
   have hs:=Aa aa hs
   refine rg [1,2,3,6,8,31,32,33] hs ?_
   obtain ⟨ay,ah,h⟩:=bind_some h
   obtain ⟨O,h⟩:=Aj h
   have j:=j.swap (List.Perm.swap _ _ _)
   obtain ⟨au,D,j,l⟩:=j.append (P:=Tryz.prog) Z9 (by rw [Uz];rfl) (by decide) 1 O.1 O.2
   replace l:=fun (ys:List AV) B L o2=>l (a.map Cm) ys B L o2 EA
   replace l:=fun (y:AV) B L o2=>l [y] B L o2 EA ev
   try simp only [List.mem_singleton,List.mem_cons,List.not_mem_nil,or_false,forall_eq_or_imp,forall_eq,List.map_append,List.map_cons,List.map_nil,FP,FN,Fz,FB,FK,Fa,Ea,Eb,FA,Db,Da,Ed,Ek,Ef] at l
   have hs:=Aa l hs
   refine rk 2 [1,2,3,6,31,32,33] hs ?_
   refine Ai _ (N2 w0 rec ih n _ _ _ C _ ah) (hv hs) ?_
   refine ne hs N ?_
   clear N
   obtain ⟨az,h⟩:=Aj h
   refine rl [1,2,3,6,31,32,33] hs (fun e s=>Vl29 ml29 e s (Nat.lt_succ_self _)) ?_
   exact ⟨c,(a++([ay])),(g+1),b,au,([.val (.int .i64 C.1)::(.val (.string C.2.1)::(.val (.int .i64 C.2.2.1)::((C.2.2.2.1.cs)++([.list (C.2.2.2.2.map Bo) .none]))))]),D,ef hs,ef hs,Owns.of_eq ((j).swap (List.Perm.swap _ _ _)) EA,h⟩
  ·clear h;rintro e st ⟨q,u,x,v,Xk26,Rk26,rfl,rfl,j,h⟩
   rw [LA] at h
   have G:=j.unders
   simp only [List.mem_cons,List.not_mem_nil,or_false,forall_eq_or_imp,forall_eq] at G
   obtain ⟨ao,am⟩:=G
   refine td hN E H z j ?_
   obtain ⟨af,h⟩:=Aj h
   have hs:=Aa (Ty.cs_eqs a0) hs
   refine rc 2 [1,2] hs ?_;intro K42 V
   refine Ai _ (Qq w0 _ _ _ a0.words af) (hv hs) ?_
   refine ne hs V ?_
   clear V
   refine rg [2] hs ?_
   exact rt h hs z j
theorem Vz (w0:World):∀ n:Nat,RN w0 (Hz n)
 | 0=>fun _ _ _ _ _ h=>(nomatch h)
 | n+1=>Xv w0 (Hz n) (Vz w0 n) n
def ET (n:Nat)  : Option Int :=
 some ((-1))
def AU (n:Nat) (g:List (Int × ByteArray × Int × Ty × List Vl)) (s:(Int × ByteArray × Int × Ty × List Vl)→Option Bool):Nat→Int→Option Int
 | 0,_=>none
 | m+1,b =>
  if decide (b<(g.length:Int)) then
   (B7 g b).bind fun h =>
   (s h).bind fun q =>
   if q then
    some (b)
   else
    if BQ (b+1) then
     (AU n g s m) (b+1)
    else none
  else
   ET n 
def AX (n:Nat) (b:List (Int × ByteArray × Int × Ty × List Vl)) (g:(Int × ByteArray × Int × Ty × List Vl)→Option Bool):Option Int :=
 AU n b g n 0
theorem DR (w0:World) (n:Nat) (B:List (List AV)) (Rw:List RowA) (L:List LoopA) (a0:List (Int × ByteArray × Int × Ty × List Vl)) (fa1:FuncId) (ca1:List AV) (a1:(Int × ByteArray × Int × Ty × List Vl)→Option Bool) (ha1:∀ (x0:Int × ByteArray × Int × Ty × List Vl) r,a1 x0=some r→∀ B' rows,B <+: B'→Rw <+: rows→ACalls Tryz.prog w0 fa1 ([.agg (.val (.int .i64 x0.1)::(.val (.string x0.2.1)::(.val (.int .i64 x0.2.2.1)::((x0.2.2.2.1.cs)++([.list (x0.2.2.2.2.map Bo) .none])))))]++ca1) ⟨B',rows,L⟩ fun v s=>v = .val (.bool r)∧s=⟨B',rows,L⟩) (r:Int) (h:AX n a0 a1=some r) :
  ACalls Tryz.prog w0 127 [.list (a0.map Cm) .none,.clo fa1 ca1] ⟨B,Rw,L⟩ fun x st=>x = .val (.int .i64 r)∧st=⟨B,Rw,L⟩:=by
 rw [AX] at h
 refine hd [.tmp 4] Tryz.func127 Tryz.ntmps127 fun M0 W0 C o t b F d hs=>?_
 simp only [Au]
 have c:=CH (F (.clo fa1 ca1) (by simp))
 refine rg [0,1] hs ?_
 refine Aw (fun e st=>Ck e st B Rw L [] [] [] (ET n  = some r)) ?_ ?_
 ·intro K4 y
  refine rg [0,1,7,8] hs ?_
  apply Ak
  refine AC (fun m e st=>∃ (a:Int),Ck e st B Rw L [(0,true,.list (a0.map Cm) .none),(1,true,.clo fa1 ca1),(7,true,.val (.int .i64 (a0.length:Int))),(8,true,.val (.int .i64 a))] [] [] (AU n a0 a1 m a=some r)) n ⟨0,([]),Rw,ef hs,ef hs,d,h⟩ ?_
  rintro ml6 e st ⟨a,Xl6,Rl6,rfl,rfl,d,h⟩ Ul6 Vl6
  cases ml6 with
  | zero=>cases h
  | succ ml6 =>
  rw [AU] at h
  refine AM C o t rfl b d (Ju c d) (Ju c d) ?_
  refine rg [0,1,7,8,9] hs ?_
  apply Ah;intro K8 p
  refine AN h hs (fun hs h=>?_) (fun hs h=>?_)
  rotate_left
  ·refine sx [] hs y ?_
   exact ⟨([]),Rl6,ef hs,ef hs,d,h⟩
  refine sk [0,1,7,8] hs p ?_
  clear p
  apply Ah;intro K10 i
  apply Ak
  refine rg [0,1,5,7,8] hs ?_
  obtain ⟨w,l,h⟩:=bind_some h
  obtain ⟨u,z,j⟩:=AA l
  have k:=AB (f:=Cm) j
  obtain ⟨E,q,h⟩:=bind_some h
  have hs:=Aa k hs
  refine rc 2 [0,1,5,7,8,16] hs ?_;intro K12 g
  refine F7 _ (ha1 w _ q _ _ px d.pre) (hv hs) ?_
  refine ne hs g ?_
  clear g
  refine AN h hs (fun hs h=>?_) (fun hs h=>?_)
  ·refine rg [4] hs ?_
   exact rt h hs b d
  refine sk [0,1,7,8] hs i ?_
  clear i
  obtain ⟨D,h⟩:=Aj h
  refine rl [0,1,7,8] hs (fun e s=>Vl6 ml6 e s (Nat.lt_succ_self _)) ?_
  exact ⟨(a+1),([]),Rl6,ef hs,ef hs,d,h⟩
 ·clear h;rintro e st ⟨Xk3,Rk3,rfl,rfl,d,h⟩
  rw [ET] at h
  refine AM C o t rfl b d (Ju c d) (Ju c d) ?_
  refine rg [4] hs ?_
  exact rt h hs b d
def JO (n:Nat) (b:Ty) (s:(Int × ByteArray × Int × Ty × List Vl)→Option Bool):Option ((Int × ByteArray × Int × Ty × List Vl) × Bool) :=
 if (!(decide (b.kind=9)))&&(!(decide (b.kind=10))) then
  some (((0,(⟨#[]⟩:ByteArray),0,Ty.mk 0 0 0 0 ([]) ([]) ([]),[]),false))
 else
  (AX n b.fields s).bind fun q =>
  if decide (q<0) then
   some (((0,(⟨#[]⟩:ByteArray),0,Ty.mk 0 0 0 0 ([]) ([]) ([]),[]),false))
  else
   (B7 b.fields q).bind fun g =>
   (D6 (Hz n) n g).bind fun h =>
   some ((h,true))
theorem ZbK (w0:World) (n:Nat) (B:List (List AV)) (Rw:List RowA) (L:List LoopA) (a0:Ty) (fa1:FuncId) (ca1:List AV) (a1:(Int × ByteArray × Int × Ty × List Vl)→Option Bool) (ha1:∀ (x0:Int × ByteArray × Int × Ty × List Vl) r,a1 x0=some r→∀ B' rows,B <+: B'→Rw <+: rows→ACalls Tryz.prog w0 fa1 ([.agg (.val (.int .i64 x0.1)::(.val (.string x0.2.1)::(.val (.int .i64 x0.2.2.1)::((x0.2.2.2.1.cs)++([.list (x0.2.2.2.2.map Bo) .none])))))]++ca1) ⟨B',rows,L⟩ fun v s=>v = .val (.bool r)∧s=⟨B',rows,L⟩) (r:(Int × ByteArray × Int × Ty × List Vl) × Bool) (h:JO n a0 a1=some r) :
  ACalls Tryz.prog w0 70 [.agg (a0.cs),.clo fa1 ca1] ⟨B,Rw,L⟩ fun x st=>x = .tup [.agg (.val (.int .i64 r.1.1)::(.val (.string r.1.2.1)::(.val (.int .i64 r.1.2.2.1)::((r.1.2.2.2.1.cs)++([.list (r.1.2.2.2.2.map Bo) .none]))))),.val (.bool r.2)]∧st=⟨B,Rw,L⟩:=by
 rw [JO] at h
 refine hd [.cell 4 54,.tmp 5] Tryz.func70 Tryz.ntmps70 fun M0 W0 H z G a E m hs=>?_
 simp only [Au]
 have q:=CH (E (.clo fa1 ca1) (by simp))
 refine rg [1,2,4] hs ?_
 apply Ah;intro K2 l
 refine rg [1,2,4,14] hs ?_
 refine AN h hs (fun hs h=>?_) (fun hs h=>?_)
 ·refine rg [4,5] hs ?_
  exact rt h hs a m
 refine sk [1,2,4] hs l ?_
 clear l
 obtain ⟨J,u,h⟩:=bind_some h
 refine rc 2 [2,4,6] hs ?_;intro K6 i
 refine Ai _ (DR w0 n _ _ _ a0.fields fa1 ca1 a1 (fun x0 r F w b D C=>ha1 x0 r F w b (List.IsPrefix.trans px D) (m.pre.trans C)) _ u) (hv hs) ?_
 refine ne hs i ?_
 clear i
 apply Ah;intro K8 j
 refine rg [2,4,6,21] hs ?_
 refine AN h hs (fun hs h=>?_) (fun hs h=>?_)
 ·refine rg [4,5] hs ?_
  exact rt h hs a m
 refine sk [2,4,6] hs j ?_
 clear j
 obtain ⟨p,g,h⟩:=bind_some h
 obtain ⟨o,t,d⟩:=AA g
 have e:=AB (f:=Cm) d
 obtain ⟨y,k,h⟩:=bind_some h
 have hs:=Aa e hs
 refine rc 2 [4,5] hs ?_;intro K12 c
 refine Ai _ (N2 w0 (Hz n) (Vz w0 n) n _ _ _ p _ k) (hv hs) ?_
 refine ne hs c ?_
 clear c
 exact rt h hs a m
def I2 (n:Nat) (g:Ty) (h:ByteArray):Option ((Int × ByteArray × Int × Ty × List Vl) × Bool) :=
 (JO n g (fun (q:Int × ByteArray × Int × Ty × List Vl)=>some (JS q h))).bind fun b =>
 some ((b.1,b.2))
theorem Qg (w0:World) (n:Nat) (B:List (List AV)) (Rw:List RowA) (L:List LoopA) (a0:Ty) (a1:ByteArray) (r:(Int × ByteArray × Int × Ty × List Vl) × Bool) (h:I2 n a0 a1=some r) :
  ACalls Tryz.prog w0 25 [.agg (a0.cs),.val (.string a1)] ⟨B,Rw,L⟩ fun x st=>x = .tup [.agg (.val (.int .i64 r.1.1)::(.val (.string r.1.2.1)::(.val (.int .i64 r.1.2.2.1)::((r.1.2.2.2.1.cs)++([.list (r.1.2.2.2.2.map Bo) .none]))))),.val (.bool r.2)]∧st=⟨B,Rw,L⟩:=by
 rw [I2] at h
 refine hd [.cell 4 54,.tmp 5] Tryz.func25 Tryz.ntmps25 fun M0 W0 k g e a j f hs=>?_
 simp only [Au]
 refine rg [2,3,4] hs ?_
 obtain ⟨l,hy3,h⟩:=bind_some h
 refine rc 2 [4,5] hs ?_;intro K2 b
 refine Ai _ (ZbK w0 n _ _ _ a0 71 [.box (B.length+1) 0] (fun (x0:Int × ByteArray × Int × Ty × List Vl)=>some (JS x0 a1)) (fun x0 r hx i c hB' d=>by cases hx;exact V1 w0 _ _ _ x0 _ a1 (DY hB' ev)) _ hy3) (hv hs) ?_
 refine ne hs b ?_
 clear b
 exact rt h hs a f
end Go.Proofs.YtgpmlelfkjfbiaaGreatDoor
namespace Go.Ev
open Go Go.RowKit
def Mem.start:Mem:=⟨0,0,fun _=>0,fun _=>0,fun _=>0,fun _=>0,fun _=>0,fun _=>0,0,fun _=>0⟩
theorem ZbT (W:World):RelSt W Mem.start ⟨[],[],[]⟩ W where
 below := .refl _ _
 N:=rfl
 NR:=rfl
 top:=fun _ _=>rfl
 inj:=fun _ _ h=>absurd h (Nat.not_lt_zero _)
 box:=fun _ _ h=>by simp at h
 row:=fun _ _ h=>by simp at h
 rowinj:=fun _ _ h=>absurd h (Nat.not_lt_zero _)
 loop:=⟨rfl,fun _ _ h=>absurd h (Nat.not_lt_zero _),fun _ _ h=>by simp at h⟩
theorem Tn {P:Program} {f:FuncId} {W:World} {vals:Array Value} {args:List AV} {r:Value} (h:ACalls P W f args ⟨[],[],[]⟩ fun v st=>v = .val r∧st=⟨[],[],[]⟩) (hr:RowR W Mem.start W vals args) :
  Calls P f vals W fun e w'=>e = .returned r∧Below W.heap.size W w' :=
 (h.2 Mem.start W vals (ZbT W) hr).mono fun en w' ⟨v,M',a,st,h1,⟨h2,_⟩,_,h4,h5⟩=>by
  subst h2
  have:=h5.val_inv.1
  subst this
  exact ⟨h1,h4.below⟩
theorem ZaH {W:World} {v u t:Value} {x y z:AV} (h:R W Mem.start W v x) (k:R W Mem.start W u y) (l:R W Mem.start W t z):RowR W Mem.start W #[v,u,t] [x,y,z]:=⟨rfl,fun i b a=>by
 have:i=0∨i=1∨i=2:=by simp at a;omega
 rcases this with rfl | rfl | rfl
 ·exact h
 ·exact k
 ·exact l⟩
end Go.Ev
namespace Go.Proofs.YtgpmlelfkjfbiaaGreatDoor
open Go Go.Shelf Go.ChangeShapes Go.WideShapes Go.ChangeAt Go.RowKit Go.Lib Go.Ev
open Go.ChangeMaps (open_string shut_string)
set_option maxRecDepth 100000
theorem Zgr:ownKnob Tryz.prog.godebug=none:=by kernel_rfl
def Zj0:DataW Unit→List Value
 | .lit (.int k z)=>[.int k z]
 | .agg l=>l.flatMap fun | .lit (.int k z)=>[.int k z] | _=>[]
 | _=>[]
def ZjS:DataW Unit→List Value
 | .agg l=>l.flatMap Zj0
 | _=>[]
noncomputable def QZ (os:Os):World :=
 let w0:=World.holding Tryz.prog os ⟨#[],#[],[]⟩
 let put (h:Array Obj) (g:Nat) (d:DataW Unit):Array Obj:=h.modify g fun
  | .cells _ t frozen => .cells (ZjS d).toArray t frozen
  | o=>o
 { w0 with heap:=put (put (put (put (put w0.heap 0 Rows.laid_unicode_utf8_first) 1 Rows.laid_unicode_utf8_acceptRanges) 3 Rows.laid_internal_strconv_uint64pow10) 4 Rows.laid_math_bits_deBruijn32tab) 5 Rows.laid_math_bits_deBruijn64tab }
theorem Xo (os:Os) (args:Array Value):laidMet Tryz.prog Rows.schemaLeavesRow.laid ((QZ os).forCall (fun _ _=>0) ⟨#[],args,[]⟩).memory :=
 (LaidIn.of_run (l:=Rows.schemaLeavesRow.laid) [4,5,3,1,0] 8 (by kernel_rfl) (by kernel_rfl) (by kernel_rfl) (by kernel_rfl)).met
theorem Vm {W:World} (h:Lib.VarReads Tryz.prog W Pi Rows.laid_internal_strconv_uint64pow10):Pow10 W:=by
 obtain ⟨g,t,cs,a,p,d,f,c,b⟩:=h
 obtain rfl:=Option.some.inj ((show Tryz.prog.globalNamed Pi=some 3 by kernel_rfl).symm.trans d)
 obtain rfl:=Option.some.inj ((show (Tryz.prog.globals[3]?).map (·.type)=some 247 by kernel_rfl).symm.trans f)
 have e:(Rows.laid_internal_strconv_uint64pow10:DataW Unit)=Lib.tabData .u64 Lib.pow10Tab:=by kernel_rfl
 rw [e] at b
 unfold Pow10 Lib.TabIs
 rw [c,←Lib.cells_of_tab (n:=20) (k := .u64) (zs:=Lib.pow10Tab) Tryz.underlying247 Tryz.underlying216 (by kernel_rfl) (by kernel_rfl) b]
theorem ZdT {W:World} (hL:laidMet Tryz.prog Rows.schemaLeavesRow.laid W):Lib.Utf8Tabs 0 1 W∧Pow10 W :=
 ⟨utf8Tabs_of_readsT (U8Types.of196 Tryz.laysValid) ⟨by kernel_rfl,by kernel_rfl,by kernel_rfl,by kernel_rfl,by kernel_rfl,by kernel_rfl,by kernel_rfl⟩ (Lib.laidMet.reads hL (.tail _ (.tail _ (.tail _ (.tail _ (.head _)))))) (Lib.laidMet.reads hL (.tail _ (.tail _ (.tail _ (.head _))))),
  Vm (Lib.laidMet.reads hL (.tail _ (.tail _ (.head _))))⟩
set_option maxRecDepth 100000
mutual
def Vl.wf:Vl→Prop
 | .mk k i s t l f=>BQ k∧BQ i∧BQ s∧t.size≤maxLen∧l.length≤maxLen∧f.length≤maxLen∧Zeh l∧Zc1 f
def Zeh:List Vl→Prop
 | []=>True
 | v::r=>v.wf∧Zeh r
def Zc1:List (ByteArray × Vl)→Prop
 | []=>True
 | (n,v)::r=>n.size≤maxLen∧v.wf∧Zc1 r
end
theorem Y5:∀ l,Zeh l↔∀ v∈l,v.wf
 | []=>by simp [Zeh]
 | v::r=>by simp [Zeh,Y5 r]
theorem Y2:∀ l,Zc1 l↔∀ p∈l,p.1.size≤maxLen∧p.2.wf
 | []=>by simp [Zc1]
 | (n,v)::r=>by simp [Zc1,Y2 r,and_assoc]
mutual
def Ty.wf:Ty→Prop
 | .mk k lo hi s w e f=>BQ k∧BQ lo∧BQ hi∧BQ s∧(∀ x∈w,x.size≤maxLen)∧w.length≤maxLen∧e.length≤maxLen∧f.length≤maxLen∧Zdw e∧Y7 f
def Zdw:List Ty→Prop
 | []=>True
 | v::r=>v.wf∧Zdw r
def Y7:List (Int × ByteArray × Int × Ty × List Vl)→Prop
 | []=>True
 | (n,s,d,t,l)::r=>(BQ n∧s.size≤maxLen∧BQ d∧t.wf∧l.length≤maxLen∧∀ v∈l,v.wf)∧Y7 r
end
theorem YP:∀ l,Zdw l↔∀ v∈l,v.wf
 | []=>by simp [Zdw]
 | v::r=>by simp [Zdw,YP r]
theorem V7:∀ l,Y7 l↔∀ p∈l,BQ p.1∧p.2.1.size≤maxLen∧BQ p.2.2.1∧p.2.2.2.1.wf∧p.2.2.2.2.length≤maxLen∧∀ v∈p.2.2.2.2,v.wf
 | []=>by simp [Y7]
 | (n,s,d,t,l)::r=>by simp [Y7,V7 r]
mutual
def Vl.bulk:Vl→Nat
 | .mk _ _ _ t l f=>1+t.size+H9 l+Oy f
def H9:List Vl→Nat
 | []=>0
 | v::r=>v.bulk+H9 r
def Oy:List (ByteArray × Vl)→Nat
 | []=>0
 | (n,v)::r=>n.size+v.bulk+Oy r
end
def NF:List ByteArray→Nat
 | []=>0
 | w::r=>w.size+1+NF r
mutual
def Ty.bulk:Ty→Nat
 | .mk _ _ _ _ w e f=>1+NF w+OK e+HO f
def OK:List Ty→Nat
 | []=>0
 | v::r=>v.bulk+OK r
def HO:List (Int × ByteArray × Int × Ty × List Vl)→Nat
 | []=>0
 | (_,n,_,t,l)::r=>n.size+t.bulk+H9 l+HO r
end
theorem PX:∀ l,H9 l=(l.map Vl.bulk).sum
 | []=>rfl
 | v::r=>by rw [H9,PX r];rfl
theorem Ux:∀ l,Oy l=(l.map fun p=>p.1.size+p.2.bulk).sum
 | []=>rfl
 | (n,v)::r=>by rw [Oy,Ux r];rfl
theorem U3:∀ l,NF l=(l.map fun w=>w.size+1).sum
 | []=>rfl
 | v::r=>by rw [NF,U3 r];rfl
theorem Ve:∀ l,OK l=(l.map Ty.bulk).sum
 | []=>rfl
 | v::r=>by rw [OK,Ve r];rfl
theorem SN:∀ l,HO l=(l.map fun p=>p.2.1.size+p.2.2.2.1.bulk+H9 p.2.2.2.2).sum
 | []=>rfl
 | (a,n,b,t,l)::r=>by rw [HO,SN r];rfl
def Part.wf (p:Part):Prop:=BQ p.kind∧BQ p.index∧p.name.size≤maxLen
def Sch.wf (s:Sch):Prop:=s.name.size≤maxLen∧BQ s.version∧s.type.wf
section
variable {H:Type} {enc:TypeId × Value→H} {W:World}
def RC (W:World) (cs:List Value) (xs:List AV):Prop:=cs.length=xs.length∧∀ i (h1:i<cs.length) (h2:i<xs.length),R W Mem.start W cs[i] xs[i]
theorem RC.nil:RC W [] []:=⟨rfl,fun i a=>absurd a (by simp)⟩
theorem RC.cons {v:Value} {x:AV} {cs:List Value} {xs:List AV} (h:R W Mem.start W v x) (k:RC W cs xs):RC W (v::cs) (x::xs):=⟨by simp [k.1],fun i b a=>by
 cases i with
 | zero=>exact h
 | succ i=>simpa using k.2 i (by simpa using b) (by simpa using a)⟩
theorem RC.app {cs ds:List Value} {xs ys:List AV} (h:RC W cs xs) (k:RC W ds ys):RC W (cs++ds) (xs++ys):=by
 refine ⟨by simp [h.1,k.1],fun i b a=>?_⟩
 by_cases c:i<cs.length
 ·rw [List.getElem_append_left c,List.getElem_append_left (h.1▸c)];exact h.2 i c _
 ·rw [List.getElem_append_right (Nat.le_of_not_lt c),List.getElem_append_right (h.1▸Nat.le_of_not_lt c)]
  simp only [h.1]
  exact k.2 _ (by have:=h.1;rw [List.length_append] at b;omega) (by have:=h.1;rw [List.length_append] at a;omega)
theorem RC.agg {cs:List Value} {xs:List AV} (h:RC W cs xs) (h1:∀ x∈xs,x.one=true):R W Mem.start W (.agg cs.toArray) (.agg xs) := .agg (by simpa using h.1) h1 (fun i a b=>by simpa using h.2 i (by simpa using a) b)
noncomputable abbrev Td (enc:TypeId × Value→H) (W:World) (n:Nat) (t:TypeId) (cs:List Value):Option (DataW H × List MemPlace):=DataW.trod enc Tryz.prog W 0 (fun _=>true) true n t cs
theorem RS (d:DataW H):1≤Rows.uptoBulk d:=by
 cases d with
 | lit l=>cases l<;>simp [Rows.uptoBulk]
 | _=>simp [Rows.uptoBulk]
theorem V6 {α:Type} (m:α→Nat):∀ (l:List α) (es:List (DataW H × List MemPlace)),l.length=es.length→(∀ i (h1:i<l.length) (h2:i<es.length),m l[i]≤Rows.uptoBulk es[i].1)→(l.map m).sum≤Rows.uptoBulkAll (es.map (·.1))
 | [],_,_,_=>by simp
 | y::r,[],h,_=>by simp at h
 | y::r,e::es,h,k=>by
  have a:=k 0 (by simp) (by simp)
  have:=V6 m r es (by simpa using h) (fun i h1 h2=>by have:=k (i+1) (by simpa using h1) (by simpa using h2);simpa using this)
  simp only [List.map_cons,List.sum_cons,Rows.uptoBulkAll,List.getElem_cons_zero] at a ⊢
  omega
theorem Nr {n:Nat} {cs:List Value} {x:DataW H × List MemPlace} (h:Td enc W n 3 cs=some x):∃ z,BQ z∧cs=[.int .i64 z]:=by
 obtain ⟨z,rfl,_,a⟩:=DataW.trod_int Tryz.underlying3 h
 refine ⟨z,?_,rfl⟩
 simp [Lit.wf,IntKind.min,IntKind.max,IntKind.signed,IntKind.bits] at a
 unfold BQ
 omega
theorem XW {n:Nat} {cs:List Value} {x:DataW H × List MemPlace} (h:Td enc W n 9 cs=some x):∃ s:ByteArray,s.size≤maxLen∧cs=[.string s]∧s.size+1≤Rows.uptoBulk x.1:=by
 obtain ⟨s,rfl,rfl,a⟩:=DataW.trod_string Tryz.underlying9 h
 exact ⟨s,a,rfl,by simp [Rows.uptoBulk]⟩
theorem MW {α:Type} (f:α→AV) (p:α→Prop) (m:α→Nat) {t e:TypeId} {sz:Nat} (ht:Tryz.prog.underlying t=some (.slice e)) (hc:Tryz.prog.cellsOf e=sz) (hsz:0<sz) {n:Nat}
  (H0:∀ cs x,Td enc W n e cs=some x→∃ y u,p y∧u.cells.toList=cs∧R W Mem.start W u (f y)∧m y≤Rows.uptoBulk x.1) {cs:List Value} {x:DataW H × List MemPlace} (h:Td enc W (n+1) t cs=some x) :
  ∃ (l:List α) (v:Value),(∀ y∈l,p y)∧l.length≤maxLen∧cs=[v]∧R W Mem.start W v (.list (l.map f) .none)∧(l.map m).sum+1≤Rows.uptoBulk x.1:=by
 rcases DataW.trod_slice ht h with ⟨rfl,_⟩ | ⟨a,len,cap,elems,rest,n',hn,rfl,rfl,hb,hl,hm,hlen,hel,hsp,_⟩
 ·exact ⟨[],_,by simp,by simp,rfl,.nil (fun id=>by simp),by simpa using RS x.1⟩
 ·cases hn
  by_cases hcap:cap=0
  ·subst hcap
   obtain rfl:len=0:=by omega
   exact ⟨[],_,by simp,by simp,rfl,.emp (fun id=>by simp),by simpa using RS _⟩
  have hspot:a.spot=none:=by
   have get:∀ (c:DataW H × List MemPlace) (r:List Value→Option (DataW H × List MemPlace)),(W.cells? 0 (a.add (0*Tryz.prog.cellsOf e)) (Tryz.prog.cellsOf e)).bind r=some c→a.spot=none:=fun c r Z=>by
    obtain ⟨O,D,_⟩:=Option.bind_eq_some_iff.1 Z
    obtain ⟨_,E,F⟩:=World.cells?_some D
    have h4:=F 0 (by omega)
    rw [List.getElem?_eq_getElem (by omega)] at h4
    have e0:(a.add (0*Tryz.prog.cellsOf e)).add 0=a:=by simp [Addr.add]
    rw [e0] at h4
    unfold World.cell? at h4
    split at h4
    ·split at h4
     ·cases h4
     ·rename_i q;simpa using q
    ·cases h4
   by_cases h0:0<len
   ·have:=hel 0 h0
    rw [List.getElem?_eq_getElem (by omega)] at this
    exact get _ _ this
   ·obtain ⟨D,E⟩:=hsp rfl
    have:=E 0 (by omega)
    rw [List.getElem?_eq_getElem (by omega)] at this
    obtain rfl:len=0:=by omega
    exact get _ _ this
  obtain ⟨b,off,sp⟩:=a
  simp only at hspot
  subst hspot
  have C:∀ i,i<len→∃ y u,p y∧R W Mem.start W u (f y)∧(∀ h:i<elems.length,m y≤Rows.uptoBulk elems[i].1)∧u.cells.size=sz∧∀ j,j<sz→W.cell? ⟨b,off+i*sz+j,none⟩=u.cells[j]? := fun i k=>by
   have D:=hel i k
   rw [List.getElem?_eq_getElem (by omega)] at D
   obtain ⟨O,E,F⟩:=Option.bind_eq_some_iff.1 D
   obtain ⟨y,u,h4,Y,h6,K⟩:=H0 _ _ F
   obtain ⟨_,V,U⟩:=World.cells?_some E
   rw [hc] at V U
   refine ⟨y,u,h4,h6,fun _=>K,by rw [←V,←Y,Array.length_toList],fun j G=>?_⟩
   have:=U j G
   rw [←Y,Array.getElem?_toList] at this
   rw [←this]
   congr 1
   have Q:∀ (o m:Nat),(⟨b,o,none⟩:Addr).add m=⟨b,o+m,none⟩:=fun o m=>by unfold Addr.add;split<;>simp_all
   rw [Q,Q]
  classical
  let y:Nat→Option (α × Value):=fun i=>if k:i<len then some (Classical.choose (C i k),Classical.choose (Classical.choose_spec (C i k))) else none
  have N:len=0∨Nonempty (α × Value):=by
   by_cases h0:0<len
   ·obtain ⟨z,u,_⟩:=C 0 h0;exact .inr ⟨(z,u)⟩
   ·exact .inl (by omega)
  rcases N with h0 | ⟨⟨d⟩⟩
  ·subst h0
   exact ⟨[],_,by simp,by simp,rfl,.list (xs:=[]) 0 (fun _=>undef) (Nat.zero_le _) hm (fun i k=>absurd k (by simp)) (fun i k=>absurd k (by simp)) trivial,by simpa using RS _⟩
  ·let g:Nat→α × Value:=fun i=>if k:i<len then (Classical.choose (C i k),Classical.choose (Classical.choose_spec (C i k))) else d
   have J:∀ i,i<len→p (g i).1∧R W Mem.start W (g i).2 (f (g i).1)∧(∀ h:i<elems.length,m (g i).1≤Rows.uptoBulk elems[i].1)∧(g i).2.cells.size=sz∧∀ j,j<sz→W.cell? ⟨b,off+i*sz+j,none⟩=(g i).2.cells[j]? := fun i k=>by
    have:=Classical.choose_spec (Classical.choose_spec (C i k))
    simp only [g,dif_pos k]
    exact this
   have s:(((List.range len).map fun i=>(g i).1).map f).length=len:=by simp
   refine ⟨(List.range len).map fun i=>(g i).1,.slice (some ⟨b,off,none⟩) len cap,fun z hz=>?_,by simp;omega,rfl,?_,?_⟩
   ·obtain ⟨i,k,rfl⟩:=List.mem_map.1 hz
    exact (J i (by simpa using k)).1
   ·have:=Ev.R.list (w0:=W) (M:=Ev.Mem.start) (w:=W) (b:=b) (off:=off) (cap:=cap) (xs:=((List.range len).map fun i=>(g i).1).map f) (o := .none) sz (fun i=>(g i).2) (by rw [s];exact hl) hm
     (fun i k=>by
      rw [s] at k
      obtain ⟨_,_,_,F,h4⟩:=J i k
      refine ⟨F,fun j G=>⟨.inl ?_,h4 j G⟩⟩
      have:=h4 j G
      rw [Array.getElem?_eq_getElem (by rw [F];exact G)] at this
      exact World.block_lt_of_cell? W _ this) (fun i k=>by
      rw [s] at k
      simp only [List.getElem_map,List.getElem_range]
      exact (J i k).2.1) trivial
    rw [s] at this
    exact this
   ·have:=V6 m ((List.range len).map fun i=>(g i).1) elems (by simp;omega) (fun i D E=>by
     simp only [List.getElem_map,List.getElem_range]
     exact (J i (by omega)).2.2.1 E)
    simp only [Rows.uptoBulk]
    omega
theorem Vl.ones (v:Vl):∀ x∈v.cs,x.one=true:=by
 cases v;intro x hx
 simp only [Vl.cs,List.mem_cons,List.not_mem_nil,or_false] at hx
 rcases hx with rfl | rfl | rfl | rfl | rfl | rfl<;>rfl
theorem Ty.ones (v:Ty):∀ x∈v.cs,x.one=true:=by
 cases v;intro x hx
 simp only [Ty.cs,List.mem_cons,List.not_mem_nil,or_false] at hx
 rcases hx with rfl | rfl | rfl | rfl | rfl | rfl | rfl<;>rfl
theorem W8:∀ (n:Nat) (cs:List Value) (x:DataW H × List MemPlace),Td enc W n 46 cs=some x→∃ v:Vl,v.wf∧RC W cs v.cs∧v.bulk≤Rows.uptoBulk x.1
 | 0,cs,x,h=>by simp [Td,DataW.trod] at h
 | n+1,cs,x,h=>by
  obtain ⟨xs,Z,hn,rfl,w,hx,a⟩:=DataW.trod_struct Tryz.underlying46 h
  cases hn
  have D:cs.length=6:=w.trans (by kernel_rfl)
  have d:xs.length=6:=hx
  match cs,D,xs,d,a with
  | [c0,c1,c2,c3,c4,c5],_,[y0,y1,y2,y3,y4,y5],_,a =>
  have f0:_=some y0:=a 0 _ rfl;have V:_=some y1:=a 1 _ rfl;have f2:_=some y2:=a 2 _ rfl;have f3:_=some y3:=a 3 _ rfl;have J:_=some y4:=a 4 _ rfl;have f5:_=some y5:=a 5 _ rfl
  obtain ⟨k,O,ek⟩:=Nr f0
  obtain ⟨i,Q,ei⟩:=Nr V
  obtain ⟨s,hs,es⟩:=Nr f2
  obtain ⟨t,K,et,bt⟩:=XW f3
  cases n with
  | zero=>simp [DataW.trod] at J
  | succ n =>
  obtain ⟨l,vl,q,z,el,j,bl⟩:=MW Bo Vl.wf Vl.bulk Tryz.underlying43 (sz:=6) (by kernel_rfl) (by omega) (fun cs x h=>by
   obtain ⟨v,hv,b,E⟩:=W8 n cs x h
   exact ⟨v,.agg cs.toArray,hv,by simp [Value.cells],b.agg v.ones,E⟩) J
  obtain ⟨F,vf,y,r,ef,o,bf⟩:=MW BM (fun p=>p.1.size≤maxLen∧p.2.wf) (fun p=>p.1.size+p.2.bulk) Tryz.underlying44 (sz:=7) (by kernel_rfl) (by omega) (fun cs x h=>by
   cases n with
   | zero=>simp [DataW.trod] at h
   | succ n =>
   obtain ⟨G,Z,hn,rfl,w,hx,a⟩:=DataW.trod_struct Tryz.underlying75 h
   cases hn
   have C:cs.length=7:=w.trans (by kernel_rfl)
   have m:G.length=2:=hx
   match G,m,a with
   | [w0,w1],_,a =>
   have N:_=some w0:=a 0 _ rfl;have q1:_=some w1:=a 1 _ rfl
   obtain ⟨nm,c,en,bn⟩:=XW N
   obtain ⟨v,hv,b,E⟩:=W8 n _ _ q1
   have Y:Tryz.prog.cellsOf 46=6:=by kernel_rfl
   have U:Tryz.prog.cellsOf 9=1:=by kernel_rfl
   simp only [List.getElem_toArray,List.getElem_cons_zero,List.getElem_cons_succ,Y,U] at en b
   match cs,C with
   | [c0,c1,c2,c3,c4,c5,c6],_ =>
   simp only [List.drop_zero,List.take_succ_cons,List.take_zero,List.cons.injEq,and_true,List.drop_succ_cons] at en b
   subst en
   refine ⟨(nm,v),.agg #[.string nm,c1,c2,c3,c4,c5,c6],⟨c,hv⟩,rfl,?_,by simp only [List.map_cons,List.map_nil,Rows.uptoBulk,Rows.uptoBulkAll];omega⟩
   exact RC.agg (cs:=[.string nm,c1,c2,c3,c4,c5,c6]) (.cons (.flat (Ad c)) b) (fun x hx=>by
    rcases List.mem_cons.1 hx with rfl | hx
    ·rfl
    ·exact v.ones x hx)) f5
  have e:Tryz.prog.cellsOf 3=1:=by kernel_rfl
  have f:Tryz.prog.cellsOf 9=1:=by kernel_rfl
  have g:Tryz.prog.cellsOf 43=1:=by kernel_rfl
  have u:Tryz.prog.cellsOf 44=1:=by kernel_rfl
  simp only [List.getElem_toArray,List.getElem_cons_zero,List.getElem_cons_succ,e,f,g,u,List.drop_zero,List.take_succ_cons,List.take_zero,List.cons.injEq,and_true,List.drop_succ_cons] at ek ei es et el ef
  subst ek ei es et el ef
  refine ⟨.mk k i s t l F,?_,?_,by simp only [List.map_cons,List.map_nil,Rows.uptoBulk,Rows.uptoBulkAll,Vl.bulk,PX,Ux];omega⟩
  ·unfold Vl.wf
   exact ⟨O,Q,hs,K,z,r,(Y5 l).2 q,(Y2 F).2 y⟩
  ·rw [Vl.cs,UM,Y1]
   exact .cons (.flat rfl) (.cons (.flat rfl) (.cons (.flat rfl) (.cons (.flat (Ad K)) (.cons j (.cons o .nil)))))
theorem ZG:∀ (n:Nat) (cs:List Value) (x:DataW H × List MemPlace),Td enc W n 26 cs=some x→∃ v:Ty,v.wf∧RC W cs v.cs∧v.bulk≤Rows.uptoBulk x.1
 | 0,cs,x,h=>by simp [Td,DataW.trod] at h
 | n+1,cs,x,h=>by
  obtain ⟨xs,n',hn,rfl,K,hx,a⟩:=DataW.trod_struct Tryz.underlying26 h
  cases hn
  have Q:cs.length=7:=K.trans (by kernel_rfl)
  have F:xs.length=7:=hx
  match cs,Q,xs,F,a with
  | [c0,c1,c2,c3,c4,c5,c6],_,[y0,y1,y2,y3,y4,y5,y6],_,a =>
  have f0:_=some y0:=a 0 _ rfl;have f1:_=some y1:=a 1 _ rfl;have f2:_=some y2:=a 2 _ rfl;have f3:_=some y3:=a 3 _ rfl;have f4:_=some y4:=a 4 _ rfl;have f5:_=some y5:=a 5 _ rfl;have f6:_=some y6:=a 6 _ rfl
  obtain ⟨k,hk,ek⟩:=Nr f0
  obtain ⟨lo,D,elo⟩:=Nr f1
  obtain ⟨hi,y,ehi⟩:=Nr f2
  obtain ⟨s,hs,es⟩:=Nr f3
  cases n with
  | zero=>simp [DataW.trod] at f4
  | succ n =>
  obtain ⟨w,vw,o,Y,ew,O,bw⟩:=MW Lq (fun s=>s.size≤maxLen) (fun w=>w.size+1) Tryz.underlying22 (sz:=1) (by kernel_rfl) (by omega) (fun cs x h=>by
   obtain ⟨s,hs,rfl,c⟩:=XW h
   exact ⟨s,.string s,hs,rfl,.flat (Ad hs),c⟩) f4
  obtain ⟨el,ve,G,f,ee,U,be⟩:=MW HF Ty.wf Ty.bulk Tryz.underlying23 (sz:=7) (by kernel_rfl) (by omega) (fun cs x h=>by
   obtain ⟨v,hv,b,c⟩:=ZG n cs x h
   exact ⟨v,.agg cs.toArray,hv,by simp [Value.cells],b.agg v.ones,c⟩) f5
  obtain ⟨Z,vf,N,E,ef,C,bf⟩:=MW Cm (fun p=>BQ p.1∧p.2.1.size≤maxLen∧BQ p.2.2.1∧p.2.2.2.1.wf∧p.2.2.2.2.length≤maxLen∧∀ v∈p.2.2.2.2,v.wf) (fun p=>p.2.1.size+p.2.2.2.1.bulk+H9 p.2.2.2.2) Tryz.underlying24 (sz:=11) (by kernel_rfl) (by omega) (fun cs x h=>by
   cases n with
   | zero=>simp [DataW.trod] at h
   | succ n =>
   obtain ⟨ys,n',hn,rfl,K,hx,a⟩:=DataW.trod_struct Tryz.underlying54 h
   cases hn
   have e:cs.length=11:=K.trans (by kernel_rfl)
   have m:ys.length=5:=hx
   match ys,m,a with
   | [w0,w1,w2,w3,w4],_,a =>
   have q0:_=some w0:=a 0 _ rfl;have q1:_=some w1:=a 1 _ rfl;have q2:_=some w2:=a 2 _ rfl;have q3:_=some w3:=a 3 _ rfl;have q4:_=some w4:=a 4 _ rfl
   obtain ⟨u,t,enu⟩:=Nr q0
   obtain ⟨nm,d,en,bn⟩:=XW q1
   obtain ⟨r,g,end'⟩:=Nr q2
   obtain ⟨v,hv,b,aa⟩:=ZG n _ _ q3
   cases n with
   | zero=>simp [DataW.trod] at q4
   | succ n =>
   obtain ⟨dl,vd,l,z,ed,V,bd⟩:=MW Bo Vl.wf Vl.bulk Tryz.underlying43 (sz:=6) (by kernel_rfl) (by omega) (fun cs x h=>by
    obtain ⟨v,hv,b,c⟩:=W8 n cs x h
    exact ⟨v,.agg cs.toArray,hv,by simp [Value.cells],b.agg v.ones,c⟩) q4
   have e1:Tryz.prog.cellsOf 3=1:=by kernel_rfl
   have e2:Tryz.prog.cellsOf 26=7:=by kernel_rfl
   have e3:Tryz.prog.cellsOf 9=1:=by kernel_rfl
   have e4:Tryz.prog.cellsOf 43=1:=by kernel_rfl
   simp only [List.getElem_toArray,List.getElem_cons_zero,List.getElem_cons_succ,e1,e2,e3,e4] at enu en end' b ed
   match cs,e with
   | [c0,c1,c2,c3,c4,c5,c6,c7,c8,c9,c10],_ =>
   simp only [List.drop_zero,List.take_succ_cons,List.take_zero,List.cons.injEq,and_true,List.drop_succ_cons] at enu en end' b ed
   subst enu en end' ed
   refine ⟨(u,nm,r,v,dl),.agg #[.int .i64 u,.string nm,.int .i64 r,c3,c4,c5,c6,c7,c8,c9,c10],⟨t,d,g,hv,z,l⟩,rfl,?_,by simp only [List.map_cons,List.map_nil,Rows.uptoBulk,Rows.uptoBulkAll,PX];omega⟩
   exact RC.agg (cs:=[.int .i64 u,.string nm,.int .i64 r]++([c3,c4,c5,c6,c7,c8,c9]++[c10])) (.cons (.flat rfl) (.cons (.flat (show IB (.string nm)=true from Ad d)) (.cons (.flat rfl) (b.app (.cons V .nil))))) (fun x hx=>by
    simp only [List.mem_cons,List.mem_append,List.not_mem_nil,or_false] at hx
    rcases hx with rfl | rfl | rfl | hx | rfl
    ·rfl
    ·rfl
    ·rfl
    ·exact v.ones x hx
    ·rfl)) f6
  have i:Tryz.prog.cellsOf 3=1:=by kernel_rfl
  have j:Tryz.prog.cellsOf 22=1:=by kernel_rfl
  have q:Tryz.prog.cellsOf 23=1:=by kernel_rfl
  have J:Tryz.prog.cellsOf 24=1:=by kernel_rfl
  simp only [List.getElem_toArray,List.getElem_cons_zero,List.getElem_cons_succ,i,j,q,J,List.drop_zero,List.take_succ_cons,List.take_zero,List.cons.injEq,and_true,List.drop_succ_cons] at ek elo ehi es ew ee ef
  subst ek elo ehi es ew ee ef
  refine ⟨.mk k lo hi s w el Z,?_,?_,by simp only [List.map_cons,List.map_nil,Rows.uptoBulk,Rows.uptoBulkAll,Ty.bulk,U3,Ve,SN];omega⟩
  ·unfold Ty.wf
   exact ⟨hk,D,y,hs,o,Y,f,E,(YP el).2 G,(V7 Z).2 N⟩
  ·rw [Ty.cs,Yq,WU,Zd4]
   exact .cons (.flat rfl) (.cons (.flat rfl) (.cons (.flat rfl) (.cons (.flat rfl) (.cons O (.cons U (.cons C .nil))))))
end
section
variable {H:Type} {enc:TypeId × Value→H} {W:World} {base:Nat} {v:Value} {d:DataW H} {p:List MemPlace}
theorem Zdf {t:TypeId} {fs:Array Field} (ht:Tryz.prog.underlying t=some (.struct fs)) (hv:Value.okWide Tryz.prog W .any base t v):∃ cs,v = .agg cs:=by
 unfold Value.okWide at hv
 rw [ht] at hv
 obtain ⟨cs,h,_⟩:=hv
 exact ⟨cs,h⟩
theorem Zhn (hv:Value.okWide Tryz.prog W .any base 26 v) (h:DataW.Trod enc Tryz.prog W 0 (fun _=>true) true 26 v d p):∃ t:Ty,t.wf∧R W Mem.start W v (.agg t.cs)∧t.bulk≤Rows.uptoBulk d:=by
 obtain ⟨cs,rfl⟩:=Zdf Tryz.underlying26 hv
 obtain ⟨n,e⟩:=h
 obtain ⟨t,c,a,b⟩:=ZG n _ _ e
 exact ⟨t,c,by simpa [Value.cells] using a.agg t.ones,b⟩
theorem Zh9 (hv:Value.okWide Tryz.prog W .any base 46 v) (h:DataW.Trod enc Tryz.prog W 0 (fun _=>true) true 46 v d p):∃ t:Vl,t.wf∧R W Mem.start W v (.agg t.cs)∧t.bulk≤Rows.uptoBulk d:=by
 obtain ⟨cs,rfl⟩:=Zdf Tryz.underlying46 hv
 obtain ⟨n,e⟩:=h
 obtain ⟨t,c,a,b⟩:=W8 n _ _ e
 exact ⟨t,c,by simpa [Value.cells] using a.agg t.ones,b⟩
end
end Go.Proofs.YtgpmlelfkjfbiaaGreatDoor
