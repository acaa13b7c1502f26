/-
  Part 6 of the proof: rules and walks that the claim's last text uses.
-/
import Derived.Deep.LoopGhost
import Derived.Deep.RegionLaw
import Derived.Lib.RowBridge
import Derived.Lib.SliceRun
import Derived.Lib.Walk
import Derived.Shelf.RegionOpenPlain
import Derived.Shelf.SlBodiesN
import Derived.Shelf.Slices.CompactS
import Derived.Shelf.Slices.In.SortNone
import Derived.Shelf.Sort.Plain
import Derived.Shelf.Spec.SlicesInsertGrow
import Derived.WalkKit
import Derived.Test.YtmcnjijeocmkgaaGreatDoorLh5
set_option linter.unusedSimpArgs false
set_option linter.unusedVariables false
set_option maxRecDepth 100000
set_option maxHeartbeats 4000000
namespace Go.Proofs.YtmcnjijeocmkgaaGreatDoor
open Go Go.RowKit Go.Ev
def Bc (n:Nat) (h:List Part) (b:Part→Option Bool):Option Bool :=
 (FA n h b).bind fun g =>
 some (decide (0≤g))
theorem DT (w0:World) (n:Nat) (B:Aq) (Rw:Aw) (L:Av) (a0:List Part) (fa1:FuncId) (ca1:List AV) (a1:Part→Option Bool) (ha1:∀ (x0:Part) r,a1 x0=some r→∀ B' rows,B <+: B'→Rw <+: rows→ACalls Tryz.prog w0 fa1 ([.agg (Am x0.kind::(Am x0.index::([.val (.string x0.name)])))]++ca1) ⟨B',rows,L⟩ fun v s=>v = .val (.bool r)∧s=⟨B',rows,L⟩) (r:Bool) (h:Bc n a0 a1=some r) :
  ACalls Tryz.prog w0 150 [.list (a0.map AD) .none,.clo fa1 ca1] ⟨B,Rw,L⟩ fun x st=>x = .val (.bool r)∧st=⟨B,Rw,L⟩:=by
 rw [Bc] at h
 refine hd [.tmp 4] Tryz.func150 Tryz.ntmps150 fun M0 W0 m l j b k g hs=>?_
 simp only [AB]
 have e:=Cf (k (.clo fa1 ca1) (by simp))
 refine rg [0,1] hs ?_
 obtain ⟨o,d,h⟩:=bind_some h
 refine rc 2 [4] hs ?_;intro K2 c
 refine Ax _ (OZ w0 n _ _ _ a0 fa1 ca1 a1 (fun x0 r i f a q1 q2=>ha1 x0 r i f a (List.IsPrefix.trans px q1) (g.pre.trans q2)) _ d) (hv hs) ?_
 refine ne hs c ?_
 clear c
 exact rt h hs b g
def GK (n:Nat)  : Option Int :=
 some ((-1))
def BF (n:Nat) (h:List (List Part)) (y:(List Part)→Option Bool):Nat→Int→Option Int
 | 0,_=>none
 | m+1,b =>
  if decide (b<(h.length:Int)) then
   (BJ h b).bind fun q =>
   (y q).bind fun g =>
   if g then
    some (b)
   else
    if A9 (b+1) then
     (BF n h y m) (b+1)
    else none
  else
   GK n 
def DD (n:Nat) (g:List (List Part)) (b:(List Part)→Option Bool):Option Int :=
 BF n g b n 0
theorem Jm (w0:World) (n:Nat) (B:Aq) (Rw:Aw) (L:Av) (a0:List (List Part)) (fa1:FuncId) (ca1:List AV) (a1:(List Part)→Option Bool) (ha1:∀ (x0:List Part) r,a1 x0=some r→∀ B' rows,B <+: B'→Rw <+: rows→ACalls Tryz.prog w0 fa1 ([.list (x0.map AD) .none]++ca1) ⟨B',rows,L⟩ fun v s=>v = .val (.bool r)∧s=⟨B',rows,L⟩) (r:Int) (h:DD n a0 a1=some r) :
  ACalls Tryz.prog w0 162 [.list (a0.map (CJ AD)) .none,.clo fa1 ca1] ⟨B,Rw,L⟩ fun x st=>x=Am r∧st=⟨B,Rw,L⟩:=by
 rw [DD] at h
 refine hd [.tmp 4] Tryz.func162 Tryz.ntmps162 fun M0 W0 j i g c l f hs=>?_
 simp only [AB]
 have b:=Cf (l (.clo fa1 ca1) (by simp))
 refine rg [0,1] hs ?_
 refine AA (fun e st=>Ck e st B Rw L [] [] [] (GK n  = some r)) ?_ ?_
 ·intro K4 k
  refine rg [0,1,7,8] hs ?_
  apply Ar
  refine Az (fun m e st=>∃ (d:Int),Ck e st B Rw L [(0,true,.list (a0.map (CJ AD)) .none),(1,true,.clo fa1 ca1),(7,true,Am (a0.length:Int)),(8,true,Am d)] [] [] (BF n a0 a1 m d=some r)) n ⟨0,([]),Rw,ef hs,ef hs,f,h⟩ ?_
  rintro ml6 e st ⟨d,Xl6,Rl6,rfl,rfl,f,h⟩ Ul6 Vl6
  cases ml6 with
  | zero=>cases h
  | succ ml6 =>
  rw [BF] at h
  refine A8 j i g rfl c f (P0 b f) (P0 b f) ?_
  exact go (tg (a:=([0,1,7,8,9],([0,1,7,8],[0,1,5,7,8],[0,1,5,7,8,16],([4],()),[0,1,7,8],[0,1,7,8],()),[],()))) h hs j i g c f (q1 ha1) (q2 k (fun e s=>Vl6 ml6 e s (Nat.lt_succ_self _)))
 ·clear h;rintro e st ⟨Xk3,Rk3,rfl,rfl,f,h⟩
  rw [GK] at h
  refine A8 j i g rfl c f (P0 b f) (P0 b f) ?_
  refine rg [4] hs ?_
  exact rt h hs c f
def Ba (n:Nat) (h:List (List Part)) (b:(List Part)→Option Bool):Option Bool :=
 (DD n h b).bind fun g =>
 some (decide (0≤g))
theorem E9 (w0:World) (n:Nat) (B:Aq) (Rw:Aw) (L:Av) (a0:List (List Part)) (fa1:FuncId) (ca1:List AV) (a1:(List Part)→Option Bool) (ha1:∀ (x0:List Part) r,a1 x0=some r→∀ B' rows,B <+: B'→Rw <+: rows→ACalls Tryz.prog w0 fa1 ([.list (x0.map AD) .none]++ca1) ⟨B',rows,L⟩ fun v s=>v = .val (.bool r)∧s=⟨B',rows,L⟩) (r:Bool) (h:Ba n a0 a1=some r) :
  ACalls Tryz.prog w0 96 [.list (a0.map (CJ AD)) .none,.clo fa1 ca1] ⟨B,Rw,L⟩ fun x st=>x = .val (.bool r)∧st=⟨B,Rw,L⟩:=by
 rw [Ba] at h
 refine hd [.tmp 4] Tryz.func96 Tryz.ntmps96 fun M0 W0 m l j b k g hs=>?_
 simp only [AB]
 have e:=Cf (k (.clo fa1 ca1) (by simp))
 refine rg [0,1] hs ?_
 obtain ⟨o,d,h⟩:=bind_some h
 refine rc 2 [4] hs ?_;intro K2 c
 refine Ax _ (Jm w0 n _ _ _ a0 fa1 ca1 a1 (fun x0 r i f a q1 q2=>ha1 x0 r i f a (List.IsPrefix.trans px q1) (g.pre.trans q2)) _ d) (hv hs) ?_
 refine ne hs c ?_
 clear c
 exact rt h hs b g
def KV (n:Nat)  : Option Int :=
 some (0)
def Dc (n:Nat) (y:List (ByteArray × Ex)):Nat→(List (List Part))→Int→Option Int
 | 0,_,_=>none
 | m+1,g,b =>
  if decide (b<(y.length:Int)) then
   (BJ y b).bind fun x17 =>
   (Df n x17.1).bind fun h =>
   if !(decide (h.2=0)) then
    some (h.2)
   else
    (Bc n h.1 (fun (z:Part)=>some (Eo z))).bind fun q =>
    if q then
     some (22)
    else
     (Ba n g (fun (z:List Part)=>FX n z h.1)).bind fun y29 =>
     if y29 then
      some (7)
     else
      if (g.length+1)*24≤140737488355328∧g.length+1≤4611686018427387904 then
       if A9 (b+1) then
        (Dc n y m) (g++([h.1])) (b+1)
       else none
      else none
  else
   KV n 
def CS (n:Nat) (b:List (ByteArray × Ex)):Option Int :=
 if decide (256<(b.length:Int)) then
  some (9)
 else
  Dc n b n ([]) 0
theorem Gw (w0:World) (hE:JF w0) (hM:Jz w0) (hP:Pow10 w0) (n:Nat) (B:Aq) (Rw:Aw) (L:Av) (a0:List (ByteArray × Ex)) (r:Int) (h:CS n a0=some r) :
  ACalls Tryz.prog w0 64 [.agg ([.list (a0.map A7) .none])] ⟨B,Rw,L⟩ fun x st=>x=Am r∧st=⟨B,Rw,L⟩:=by
 rw [CS] at h
 refine hd [.tmp 2] Tryz.func64 Tryz.ntmps64 fun M0 W0 J t q c Z i hs=>?_
 simp only [AB]
 refine rg [1] hs ?_
 apply An;intro K2 y
 refine rg [1,11] hs ?_
 refine BL h hs ?_ ?_<;>intro hs h
 ·refine rg [2] hs ?_
  exact rt h hs c i
 refine sk [1] hs y ?_
 clear y
 refine rg [1,3] hs ?_
 refine AA (fun e st=>Ck e st B Rw L [] [[.list (a0.map A7) .none]] [] (KV n  = some r)) ?_ ?_
 ·intro K9 H
  refine rg [3,13,14,15] hs ?_
  apply Ar
  refine Az (fun m e st=>∃ (b:List (List Part)) (g:Int) (d:Ev.Own),Ck e st B Rw L [(3,true,.list (b.map (CJ AD)) d),(13,true,.list (a0.map A7) .none),(14,true,Am (a0.length:Int)),(15,true,Am g)] [[.list (a0.map A7) .none]] [(1,b.length,d)] (Dc n a0 m b g=some r)) n ⟨([]),0,.full,([]),Rw,ef hs,ef hs,Owns.of_eq ((i).full 1 0) Dk,h⟩ ?_
  rintro ml11 e st ⟨b,g,d,Xl11,Rl11,rfl,rfl,i,h⟩ Ul11 Vl11
  cases ml11 with
  | zero=>cases h
  | succ ml11 =>
  rw [Dc] at h
  have Y:=i.unders
  simp only [List.mem_cons,List.not_mem_nil,or_false,forall_eq_or_imp,forall_eq] at Y
  refine td J t q c i ?_
  refine rg [3,13,14,15,16] hs ?_
  apply An;intro K13 l
  refine BL h hs ?_ ?_<;>intro hs h
  rotate_left
  ·refine sx [] hs H ?_
   exact ⟨([]),Rl11,ef hs,ef hs,(i).sub (List.sublist_append_left [] [(1,b.length,d)]),h⟩
  refine sk [3,13,14,15] hs l ?_
  clear l
  apply An;intro K15 C
  apply Ar
  obtain ⟨K,D,h⟩:=bind_some h
  obtain ⟨N,G,p⟩:=AY D
  have v:=AO (f:=A7) p
  have hs:=Ae v hs
  refine rg [3,5,13,14,15] hs ?_
  obtain ⟨u,F,h⟩:=bind_some h
  refine rc 2 [3,6,7,13,14,15] hs ?_;intro K18 j
  refine Ax _ (F7 w0 hE hM hP n _ _ _ K.1 _ F) (hv hs) ?_
  refine ne hs j ?_
  clear j
  apply An;intro K20 w
  apply Ar
  refine rg [3,6,7,13,14,15,25] hs ?_
  refine BL h hs ?_ ?_<;>intro hs h
  ·refine rg [2] hs ?_
   exact rt h hs c i
  obtain ⟨Q,hy25,h⟩:=bind_some h
  refine rc 2 [3,6,13,14,15,29] hs ?_;intro K24 o
  refine Ax _ (DT w0 n _ _ _ u.1 153 [] (fun (x0:Part)=>some (Eo x0)) (fun x0 r hx U rows' E O=>by cases hx;exact Qd w0 _ _ _ x0) _ hy25) (hv hs) ?_
  refine ne hs o ?_
  clear o
  refine BL h hs ?_ ?_<;>intro hs h
  ·refine rg [2] hs ?_
   exact rt h hs c i
  obtain ⟨V,z,h⟩:=bind_some h
  refine rc 2 [3,6,13,14,15,32] hs ?_;intro K28 k
  refine Ax _ (E9 w0 n _ _ _ b 154 [.box (B.length+2) 0] (fun (x0:List Part)=>FX n x0 u.1) (fun x0 r hx U rows' E O=>by exact Q6 w0 n _ _ _ x0 _ u.1 (D7 E (ef hs)) _ hx) _ z) (hv hs) ?_
  refine ne hs k ?_
  clear k
  exact go (tg (a:=(([2],()),[3,6,13,14,15],[3,13,14,15],[3,13,14,15],()))) h hs J t q c i (q1 (ae SA LA)) (q3 w C (fun e s=>Vl11 ml11 e s (Nat.lt_succ_self _)))
 ·clear h;rintro e st ⟨Xk8,Rk8,rfl,rfl,i,h⟩
  rw [KV] at h
  refine td J t q c i ?_
  refine rg [2] hs ?_
  exact rt h hs c i
end Go.Proofs.YtmcnjijeocmkgaaGreatDoor
namespace Go.Ev
open Go Go.RowKit
section
variable {o:VO} {n:Nat}
@[go_sem] theorem Zkq:(Ks o n).cells=[Ks o n]:=by cases o<;>rfl
@[go_sem] theorem Zl1:(Ks o n).one=true:=by cases o<;>rfl
@[go_sem] theorem Zjg:A3 (Ks o n)=true:=by cases o<;>rfl
@[go_sem] theorem ZkO:Gk (Ks o n)=false:=by cases o<;>rfl
@[go_sem] theorem ZlN:Wj (Ks o n)=false:=by cases o<;>rfl
@[go_sem] theorem PS (id ver:Nat):Ks (.row id ver) n = .vec id ver 0 n:=rfl
def VO.under:VO→Nat→Prop
 | .nil,_=>True
 | .row id _,k=>id<k
@[go_sem] theorem Zdg {nb nr nl:Nat}:Under nb nr nl (Ks o n)↔o.under nr:=by
 cases o with
 | nil=>exact ⟨fun _=>trivial,fun _ => .list (by simp) trivial⟩
 | row id ver=>exact ⟨fun h=>by cases h;assumption,fun h => .vec h⟩
@[go_sem] theorem ZgY (k:Nat):VO.nil.under k=True:=rfl
@[go_sem] theorem Zg4 (id ver k:Nat):(VO.row id ver).under k=(id<k):=rfl
end
def ZeD:VO→List RowA→VO
 | .nil,rows => .row rows.length 0
 | .row id ver,_ => .row id (ver+1)
def Zey:VO→List RowA→Nat→List AV→List RowA
 | .nil,rows,sz,cs=>rows++[.vec 0 sz cs]
 | .row id ver,rows,sz,cs=>rows.set id (.vec (ver+1) sz cs)
section
variable {Rw rows:List RowA} {l:List (Nat × Nat × Own)} {ho:Own} {v:List VE} {o:VO} {sz:Nat} {cs:List AV}
theorem OwnsAt.up {lo:Nat} {x:Nat × Nat × Own} (h:OwnsAt lo ho rows x) (r:Aw):OwnsAt lo ho (rows++r) x:=by
 rcases h with h | ⟨id,h1,h2,h3⟩
 ·exact .inl h
 ·exact .inr ⟨id,h1,h2,by rw [List.getElem?_append_left (Ak.1 h3).1];exact h3⟩
theorem OwnsAt.set {lo:Nat} {x:Nat × Nat × Own} (h:OwnsAt lo ho rows x) {i:Nat} {a s:Nat} {c:List AV} (hi:rows[i]? = some (.vec a s c)) (r:RowA):OwnsAt lo ho (rows.set i r) x:=by
 rcases h with h | ⟨id,h1,h2,h3⟩
 ·exact .inl h
 ·refine .inr ⟨id,h1,h2,?_⟩
  rw [List.getElem?_set_ne (fun e=>by rw [e,h3] at hi;cases hi)]
  exact h3
theorem VAt.lt {lo:Nat} {x:VE} (h:VAt lo ho rows x):x.1.under rows.length:=by
 rcases h with h | ⟨id,ver,h1,h2,h3⟩
 ·rw [h.1];trivial
 ·rw [h1];exact (Ak.1 h3).1
theorem Owns.nilV (h:Owns Rw rows l ho v) (sz:Nat):Owns Rw rows l ho ((.nil,sz,[])::v) :=
 ⟨h.len,h.keep,fun i r b q a=>h.calm i r b q fun x hx=>a x (List.mem_cons_of_mem _ hx),h.each,h.apart,fun x hx=>by
  rcases List.mem_cons.1 hx with rfl | hx
  ·exact .inl ⟨rfl,rfl⟩
  ·exact h.veach x hx,List.pairwise_cons.2 ⟨fun _ _ _ _ _ q=>(nomatch q),h.vapart⟩⟩
theorem Owns.newV (h:Owns Rw rows l ho v) (sz:Nat) (cs:List AV):Owns Rw (rows++[.vec 0 sz cs]) l ho ((.row rows.length 0,sz,cs)::v):=by
 have j:=h.len
 refine ⟨by simp;omega,fun i d m=>?_,fun i r c q f=>?_,fun x hx=>(h.each x hx).up _,h.apart,fun x hx=>?_,List.pairwise_cons.2 ⟨fun y g id a b q k=>?_,h.vapart⟩⟩
 ·rw [List.getElem?_append_left (by omega)];exact h.keep i d m
 ·by_cases d:i<rows.length
  ·rw [List.getElem?_append_left d] at c
   exact h.calm i r c q fun x hx=>f x (List.mem_cons_of_mem _ hx)
  ·have e:i=rows.length:=by
    have:=(Ak.1 c).1
    simp at this;omega
   exact absurd (by rw [e]) (f _ (List.mem_cons_self ..) 0)
 ·rcases List.mem_cons.1 hx with rfl | hx
  ·exact .inr ⟨_,_,rfl,.inl j,by simp⟩
  ·exact (h.veach x hx).up _
 ·cases q
  have:=(h.veach y g).lt
  rw [k] at this
  exact Nat.lt_irrefl _ this
theorem Owns.setV {id ver:Nat} (h:Owns Rw rows l ho ((.row id ver,sz,cs)::v)) (ver':Nat) (cs':List AV):Owns Rw (rows.set id (.vec ver' sz cs')) l ho ((.row id ver',sz,cs')::v):=by
 obtain ⟨n,h1,o,s,p,j,m⟩:=h
 obtain ⟨hid,hrow⟩:(Rw.length≤id∨ho = .row id)∧rows[id]? = some (.vec ver sz cs):=by
  rcases j _ (List.mem_cons_self ..) with q | ⟨c,ver',q1,q2,q3⟩
  ·cases q.1
  ·cases q1;exact ⟨q2,q3⟩
 have d:=(Ak.1 hrow).1
 obtain ⟨p1,p2⟩:=List.pairwise_cons.1 m
 refine ⟨by simpa using n,fun i hi hn=>?_,fun i r g q f=>?_,fun x hx=>(s x hx).set hrow _,p,fun x hx=>?_,List.pairwise_cons.2 ⟨fun y hy c a b q=>by cases q;exact p1 y hy id ver b rfl,p2⟩⟩
 ·rw [List.getElem?_set_ne (fun e=>by subst e;rcases hid with q | q;exact Nat.lt_irrefl _ (Nat.lt_of_lt_of_le hi q);exact hn q)];exact h1 i hi hn
 ·by_cases e:id=i
  ·exact absurd (by rw [e]) (f _ (List.mem_cons_self ..) ver')
  ·rw [List.getElem?_set_ne e] at g
   refine o i r g q fun x hx=>?_
   rcases List.mem_cons.1 hx with rfl | hx
   ·intro a k;cases k;exact e rfl
   ·exact f x (List.mem_cons_of_mem _ hx)
 ·rcases List.mem_cons.1 hx with rfl | hx
  ·exact .inr ⟨id,ver',rfl,hid,by simp [d]⟩
  ·exact (j x (List.mem_cons_of_mem _ hx)).set (fun a k=>p1 x hx id ver a rfl k) _
theorem Owns.bump (h:Owns Rw rows l ho ((o,sz,cs)::v)) (cs':List AV):Owns Rw (Zey o rows sz cs') l ho ((ZeD o rows,sz,cs')::v):=by
 cases o with
 | nil =>
  have d:Owns Rw rows l ho v:=⟨h.len,h.keep,fun i r b q c=>h.calm i r b q fun x hx=>by
   rcases List.mem_cons.1 hx with rfl | hx
   ·intro a k;cases k
   ·exact c x hx,h.each,h.apart,fun x hx=>h.veach x (List.mem_cons_of_mem _ hx),(List.pairwise_cons.1 h.vapart).2⟩
  exact d.newV sz cs'
 | row id ver=>exact h.setV (ver+1) cs'
theorem Owns.eqV {v':List VE} (h:Owns Rw rows l ho v) (he:v=v'):Owns Rw rows l ho v':=he▸h
theorem Owns.nilZ (h:Owns Rw rows l ho ((o,sz,cs)::v)) (hs:0<sz) {n:Nat} (hn:cs.length=n*sz):o = .nil→n=0:=fun e=>by
 rcases h.veach _ (List.mem_cons_self ..) with q | ⟨id,ver,q1,q2,q3⟩
 ·have q2:cs=[]:=q.2
  rw [q2] at hn
  rcases Nat.eq_zero_or_pos n with w | w
  ·exact w
  ·have:=Nat.mul_pos w hs
   simp at hn;omega
 ·rw [e] at q1;cases q1
theorem Owns.underV (h:Owns Rw rows l ho v):∀ x∈v,x.1.under rows.length:=fun x a=>(h.veach x a).lt
theorem Owns.appendV {P:Program} {t el:TypeId} {by8 n m:Nat} {ag:Bool} (h:Owns Rw rows l ho ((o,sz,cs)::v)) (he:Mc P t=some (el,sz,ag,by8)) (hz:(Br P el).isSome=true) (hs:0<sz) (hn:cs.length=n*sz)
  (hb:(n+m)*by8≤140737488355328) (hb2:n+m≤4611686018427387904) (ys:List AV) (hy:ys.length=m) (cs':List AV) (hc:cs++ys.flatMap (fun y=>y.pub.cells)=cs') :
  ∃ o' rows',Owns Rw rows' l ho ((o',sz,cs')::v)∧∀ (B:Aq) (L:Av) (o2:Own),BP P ⟨B,rows,L⟩ t (Ks o n) (.list ys o2)=((∀ y∈ys,y.cells.length=sz∧A3 y=true),Ks o' (n+m),⟨B,rows',L⟩):=by
 subst hc
 by_cases a:o = .nil∧m=0
 ·obtain ⟨rfl,rfl⟩:=a
  have e0:=h.nilZ hs hn rfl
  subst e0
  have ec:ys=[]:=List.length_eq_zero_iff.1 hy
  subst ec
  refine ⟨.nil,rows,h.eqV (by simp),fun B L o2=>?_⟩
  simp [Ks,BP,he,A0,BD,hs]
 refine ⟨_,_,h.bump _,fun B L o2=>?_⟩
 cases o with
 | nil =>
  have a:0<m:=Nat.pos_of_ne_zero fun e=>a ⟨rfl,e⟩
  have e0:=h.nilZ hs hn rfl
  subst e0
  have ec:cs=[]:=List.length_eq_zero_iff.1 (by simpa using hn)
  subst ec
  simp only [Ks,BP,he,A0,BD,C5,hs,hz,hy,a,Aj (Nat.ne_of_gt a),ZeD,Zey,List.length_nil,List.nil_append,Nat.zero_add,true_and,and_true,Prod.mk.injEq,eq_iff_iff,and_self]
  rw [Nat.zero_add] at hb hb2
  exact ⟨fun q=>q.2.2,fun q=>⟨hb,hb2,q⟩⟩
 | row id ver =>
  obtain ⟨id',ver',e,hlt,hv⟩:∃ id' ver',VO.row id ver = .row id' ver'∧id'<rows.length∧C4 rows id' ver'=some (sz,cs):=by
   rcases h.veach _ (List.mem_cons_self ..) with q | ⟨id,ver,q1,q2,q3⟩
   ·cases q.1
   ·refine ⟨id,ver,q1,(Ak.1 q3).1,?_⟩
    simp only [C4,q3,if_true]
  cases e
  have b:cs.take (n*sz)=cs:=List.take_of_length_le (by omega)
  have c:=hb
  simp only [Ks,BP,he,hv,A0,BD,C5,hs,hz,hy,ZeD,Zey,b,Nat.le_of_eq hn.symm,true_and,and_true,Prod.mk.injEq,eq_iff_iff]
  exact ⟨fun q=>q.2.2,fun q=>⟨hb,hb2,q⟩⟩
theorem Owns.callV {rows':List RowA} {v':List VE} (h:Owns Rw rows l ho v) (hc:Owns rows rows' [] .none v'):Owns Rw rows' l ho (v'++v):=by
 have u:=h.len
 have t:=hc.len
 have keep:∀ i,i<rows.length→rows'[i]? = rows[i]? := fun i f=>hc.keep i f (fun q=>by cases q)
 have j:∀ x∈v,x.1.under rows.length:=h.underV
 have g:∀ x∈v',∀ id c,x.1 = .row id c→rows.length≤id:=fun x hx id c e=>by
  rcases hc.veach x hx with q | ⟨id',ver',q1,q2,q3⟩
  ·rw [q.1] at e;cases e
  ·rw [q1] at e;cases e;rcases q2 with q2 | q2;exact q2;cases q2
 refine ⟨by omega,fun i f p=>?_,fun i r d q m=>?_,fun x hx=>?_,h.apart,fun x hx=>?_,List.pairwise_append.2 ⟨hc.vapart,h.vapart,fun x hx y o id a b e k=>?_⟩⟩
 ·rw [keep i (by omega)];exact h.keep i f p
 ·by_cases e:rows.length≤i
  ·exact hc.calm i r d (.inl e) fun x hx=>m x (List.mem_append_left _ hx)
  ·rw [keep i (by omega)] at d
   exact h.calm i r d q fun x hx=>m x (List.mem_append_right _ hx)
 ·rcases h.each x hx with q | ⟨id,q1,q2,q3⟩
  ·exact .inl q
  ·exact .inr ⟨id,q1,q2,by rw [keep id (Ak.1 q3).1];exact q3⟩
 ·rcases List.mem_append.1 hx with hx | hx
  ·rcases hc.veach x hx with q | ⟨id,c,q1,q2,q3⟩
   ·exact .inl q
   ·exact .inr ⟨id,c,q1,.inl (by rcases q2 with q2 | q2;omega;cases q2),q3⟩
  ·rcases h.veach x hx with q | ⟨id,c,q1,q2,q3⟩
   ·exact .inl q
   ·exact .inr ⟨id,c,q1,q2,by rw [keep id (Ak.1 q3).1];exact q3⟩
 ·have s:=g x hx id a e
  have n:=j y o
  rw [k] at n
  exact absurd n (by simp only [VO.under];omega)
theorem Owns.dropV {x:VE} (h:Owns Rw rows l ho ((.nil,sz,cs)::v)):Owns Rw rows l ho v :=
 ⟨h.len,h.keep,fun i r b q c=>h.calm i r b q fun x hx=>by
  rcases List.mem_cons.1 hx with rfl | hx
  ·intro a k;cases k
  ·exact c x hx,h.each,h.apart,fun x hx=>h.veach x (List.mem_cons_of_mem _ hx),(List.pairwise_cons.1 h.vapart).2⟩
theorem Owns.deadV {id ver:Nat} (h:Owns Rw rows l ho ((.row id ver,sz,cs)::v)):Owns Rw (rows.set id (.dead (ver+1))) l ho v:=by
 obtain ⟨j,h1,m,p,o,c,g⟩:=h
 obtain ⟨hid,hrow⟩:(Rw.length≤id∨ho = .row id)∧rows[id]? = some (.vec ver sz cs):=by
  rcases c _ (List.mem_cons_self ..) with q | ⟨id',ver',q1,q2,q3⟩
  ·cases q.1
  ·cases q1;exact ⟨q2,q3⟩
 have b:=(Ak.1 hrow).1
 obtain ⟨f,n⟩:=List.pairwise_cons.1 g
 refine ⟨by simpa using j,fun i hi hn=>?_,fun i r hr q d=>?_,fun x hx=>(p x hx).set hrow _,o,fun x hx=>?_,n⟩
 ·rw [List.getElem?_set_ne (fun e=>by subst e;rcases hid with q | q;exact Nat.lt_irrefl _ (Nat.lt_of_lt_of_le hi q);exact hn q)];exact h1 i hi hn
 ·by_cases e:id=i
  ·subst e
   rw [List.getElem?_set_self b] at hr
   cases hr;rfl
  ·rw [List.getElem?_set_ne e] at hr
   refine m i r hr q fun x hx=>?_
   rcases List.mem_cons.1 hx with rfl | hx
   ·intro a k;cases k;exact e rfl
   ·exact d x hx
 ·exact (c x (List.mem_cons_of_mem _ hx)).set (fun a k=>f x hx id ver a rfl k) _
end
section
variable {P:Program} {w0:World} {n:Nat} {e:Env} {st:St} {M0:Mem} {W0:World} {ro:Option Nat} {Q:AQ} {c:Code}
variable {Rw:List RowA} {lw:List (Nat × Nat × Own)} {oh:Own} {v:List VE} {o:VO} {sz m:Nat} {cs xs:List AV}
theorem TJ (l i:Nat) {bs:List AV} (hl:st.boxes[l]? = some bs) (hi:bs[i]? = some (Ks o m)) (ho:Owns Rw st.rows lw oh ((o,sz,cs)::v)) (ag:Bool) (hag:ag=true∨sz=1) (hs:0<sz) (hn:cs.length=m*sz) (hx:OA sz ag cs 0 m=xs)
  (h:∀ rows',Owns Rw rows' lw oh v→Eb P w0 n M0 W0 ro c Q e { st with boxes:=st.boxes.set l (bs.set i (.list xs .none)),rows:=rows' }):Eb P w0 n M0 W0 ro c Q e st:=by
 cases o with
 | nil =>
  have e0:=ho.nilZ hs hn rfl
  subst e0
  have ex:xs=[]:=by rw [←hx];rfl
  subst ex
  exact OW l i hl hi rfl (h _ (ho.dropV (x:=(.nil,0,[]))))
 | row id ver =>
  rcases ho.veach _ (List.mem_cons_self ..) with q | ⟨id',ver',q1,q2,q3⟩
  ·cases q.1
  ·cases q1
   subst hx
   exact OK l i ag hl hi (by simp only [C4,q3,if_true]) hag (by rw [Nat.zero_add];omega) (h _ ho.deadV)
theorem Yz (k:Nat) (hk:look e k=some (true,Ks o m)) (ho:Owns Rw st.rows lw oh ((o,sz,cs)::v)) (ag:Bool) (hag:ag=true∨sz=1) (hs:0<sz) (hn:cs.length=m*sz) (hx:OA sz ag cs 0 m=xs)
  (h:∀ rows',Owns Rw rows' lw oh v→Eb P w0 n M0 W0 ro c Q ((k,true,.list xs .none)::e) { st with rows:=rows' }):Eb P w0 n M0 W0 ro c Q e st:=by
 cases o with
 | nil =>
  have e0:=ho.nilZ hs hn rfl
  subst e0
  have ex:xs=[]:=by rw [←hx];rfl
  subst ex
  exact X1 k hk (h _ (ho.dropV (x:=(.nil,0,[]))))
 | row id ver =>
  rcases ho.veach _ (List.mem_cons_self ..) with q | ⟨id',ver',q1,q2,q3⟩
  ·cases q.1
  ·cases q1
   subst hx
   exact ZaW k ag hk (by simp only [C4,q3,if_true]) hag (by rw [Nat.zero_add];omega) (h _ ho.deadV)
end
theorem Zh5 {α:Type} {f:α→AV} {g:α→List AV} (sz:Nat) (hf:∀ x,f x = .agg (g x)) (hg:∀ x,(g x).length=sz) (xs:List α):OA sz true (xs.flatMap fun x=>(f x).cells) 0 xs.length=xs.map f:=by
 have b:(xs.flatMap fun x=>(f x).cells)=xs.flatMap g:=by
  congr 1;funext x;rw [hf];rfl
 rw [b]
 refine List.ext_getElem (by simp [OA]) fun i c a=>?_
 simp only [List.length_map] at a
 simp only [OA,List.getElem_map,List.getElem_range,Nat.zero_add,P1,if_true]
 rw [Ob sz hg (List.getElem?_eq_getElem a),hf]
theorem QR {α:Type} {f:α→AV} (hf:∀ x,(f x).cells=[f x]) (xs:List α):OA 1 false (xs.flatMap fun x=>(f x).cells) 0 xs.length=xs.map f:=by
 have b:(xs.flatMap fun x=>(f x).cells)=xs.map f:=by
  induction xs with
  | nil=>rfl
  | cons x xs ih=>rw [List.flatMap_cons,ih,hf];rfl
 rw [b]
 refine List.ext_getElem (by simp [OA]) fun i c a=>?_
 simp only [OA,List.getElem_map,List.getElem_range,Nat.zero_add,Nat.mul_one,P1,nth,Bool.false_eq_true,if_false]
 simp only [List.length_map] at a
 simp [a]
theorem Gt {α:Type} {f:α→AV} {sz:Nat} (hf:∀ x,(f x).cells.length=sz) (xs:List α):(xs.flatMap fun x=>(f x).cells).length=xs.length*sz:=by
 induction xs with
 | nil=>simp
 | cons x xs ih=>rw [List.flatMap_cons,List.length_append,ih,hf,List.length_cons,Nat.succ_mul,Nat.add_comm]
section
variable {P:Program} {w0:World} {f:FuncId} {st:St}
def finV (st:St) (Post:AV→St→Prop) (r:AV) (s:St):Prop :=
 st.boxes.length≤s.boxes.length∧st.rows.length≤s.rows.length∧st.loops.length≤s.loops.length∧Calm st.boxes.length s.rows.length st.loops.length (s.cut st.boxes.length s.rows.length st.loops.length) ∧
  Under st.boxes.length s.rows.length st.loops.length r∧Post r (s.cut st.boxes.length s.rows.length st.loops.length)
theorem ACalls.finV {args:List AV} {Post:AV→St→Prop} (h:ACalls P w0 f args st (finV st Post)):ACalls P w0 f args st Post:=by
 refine ⟨h.1,fun M w b a c=>(h.2 M w b a c).mono ?_⟩
 rintro en m ⟨v,M',r,d,g,⟨k,n,e,j,l,i⟩,h3,h4,h5⟩
 exact ⟨v,M'.cut st.boxes.length d.rows.length st.loops.length,r,_,g,i,h3.cut (by have:=a.N;omega) (by have:=a.NR;omega) (by have:=a.loop.NL;omega) (by rw [h4.loop.NL];exact e),h4.cut k (Nat.le_refl _) e j,h5.cut l⟩
theorem ZkX {B B' X:List (List AV)} {R0 rows:List RowA} {L l:List LoopA} {Post:AV→St→Prop} {r:AV} {ow:List (Nat × Nat × Own)} {v:List VE} (ho:Owns R0 rows ow .none v) (hc:Calm B.length R0.length L.length ⟨B',R0,L⟩) (hB:B'.length=B.length) (hu:Under B.length rows.length L.length r)
  (hv:∀ x∈v,∀ y∈x.2.2,Under B.length rows.length L.length y) (hp:Post r ⟨B',rows,L⟩):Go.Ev.finV ⟨B,R0,L⟩ Post r ⟨B'++X,rows,L++l⟩:=by
 have e:St.cut ⟨B'++X,rows,L++l⟩ B.length rows.length L.length=⟨B',rows,L⟩:=by simp [St.cut,←hB]
 have d:=ho.len
 refine ⟨by simp [hB],d,by simp,?_,hu,by simp only [e];exact hp⟩
 simp only [e]
 exact ⟨ho.rowsCalm (Nat.le_refl _) hc.rows hv,fun cs a x b=>Bn (Nat.le_refl _) d (Nat.le_refl _) (hc.boxes cs a x b),fun f a k x b c=>Bn (Nat.le_refl _) d (Nat.le_refl _) (hc.loops f a k x b c)⟩
theorem Zbl {B B' X:List (List AV)} {R0 rows:List RowA} {L:List LoopA} {Post:AV→St→Prop} {r:AV} {ow:List (Nat × Nat × Own)} {v:List VE} (ho:Owns R0 rows ow .none v) (hc:Calm B.length R0.length L.length ⟨B',R0,L⟩) (hB:B'.length=B.length) (hu:Under B.length rows.length L.length r)
  (hv:∀ x∈v,∀ y∈x.2.2,Under B.length rows.length L.length y) (hp:Post r ⟨B',rows,L⟩):Go.Ev.finV ⟨B,R0,L⟩ Post r ⟨B'++X,rows,L⟩:=by
 have:=ZkX (X:=X) (l:=[]) ho hc hB hu hv hp
 rwa [List.append_nil] at this
end
abbrev VP (Rw:Aw) (o:VO) (sz:Nat) (cs:List AV):Prop:=VAt 0 .none Rw (o,sz,cs)
theorem VP.up {Rw rows:List RowA} {o:VO} {sz:Nat} {cs:List AV} {l:List (Nat × Nat × Own)} {v:List VE} (h:VP Rw o sz cs) (ho:Owns Rw rows l .none v):VP rows o sz cs:=by
 rcases h with q | ⟨id,ver,q1,q2,q3⟩
 ·exact .inl q
 ·refine .inr ⟨id,ver,q1,q2,?_⟩
  rw [ho.keep id (Ak.1 q3).1 (fun e=>by cases e)]
  exact q3
theorem VP.row {rows:List RowA} {o:VO} {sz:Nat} {cs:List AV} (h:VP rows o sz cs) (hne:0<cs.length):∃ id ver,o = .row id ver∧id<rows.length∧C4 rows id ver=some (sz,cs):=by
 rcases h with q | ⟨id,ver,q1,q2,q3⟩
 ·have q2:cs=[]:=q.2
  rw [q2] at hne;simp at hne
 ·refine ⟨id,ver,q1,(Ak.1 q3).1,?_⟩
  simp only [C4,q3,if_true]
theorem VP.under {rows:List RowA} {o:VO} {sz:Nat} {cs:List AV} (h:VP rows o sz cs):o.under rows.length:=VAt.lt h
def hOf:VO→Own
 | .nil => .none
 | .row id _ => .row id
theorem Yh {o:VO} {i:Nat} (h:hOf o = .row i):∃ ver,o = .row i ver:=by
 cases o with
 | nil=>cases h
 | row id ver=>cases h;exact ⟨ver,rfl⟩
section
variable {Rw rows rows':List RowA} {l:List (Nat × Nat × Own)} {ho:Own} {v:List VE} {o o':VO} {sz:Nat} {cs cs':List AV}
theorem Owns.enterV (h:Owns Rw rows l ho ((o,sz,cs)::v)):Owns rows rows [] (hOf o) [(o,sz,cs)]:=by
 refine ⟨Nat.le_refl _,fun _ _ _=>rfl,fun i r b q d=>?_,by simp,.nil,fun x c=>?_,by simp⟩
 ·rcases q with q | q
  ·have:=(Ak.1 b).1;omega
  ·obtain ⟨a,e⟩:=Yh q
   exact absurd e (d _ (List.mem_singleton.2 rfl) a)
 ·rw [List.mem_singleton.1 c]
  rcases h.veach _ (List.mem_cons_self ..) with w | ⟨id,a,w1,w2,w3⟩
  ·exact .inl w
  ·refine .inr ⟨id,a,w1,.inr ?_,w3⟩
   simp only at w1
   rw [w1];rfl
theorem Owns.callG (h:Owns Rw rows l ho ((o,sz,cs)::v)) (hc:Owns rows rows' [] (hOf o) [(o',sz,cs')]):Owns Rw rows' l ho ((o',sz,cs')::v):=by
 have hx:=h.veach _ (List.mem_cons_self ..)
 have f:=hc.veach _ (List.mem_cons_self ..)
 obtain ⟨t,u⟩:=List.pairwise_cons.1 h.vapart
 have C:=h.len
 have z:=hc.len
 have own:∀ i,hOf o = .row i→(Rw.length≤i∨ho = .row i)∧∃ c,o = .row i c∧rows[i]? = some (.vec c sz cs):=fun i e=>by
  obtain ⟨c,e⟩:=Yh e
  rcases hx with q | ⟨id,d,q1,q2,q3⟩
  ·simp only at q;rw [e] at q;cases q.1
  ·simp only at q1;rw [e] at q1;cases q1
   exact ⟨q2,c,e,q3⟩
 have keep:∀ i,i<rows.length→hOf o ≠ .row i→rows'[i]? = rows[i]? := fun i m g=>hc.keep i m g
 have n:∀ i b,o' = .row i b→rows.length≤i∨hOf o = .row i:=fun i b e=>by
  rcases f with q | ⟨id,c,q1,q2,q3⟩
  ·simp only at q;rw [e] at q;cases q.1
  ·simp only at q1;rw [e] at q1;cases q1;exact q2
 refine ⟨by omega,fun i m g=>?_,fun i r j q p=>?_,fun x hxm=>?_,h.apart,fun x hxm=>?_,List.pairwise_cons.2 ⟨fun y s id a b e k=>?_,u⟩⟩
 ·have:hOf o ≠ .row i:=fun e=>by
   rcases (own i e).1 with q | q
   ·omega
   ·exact g q
  rw [keep i (by omega) this];exact h.keep i m g
 ·by_cases e:rows.length≤i∨hOf o = .row i
  ·exact hc.calm i r j e fun x hx=>by rw [List.mem_singleton.1 hx];exact p _ (List.mem_cons_self ..)
  ·rw [keep i (by omega) (fun k=>e (.inr k))] at j
   refine h.calm i r j q fun x hx=>?_
   rcases List.mem_cons.1 hx with rfl | hx
   ·intro c k
    simp only at k
    exact e (.inr (by rw [k];rfl))
   ·exact p x (List.mem_cons_of_mem _ hx)
 ·rcases h.each x hxm with q | ⟨id,q1,q2,q3⟩
  ·exact .inl q
  ·refine .inr ⟨id,q1,q2,?_⟩
   rw [keep id (Ak.1 q3).1 fun e=>by
    obtain ⟨_,c,_,w⟩:=own id e
    rw [w] at q3;cases q3]
   exact q3
 ·rcases List.mem_cons.1 hxm with rfl | hxm
  ·rcases f with q | ⟨id,c,q1,q2,q3⟩
   ·exact .inl q
   ·refine .inr ⟨id,c,q1,?_,q3⟩
    rcases q2 with q2 | q2
    ·exact .inl (by omega)
    ·exact (own id q2).1
  ·rcases h.veach x (List.mem_cons_of_mem _ hxm) with q | ⟨id,c,q1,q2,q3⟩
   ·exact .inl q
   ·refine .inr ⟨id,c,q1,q2,?_⟩
    rw [keep id (Ak.1 q3).1 fun e=>by
     obtain ⟨_,d,w,_⟩:=own id e
     exact t x hxm id d c w q1]
    exact q3
 ·rcases n id a e with q | q
  ·have:=(h.veach y (List.mem_cons_of_mem _ s)).lt
   rw [k] at this
   exact absurd this (by simp only [VO.under];omega)
  ·obtain ⟨c,w⟩:=Yh q
   exact t y s id c b w k
end
end Go.Ev
namespace Go.Ev
open Go Go.RowKit Go.Shelf Go.Lib Go.Proofs
def J6:List Bool→List AV→List AV
 | b::m,a::l=>(if b=true then a.pubA else a)::J6 m l
 | [],l=>l.map AV.pubA
 | _::_,[]=>[]
@[go_sem] theorem ZlU (m:List Bool) (a:AV) (l:List AV):J6 (true::m) (a::l)=a.pubA::J6 m l:=rfl
@[go_sem] theorem ZlO (m:List Bool) (a:AV) (l:List AV):J6 (false::m) (a::l)=a::J6 m l:=rfl
@[go_sem] theorem ZlK (l:List AV):J6 [] l=l.map AV.pubA:=rfl
@[go_sem] theorem Zmq (m:List Bool):J6 m []=[]:=by cases m<;>rfl
theorem VG:∀ (m:List Bool) (l:List AV),(J6 m l).length=l.length∧∀ (i:Nat) (h1:i<(J6 m l).length) (h2:i<l.length),(J6 m l)[i]=l[i]∨(J6 m l)[i]=l[i].pubA
 | [],l=>⟨by simp [J6],fun i h1 h2 => .inr (by simp [J6])⟩
 | b::m,[]=>⟨rfl,fun i h1 h2=>absurd h2 (by simp)⟩
 | b::m,a::l=>by
  obtain ⟨h1,h2⟩:=VG m l
  refine ⟨by simp [J6,h1],fun i d c=>?_⟩
  cases i with
  | zero=>cases b with
   | true=>exact .inr rfl
   | false=>exact .inl rfl
  | succ i=>exact h2 i (by simpa [J6] using d) (by simpa using c)
section
variable {P:Program} {w0:World} {st:St} {f:FuncId}
theorem ACalls.mask {m:List Bool} {args args':List AV} {Post:AV→St→Prop} (h:ACalls P w0 f args' st Post) (he:J6 m args=args'):ACalls P w0 f args st Post:=by
 subst he
 obtain ⟨j,n⟩:=VG m args
 refine ⟨h.1,fun M w c e d=>h.2 M w c e ?_⟩
 obtain ⟨l,k⟩:=d
 refine ⟨by rw [j];exact l,fun i a b=>?_⟩
 have g:i<args.length:=by rw [←j];exact b
 rcases n i b g with q | q
 ·rw [q];exact k i a g
 ·rw [q];exact (k i a g).pubA
theorem LD {cs args args':List AV} {k:AV→St→Prop} (m:List Bool) (Post:AV→St→Prop)
  (h:ACalls P w0 f args' st Post) (he:J6 m (args++cs)=args') (hk:∀ v s,Post v s→k v s):La P w0 true false (.clo f cs) args st k := .inr ⟨rfl,Post,fun _=>h.mask he,fun v s a _=>hk v s (a rfl)⟩
end
def Kv:List Bool→List AV→List AV
 | b::m,a::l=>(if b=true then a.pubCell else a)::Kv m l
 | [],l=>l.map AV.pubCell
 | _::_,[]=>[]
@[go_sem] theorem Zl3 (m:List Bool) (a:AV) (l:List AV):Kv (true::m) (a::l)=a.pubCell::Kv m l:=rfl
@[go_sem] theorem Zmk (m:List Bool) (a:AV) (l:List AV):Kv (false::m) (a::l)=a::Kv m l:=rfl
@[go_sem] theorem Zmd (l:List AV):Kv [] l=l.map AV.pubCell:=rfl
@[go_sem] theorem Zmo (m:List Bool):Kv m []=[]:=by cases m<;>rfl
def pubS (m:List Bool):AV→AV
 | .agg cs => .agg (Kv m cs)
 | x=>x
@[go_sem] theorem Zk4 (m:List Bool) (cs:List AV):pubS m (.agg cs) = .agg (Kv m cs):=rfl
theorem UP:∀ (m:List Bool) (l:List AV),(Kv m l).length=l.length∧∀ (i:Nat) (h1:i<(Kv m l).length) (h2:i<l.length),(Kv m l)[i]=l[i]∨(Kv m l)[i]=l[i].pubCell
 | [],l=>⟨by simp [Kv],fun i h1 h2 => .inr (by simp [Kv])⟩
 | b::m,[]=>⟨rfl,fun i h1 h2=>absurd h2 (by simp)⟩
 | b::m,a::l=>by
  obtain ⟨h1,h2⟩:=UP m l
  refine ⟨by simp [Kv,h1],fun i d c=>?_⟩
  cases i with
  | zero=>cases b with
   | true=>exact .inr rfl
   | false=>exact .inl rfl
  | succ i=>exact h2 i (by simpa [Kv] using d) (by simpa using c)
theorem R.pubS {w0:World} {M:Mem} {w:World} (m:List Bool) {v:Value} {x:AV} (h:R w0 M w v x):R w0 M w v (pubS m x):=by
 cases h with
 | @agg us xs hl h1 h =>
  obtain ⟨e,f⟩:=UP m xs
  refine .agg (by rw [e];exact hl) (fun x g=>?_) (fun i a b=>?_)
  ·obtain ⟨i,d,rfl⟩:=List.mem_iff_getElem.1 g
   have c:i<xs.length:=by rw [←e];exact d
   rcases f i d c with q | q
   ·rw [q];exact h1 _ (List.getElem_mem _)
   ·rw [q,AV.one_pubCell];exact h1 _ (List.getElem_mem _)
  ·have c:i<xs.length:=by rw [←e];exact b
   rcases f i b c with q | q
   ·rw [q];exact h i a c
   ·rw [q];exact (h i a c).pubCell
 | nil ho=>exact .nil ho
 | emp ho=>exact .emp ho
 | list sz us hc hm hcell hu ho=>exact .list sz us hc hm hcell hu ho
 | flat hf=>exact .flat hf
 | tup hl h=>exact .tup hl h
 | elem u k hcell hu=>exact .elem u k hcell hu
 | box hl=>exact .box hl
 | clo hl h=>exact .clo hl h
 | yld hk=>exact .yld hk
 | mp hk=>exact .mp hk
 | vec d hv h=>exact .vec d hv h
 | vel d hv h=>exact .vel d hv h
def Zcw (P:Program) (e:Env) (st:St):ResultVar→AV
 | .tmp t=>AC e (.tmp t)
 | .cell t ty=>(A4 P e true st (.load ty (.tmp t))).2.1
def Zi1 (mk:List Bool) (P:Program) (rs:List ResultVar) (Post:AV→St→Prop):AQ:=fun x e st =>
 match x with
 | .normal | .ret=>(∀ r∈rs,Wa P e st r)∧Post (pubS mk (Zap (rs.map (Zcw P e st)))) st
 | _=>False
attribute [go_sem] Zcw Zi1
section
variable {P:Program} {w0:World} {n:Nat} {M:Mem} {e:Env} {st:St} {a:Act} {w:World}
theorem Zbp (mk:List Bool) (h:Rel w0 n M e st a w) {fn:Func} {rs:List ResultVar} (hfn:fn.results=rs.toArray) (hrs:∀ r∈rs,Wa P e st r) :
  ∃ v,(results fn a.tmps).run P w = .ok v w∧R w0 M w v (pubS mk (Zap (rs.map (Zcw P e st)))):=by
 let f:ResultVar→Sem Value:=fun
  | .tmp t=>pure (a.tmps.getD t undef)
  | .cell b t=>do loadVar t (← asAddr (a.tmps.getD b undef))
 have d:∀ r∈rs,∃ v,(f r).run P w = .ok v w∧R w0 M w v (Zcw P e st r):=by
  intro r c
  have:=hrs r c
  cases r with
  | tmp t=>exact ⟨_,rfl,A5 h (x := .tmp t) this⟩
  | cell b t =>
   obtain ⟨v,k,l⟩:=Vz h t (.tmp b) this
   exact ⟨v,k,l⟩
 classical
 let g:ResultVar→Value:=fun r=>if c:r∈rs then Classical.choose (d r c) else undef
 have j:∀ r∈rs,(f r).run P w = .ok (g r) w∧R w0 M w (g r) (Zcw P e st r):=by
  intro r c
  have:=Classical.choose_spec (d r c)
  have e:g r=Classical.choose (d r c):=by simp only [g,dif_pos c]
  rw [e];exact this
 have m:(fn.results.mapM f).run P w = .ok ((rs.map g).toArray) w:=by
  rw [hfn,Array.mapM_eq_mapM_toList]
  simp only [Sem.run_map,O5 f g rs (fun r c=>(j r c).1),Result.andThen_ok]
 have i:(results fn a.tmps).run P w = .ok (if h:(rs.map g).toArray.size=1 then (rs.map g).toArray[0] else .tuple (rs.map g).toArray) w:=by
  unfold results
  simp only [Sem.run_bind]
  refine Eq.trans (congrArg (fun x=>Result.andThen x _) m) ?_
  simp only [Result.andThen_ok,Sem.run_pure]
 refine ⟨_,i,?_⟩
 exact R.pubS mk (UZ rs g fun r c=>(j r c).2)
theorem L0 (mk:List Bool) {f:FuncId} {fn:Func} {c:Code} {args:List AV} {rs:List ResultVar} {Post:AV→St→Prop} (hf:P.funcs[f]? = some fn) (hb:fn.body=some c) (hrs:fn.results=rs.toArray) (hn:fn.ntmps=n)
  (hen:KI P f) (ha:args.length≤n)
  (h:∀ (M0:Mem) (W0:World),M0.N=st.boxes.length→M0.NR=st.rows.length→M0.NL=st.loops.length→Calm st.boxes.length st.rows.length st.loops.length st→(∀ x∈args,Under st.boxes.length st.rows.length st.loops.length x) →
   Eb P w0 n M0 W0 none c (Zi1 mk P rs Post) (AB 0 args) st):ACalls P w0 f args st Post:=by
 refine ⟨hen,fun M w a b d=>?_⟩
 have F:a.size=args.length:=d.1
 have E:∀ x∈args,Under st.boxes.length st.rows.length st.loops.length x:=by
  intro x J
  obtain ⟨i,u,rfl⟩:=List.mem_iff_getElem.1 J
  have:=(d.get (i:=i) (Array.getElem?_eq_getElem (by omega)) (List.getElem?_eq_getElem u)).under
  rwa [b.N,b.NR,b.loop.NL] at this
 have l:Rel w0 n M (AB 0 args) st { tmps:=a++Array.replicate (fn.ntmps-a.size) undef,defers:=[] } w:=by
  refine ⟨b,by simp;omega,fun s x hs=>?_⟩
  obtain ⟨i,j,y,q,rfl⟩:=Qu _ _ _ _ hs
  have u:i<args.length:=(Ak.1 q).1
  have hs':s=i:=by omega
  subst hs'
  simp only [entryOk,if_true]
  have U:(a++Array.replicate (fn.ntmps-a.size) undef).getD s undef=a[s]'(by omega):=by
   simp [Array.getD_eq_getD_getElem?,Array.getElem?_append_left (show s<a.size by omega),Array.getElem?_eq_getElem (show s<a.size by omega)]
  rw [U]
  exact d.get (Array.getElem?_eq_getElem (by omega)) q
 refine TG (n:=0) (callsIn_of_wp_marks hf hb trivial (wpIn_mono (h M w b.N b.NR b.loop.NL b.calm E 0 M _ w ⟨l,.refl _ _ _,[],by simp⟩) ?_))
 rintro ex o C ⟨M',p,k,j,m⟩
 have e:∀ (t:∀ r∈rs,Wa P p k r) (D:Post (pubS mk (Zap (rs.map (Zcw P p k)))) k),
   LeavesInM (FW none) 0 P fn o.tmps (Comes' w0 M w Post) o.defers .returning C:=by
  intro t D
  obtain ⟨Ds,H,Q,O⟩:=j.marks
  rw [Q]
  refine NM Ds M' C H O b.base_le j.rel.st j.ext fun K z G k3=>?_
  have g:Rel w0 n M' p k o K:=⟨z,j.rel.size,fun s x hs=>by
   have:=j.rel.env s x hs
   unfold entryOk at *
   split
   ·rename_i c;rw [Ai c] at this;exact k3 _ _ this
   ·rename_i c;rw [Aj c] at this;exact this⟩
  obtain ⟨v,q1,q2⟩:=Zbp mk g hrs t
  exact ⟨v,q1,v,M',_,k,rfl,D,G,z,q2⟩
 cases ex with
 | normal=>exact e m.1 m.2
 | ret=>exact e m.1 m.2
 | _=>exact m.elim
end
end Go.Ev
namespace Go.Ev
open Go Go.RowKit Go.Shelf Go.Sort Go.Lib Go.Proofs
section
variable {P:Program} {w0:World} {M:Mem} {w:World} {st:St}
theorem RelSt.turn {α:Type} [Inhabited α] (h:RelSt w0 M st w) {id ver:Nat} {cs cs':List AV} (hid:st.rows[id]? = some (.vec ver 1 cs)) (enc:α→Value) (D:Array α) {w':World} {q:Nat} {os:Array Obj}
  (hw:w'=grow (putRow enc (Go.Sort.ahead w q) (M.blk id) 0 D) os) (hD:D.size≤M.cap id) (hle:cs'.length≤D.size) (hone:∀ x∈cs',x.one=true) (hR:∀ i (h2:i<cs'.length),R w0 M w (enc D[i]!) cs'[i]) :
  Ext w0 M w M w'∧RelSt w0 M { st with rows:=st.rows.set id (.vec ver 1 cs') } w':=by
 obtain ⟨t,F,v,E,y,u,z,c,ty,m,n,s,r,o⟩:=h.row id _ hid
 have j:M.blk id<w.heap.size:=(Array.getElem?_eq_some_iff.1 m).1
 have a:w'.heap=w.heap.modify (M.blk id) (onCells (putCells enc 0 D))++os:=by rw [hw];rfl
 have f:w'.os=w.os∧w'.tape=w.tape∧w'.output=w.output:=by rw [hw];exact ⟨rfl,rfl,rfl⟩
 have d:∀ b,b<w.heap.size→b≠M.blk id→w'.heap[b]? = w.heap[b]? := fun b k l=>by
  rw [a,Array.getElem?_append_left (by simpa using k),Array.getElem?_modify,Aj (fun q=>l q.symm)]
 have g:(putCells enc 0 D c).size=c.size:=by simp [putCells]
 refine h.setVec (c':=putCells enc 0 D c) (ty:=ty) hid ⟨f.1,f.2.1,f.2.2,by rw [a];simp,fun b k=>d b (Nat.lt_of_lt_of_le k h.base_le) (by omega)⟩ d
  (by rw [a,Array.getElem?_append_left (by simpa using j),Array.getElem?_modify,Ai rfl,m];rfl) (by rw [g];exact n) (by rw [g,n];omega) hone (fun i C h2=>?_)
 have p:i<D.size:=by omega
 have e:(putCells enc 0 D c)[i]=enc D[i]! := by
  simp only [putCells,Array.getElem_mapIdx,Nat.zero_le,true_and,Nat.zero_add,Ai p,Nat.sub_zero]
 rw [e]
 exact hR i h2
abbrev bl (x:ByteArray):List UInt8:=x.data.toList
theorem RelSt.holdsStr (h:RelSt w0 M st w) {id ver:Nat} {xs:List ByteArray} (hid:st.rows[id]? = some (.vec ver 1 (xs.map fun x => .val (.string x)))) :
  Holds encStr w (M.blk id) 0 (xs.map bl).toArray∧M.blk id<w.heap.size:=by
 obtain ⟨s,t,m,r,q,u,o,c,p,d,n,i,l,a⟩:=h.row id _ hid
 refine ⟨fun j f=>?_,(Array.getElem?_eq_some_iff.1 d).1⟩
 have b:j<xs.length:=by simpa using f
 have g:j<(xs.map fun x=>(.val (.string x):AV)).length:=by simpa using b
 have e:j<c.size:=by omega
 have:=a j e g
 simp only [List.getElem_map] at this
 have ev:=this.val_inv.1
 have k:(xs.map bl).toArray[j]! = xs[j].data.toList:=by
  rw [getElem!_pos _ j f];simp
 rw [k]
 refine ⟨?_,?_⟩
 ·simp only [World.cell?,d,Nat.zero_add,id_eq]
  rw [Array.getElem?_eq_getElem e,ev]
  simp [encStr]
 ·simp [World.frozen?,d]
def sv (x:ByteArray):AV := .val (.string x)
def MJ (xs:List ByteArray):List ByteArray:=((xs.map bl).mergeSort fun x y=>decide (x≤y)).map fun l=>⟨l.toArray⟩
def J0 (xs:List ByteArray):List ByteArray:=(Lib.compact (xs.map bl)).map fun l=>⟨l.toArray⟩
theorem NP (xs:List ByteArray):(MJ xs).length=xs.length:=by simp [MJ]
theorem Zdl {xs:List ByteArray} {x:ByteArray} (h:x∈MJ xs):x∈xs:=by
 simp only [MJ,List.mem_map,List.mem_mergeSort] at h
 obtain ⟨l,⟨y,a,rfl⟩,rfl⟩:=h
 exact a
theorem ZaG {zs:List (List UInt8)} {x:List UInt8} (h:x∈Lib.compact zs):x∈zs:=by
 unfold Lib.compact Lib.compactUpTo at h
 obtain ⟨j,b,rfl⟩:=List.mem_map.1 h
 have a:=List.mem_range.1 (List.mem_filter.1 b).1
 rw [getElem!_pos zs.toArray j (by simpa using a)]
 simp
theorem Zc9 {xs:List ByteArray} {x:ByteArray} (h:x∈J0 xs):x∈xs:=by
 simp only [J0,List.mem_map] at h
 obtain ⟨l,a,rfl⟩:=h
 obtain ⟨y,b,rfl⟩:=List.mem_map.1 (ZaG a)
 exact b
theorem ZaA {v:Value} (h:R w0 M w v (.list [] .seed)):∃ p cap,v = .slice p 0 cap:=by
 generalize hx:AV.list [] .seed=x at h
 cases h<;>try cases hx
 ·exact ⟨_,_,rfl⟩
 ·exact ⟨_,_,rfl⟩
 ·exact ⟨_,_,rfl⟩
theorem RelSt.strLen (h:RelSt w0 M st w) {id ver:Nat} {xs:List ByteArray} (hid:st.rows[id]? = some (.vec ver 1 (xs.map sv))):∀ x∈xs,GN (.string x)=true:=by
 obtain ⟨q,r,j,n,p,s,l,c,m,o,k,d,g,a⟩:=h.row id _ hid
 intro x b
 obtain ⟨i,f,rfl⟩:=List.mem_iff_getElem.1 b
 have e:i<(xs.map sv).length:=by simpa using f
 have:=a i (by omega) e
 simp only [List.getElem_map,sv] at this
 exact this.val_inv.2
theorem Us {vals:Array Value} {x:AV} (h:RowR w0 M w vals [x]):∃ v,vals = #[v]∧R w0 M w v x:=by
 have hs:=h.1
 match vals,hs with
 | ⟨[a]⟩,_=>exact ⟨a,rfl,h.2 0 (by simp) (by simp)⟩
section
variable {ρ:Ren} {Rw rows:List RowA} {l:List (Nat × Nat × Own)} {ho:Own} {v:List VE} {o:VO} {xs:List ByteArray}
theorem ZeW (w0:World) (L:Lays.n190 P ρ) (hen:KI P (ρ.f 190)) (hO:Owns Rw rows l ho ((o,1,xs.map sv)::v)) (hn:xs.length<4611686018427387904) :
  ∃ rows',Owns Rw rows' l ho ((o,1,(MJ xs).map sv)::v)∧∀ (B:Aq) (Ls:Av),ACalls P w0 (ρ.f 190) [Ks o xs.length] ⟨B,rows,Ls⟩ fun r s=>r = .tup []∧s=⟨B,rows',Ls⟩:=by
 by_cases hx:xs=[]
 ·subst hx
  refine ⟨rows,by rw [show MJ []=[] by simp [MJ]];exact hO,fun B Ls=>⟨hen,fun M w d b a=>?_⟩⟩
  obtain ⟨t,rfl,h0⟩:=Us a
  obtain ⟨p,cap,rfl⟩:∃ p cap,t = .slice p 0 cap:=by
   cases o with
   | nil=>exact ZaA h0
   | row id ver=>cases h0;exact ⟨_,_,rfl⟩
  refine (Any.slices_Sort_string_none L p cap w).mono ?_
  rintro en F ⟨rfl,rfl⟩
  exact ⟨_,M,.tup [],_,rfl,⟨rfl,rfl⟩,.refl _ _ _,b,.tup rfl (fun i j _=>absurd j (by simp))⟩
 ·obtain ⟨id,ver,rfl,a⟩:∃ id ver,o = .row id ver∧rows[id]? = some (.vec ver 1 (xs.map sv)):=by
   rcases hO.veach _ (List.mem_cons_self ..) with q | ⟨id,ver,q1,_,q3⟩
   ·exact absurd (List.map_eq_nil_iff.1 q.2) hx
   ·exact ⟨id,ver,q1,q3⟩
  refine ⟨_,hO.setV ver ((MJ xs).map sv),fun B Ls=>⟨hen,fun M w d b c=>?_⟩⟩
  obtain ⟨t,rfl,h0⟩:=Us c
  obtain ⟨G,g⟩:=b.holdsStr (xs:=xs) a
  have k:=b.strLen a
  have z:=(b.row id _ a).1
  cases h0 with
  | @vec _ _ _ _ p cap hi hver hh =>
  obtain ⟨rfl,n,K⟩:=hh z.symm
  have E:(some ⟨M.blk id,0*M.rsz id,none⟩:Option Addr)=some ⟨M.blk id,0,none⟩:=by rw [Nat.zero_mul]
  rw [E]
  have m:=Any.slices_Sort_string L (M.blk id) 0 cap (xs.map bl) w G g (by simpa using hn)
  rw [List.length_map] at m
  refine m.mono ?_
  rintro en F ⟨rfl,q,J,rfl⟩
  obtain ⟨D,u⟩:=b.turn (cs':=(MJ xs).map sv) a encStr ((xs.map bl).mergeSort fun x y=>decide (x≤y)).toArray rfl (by simp;omega) (by simp [NP]) (fun x hx=>by
    obtain ⟨y,_,rfl⟩:=List.mem_map.1 hx;rfl) (fun i C=>by
    have h:i<(MJ xs).length:=by simpa using C
    have H:i<((xs.map bl).mergeSort fun x y=>decide (x≤y)).toArray.size:=by simpa [NP] using h
    rw [getElem!_pos _ i H]
    have e:encStr (((xs.map bl).mergeSort fun x y=>decide (x≤y)).toArray[i]) = .string (MJ xs)[i]:=by simp [MJ,encStr]
    rw [e,List.getElem_map]
    exact .flat (k _ (Zdl (List.getElem_mem _))))
  exact ⟨.tuple #[],M,.tup [],_,rfl,⟨rfl,rfl⟩,D,u,.tup rfl (fun i j _=>absurd j (by simp))⟩
theorem ZfN (w0:World) (L:Lays.n194 P ρ) (hen:KI P (ρ.f 194)) (hO:Owns Rw rows l ho ((o,1,xs.map sv)::v)) (hn:xs.length<4611686018427387904) :
  ∃ rows',Owns Rw rows' l ho ((o,1,(J0 xs).map sv)::v)∧∀ (B:Aq) (Ls:Av),ACalls P w0 (ρ.f 194) [Ks o xs.length] ⟨B,rows,Ls⟩ fun r s=>r=Ks o (J0 xs).length∧s=⟨B,rows',Ls⟩:=by
 by_cases hx:xs=[]
 ·subst hx
  refine ⟨rows,hO,fun B Ls=>⟨hen,fun M w g b a=>?_⟩⟩
  obtain ⟨n,rfl,h0⟩:=Us a
  obtain ⟨p,cap,rfl⟩:∃ p cap,n = .slice p 0 cap:=by
   cases o with
   | nil=>exact ZaA h0
   | row id ver=>cases h0;exact ⟨_,_,rfl⟩
  refine (Any.slices_Compact_string_empty L p cap w).mono ?_
  rintro en w' ⟨rfl,rfl⟩
  exact ⟨_,M,_,_,rfl,⟨rfl,rfl⟩,.refl _ _ _,b,h0⟩
 ·obtain ⟨id,ver,rfl,a⟩:∃ id ver,o = .row id ver∧rows[id]? = some (.vec ver 1 (xs.map sv)):=by
   rcases hO.veach _ (List.mem_cons_self ..) with q | ⟨id,ver,q1,_,q3⟩
   ·exact absurd (List.map_eq_nil_iff.1 q.2) hx
   ·exact ⟨id,ver,q1,q3⟩
  refine ⟨_,hO.setV ver ((J0 xs).map sv),fun B Ls=>⟨hen,fun M w g b d=>?_⟩⟩
  obtain ⟨n,rfl,h0⟩:=Us d
  obtain ⟨J,t⟩:=b.holdsStr (xs:=xs) a
  have m:=b.strLen a
  have C:=(b.row id _ a).1
  cases h0 with
  | @vec _ _ _ _ p cap hi hver hh =>
  obtain ⟨rfl,j,H⟩:=hh C.symm
  have G:(some ⟨M.blk id,0*M.rsz id,none⟩:Option Addr)=some ⟨M.blk id,0,none⟩:=by rw [Nat.zero_mul]
  have k:=Any.slices_Compact_string L (M.blk id) 0 cap (xs.map bl) w J (by simp;omega) (by simpa using H)
  rw [List.length_map] at k
  have E:(Lib.compact (xs.map bl)).length≤xs.length:=by have:=Lib.compact_length_le (xs.map bl);simpa using this
  have c:(J0 xs).length=(Lib.compact (xs.map bl)).length:=by simp [J0]
  rw [←G] at k
  refine k.mono ?_
  rintro en w' ⟨rfl,q,u⟩
  obtain ⟨F,z⟩:=b.turn (cs':=(J0 xs).map sv) (q:=q) (os := #[]) (w':=w') a encStr (Lib.compact (xs.map bl)++List.replicate (xs.length-(Lib.compact (xs.map bl)).length) []).toArray (by rw [grow_empty,u]) (by simp;omega) (by simp [c]) (fun x hx=>by
    obtain ⟨y,_,rfl⟩:=List.mem_map.1 hx;rfl) (fun i D=>by
    have h:i<(Lib.compact (xs.map bl)).length:=by simpa [c] using D
    have K:i<(Lib.compact (xs.map bl)++List.replicate (xs.length-(Lib.compact (xs.map bl)).length) []).toArray.size:=by simp;omega
    rw [getElem!_pos _ i K]
    have e:encStr ((Lib.compact (xs.map bl)++List.replicate (xs.length-(Lib.compact (xs.map bl)).length) []).toArray[i]) = .string ((J0 xs)[i]'(by rw [c];exact h)):=by
     simp only [encStr,J0,List.getElem_toArray,List.getElem_map,List.getElem_append_left h]
    rw [e,List.getElem_map]
    exact .flat (m _ (Zc9 (List.getElem_mem _))))
  refine ⟨_,M,.vec id ver 0 (J0 xs).length,_,rfl,⟨rfl,rfl⟩,F,z,?_⟩
  rw [c]
  exact .vec hi hver fun hv=>⟨rfl,j,by omega⟩
end
end
end Go.Ev
namespace Go.Proofs.YtmcnjijeocmkgaaGreatDoor
open Go Go.RowKit Go.Ev
@[go_sem] theorem Zmj (n:Nat):Ks .nil n = .list [] .seed:=rfl
theorem ZiY (xs:List ByteArray):(xs.flatMap fun x=>(BE x).cells)=xs.map sv:=by
 induction xs with
 | nil=>rfl
 | cons x r ih=>rw [List.flatMap_cons,ih];rfl
theorem Zi5 (l m:List ByteArray):(l.flatMap fun x=>(BE x).cells)++(m.map BE).flatMap (fun y=>y.pub.cells)=(l++m).flatMap fun x=>(BE x).cells:=by
 rw [List.flatMap_append,List.flatMap_map];rfl
def ZbL (x:List UInt8):List (List UInt8)→List (List UInt8)
 | []=>[x]
 | y::r=>if decide (x≤y)=true then x::y::r else y::ZbL x r
def Vj:List (List UInt8)→List (List UInt8)
 | []=>[]
 | x::r=>ZbL x (Vj r)
theorem SC (x:List UInt8):∀ l,(ZbL x l).Perm (x::l)
 | []=>List.Perm.refl _
 | y::r=>by
  unfold ZbL
  split
  ·exact List.Perm.refl _
  ·exact ((SC x r).cons y).trans (List.Perm.swap _ _ _)
theorem TT:∀ l,(Vj l).Perm l
 | []=>List.Perm.refl _
 | x::r=>(SC x _).trans ((TT r).cons x)
theorem Zb0 (x:List UInt8):∀ l:List (List UInt8),l.Pairwise (fun a b=>a≤b)→(ZbL x l).Pairwise (fun a b=>a≤b)
 | [],_=>by simp [ZbL]
 | y::r,h=>by
  obtain ⟨d,e⟩:=List.pairwise_cons.1 h
  unfold ZbL
  split
  ·rename_i c
   have c:x≤y:=of_decide_eq_true c
   refine List.pairwise_cons.2 ⟨fun z hz=>?_,h⟩
   rcases List.mem_cons.1 hz with rfl | hz
   ·exact c
   ·exact List.le_trans c (d z hz)
  ·rename_i c
   have c:y≤x:=by
    rcases List.le_total x y with q | q
    ·exact absurd (Ah q) c
    ·exact q
   refine List.pairwise_cons.2 ⟨fun z hz=>?_,Zb0 x r e⟩
   rcases List.mem_cons.1 ((SC x r).mem_iff.1 hz) with rfl | hz
   ·exact c
   ·exact d z hz
theorem Xn:∀ l,(Vj l).Pairwise (fun a b=>a≤b)
 | [] => .nil
 | x::r=>Zb0 x _ (Xn r)
theorem ZcQ (l:List (List UInt8)):(l.mergeSort fun x y=>decide (x≤y))=Vj l:=by
 refine List.Perm.eq_of_pairwise (le:=fun a b=>a≤b) (fun a b _ _ d e=>List.le_antisymm d e) ?_ (Xn l) ((List.mergeSort_perm l _).trans (TT l).symm)
 have:=List.pairwise_mergeSort (le:=fun x y:List UInt8=>decide (x≤y)) (fun a b c d e=>Ah (List.le_trans (of_decide_eq_true d) (of_decide_eq_true e))) (fun a b=>by
  rcases List.le_total a b with q | q<;>simp [q]) l
 exact this.imp fun h=>of_decide_eq_true h
def Lc (xs:List ByteArray):List ByteArray:=(Vj (xs.map bl)).map fun l=>⟨l.toArray⟩
theorem ZaF (xs:List ByteArray):MJ xs=Lc xs:=by rw [MJ,ZcQ];rfl
theorem I1 (xs:List ByteArray):(Lc xs).length=xs.length:=by rw [←ZaF,NP]
section
variable (w0:World) {Rw rows:List RowA} {l:List (Nat × Nat × Ev.Own)} {ho:Ev.Own} {v:List VE} {o:VO} {xs:List ByteArray}
theorem ZQ (hO:Owns Rw rows l ho ((o,1,xs.flatMap fun x=>(BE x).cells)::v)) (hn:xs.length<4611686018427387904) :
  ∃ rows',Owns Rw rows' l ho ((o,1,(Lc xs).flatMap fun x=>(BE x).cells)::v)∧∀ (B:Aq) (Ls:Av),ACalls Tryz.prog w0 159 [Ks o xs.length] ⟨B,rows,Ls⟩ fun r s=>r = .tup []∧s=⟨B,rows',Ls⟩:=by
 rw [ZiY] at hO ⊢
 rw [←ZaF]
 exact ZeW w0 Tryz.laysSortS (AL Tryz.func159 rfl (by decide)) hO hn
theorem Zy (hO:Owns Rw rows l ho ((o,1,xs.flatMap fun x=>(BE x).cells)::v)) (hn:xs.length<4611686018427387904) :
  ∃ rows',Owns Rw rows' l ho ((o,1,(J0 xs).flatMap fun x=>(BE x).cells)::v)∧∀ (B:Aq) (Ls:Av),ACalls Tryz.prog w0 160 [Ks o xs.length] ⟨B,rows,Ls⟩ fun r s=>r=Ks o (J0 xs).length∧s=⟨B,rows',Ls⟩:=by
 rw [ZiY] at hO ⊢
 exact ZfN w0 Tryz.laysComp (AL Tryz.func160 rfl (by decide)) hO hn
end
def Jg (g:Int) (b:Bool):(Int × Int) :=
 if b then
  (3,3)
 else
  if decide (g=25) then
   (2,256)
  else
   (2,2)
def CL (g:Int) (b:Bool):(Int × Int) :=
 if b then
  (1,1)
 else
  if decide (g=21) then
   Jg g true
  else
   Jg g (decide (g=24))
def GB (b:Int) (g:Bool):(Int × Int) :=
 if g then
  (0,0)
 else
  if decide (b=3) then
   CL b true
  else
   if decide (b=16) then
    CL b true
   else
    if decide (b=18) then
     CL b true
    else
     if decide (b=19) then
      CL b true
     else
      if decide (b=20) then
       CL b true
      else
       if decide (b=27) then
        CL b true
       else
        CL b (decide (b=28))
def Ge (b:Int):(Int × Int) :=
 if decide (b=1) then
  GB b true
 else
  if decide (b=2) then
   GB b true
  else
   if decide (b=22) then
    GB b true
   else
    GB b (decide (b=26))
theorem Wv (w0:World) (B:Aq) (Rw:Aw) (L:Av) (a0:Int) (r:Int × Int) (h:Ge a0=r) :
  ACalls Tryz.prog w0 300 [Am a0] ⟨B,Rw,L⟩ fun x st=>x = .tup [Am r.1,Am r.2]∧st=⟨B,Rw,L⟩:=by
 rw [Ge] at h
 refine hd [.tmp 2,.tmp 3] Tryz.func300 Tryz.ntmps300 fun M0 W0 k i g b p j hs=>?_
 simp only [AB]
 refine rg [0] hs ?_
 apply An;intro K2 n
 refine rg [4] hs ?_
 apply Ar
 refine AA (fun e st=>∃ (f:Bool),Ck e st B Rw L [(4,true,Am a0),(5,true,.val (.bool f))] [] [] (GB a0 f=r)) ?_ ?_
 ·intro K6 o
  exact go (tg (a:=([4,5],([4,5],()),[4,5],([4,5],()),[4,5],([4,5],()),[4,5],()))) h hs k i g b j trivial (q1 o)
 ·clear h;rintro e st ⟨f,Xk5,Rk5,rfl,rfl,j,h⟩
  rw [GB] at h
  refine td k i g b j ?_
  refine BL h hs ?_ ?_<;>intro hs h
  ·refine rg [2,3] hs ?_
   exact rT h hs b j
  refine AA (fun e st=>∃ (c:Bool),Ck e st B Rw L [(4,true,Am a0),(10,true,.val (.bool c))] [] [] (CL a0 c=r)) ?_ ?_
  ·intro K17 m
   exact go (tg (a:=([4,10],([4,10],()),[4,10],([4,10],()),[4,10],([4,10],()),[4,10],([4,10],()),[4,10],([4,10],()),[4,10],([4,10],()),[4,10],()))) h hs k i g b j trivial (q1 m)
  ·clear h;rintro e st ⟨c,Xk16,Rk16,rfl,rfl,j,h⟩
   rw [CL] at h
   refine td k i g b j ?_
   refine BL h hs ?_ ?_<;>intro hs h
   ·refine rg [2,3] hs ?_
    exact rT h hs b j
   refine AA (fun e st=>∃ (d:Bool),Ck e st B Rw L [(4,true,Am a0),(18,true,.val (.bool d))] [] [] (Jg a0 d=r)) ?_ ?_
   ·intro K34 l
    exact go (tg (a:=([4,18],([4,18],()),[4,18],()))) h hs k i g b j trivial (q1 l)
   ·clear h;rintro e st ⟨d,Xk33,Rk33,rfl,rfl,j,h⟩
    rw [Jg] at h
    exact go (tg (a:=(([2,3],()),[21],([2,3],()),[],[2,3],()))) h hs k i g b j trivial (q1 n)
theorem UF (w0:World) (B:Aq) (Rw:Aw) (L:Av) (a0:Int) :
  ACalls Tryz.prog w0 300 [Am a0] ⟨B,Rw,L⟩ fun x st=>x = .tup [Am ((Ge a0).1),Am ((Ge a0).2)]∧st=⟨B,Rw,L⟩:=Wv w0 B Rw L a0 _ rfl
def DU (b:Part):Bool :=
 decide (b.kind=3)
theorem Qf (w0:World) (B:Aq) (Rw:Aw) (L:Av) (a0:Part) (r:Bool) (h:DU a0=r) :
  ACalls Tryz.prog w0 303 [.agg (Am a0.kind::(Am a0.index::([.val (.string a0.name)])))] ⟨B,Rw,L⟩ fun x st=>x = .val (.bool r)∧st=⟨B,Rw,L⟩:=by
 rw [DU] at h
 refine hd [.tmp 2] Tryz.func303 Tryz.ntmps303 fun M0 W0 e d c a f b hs=>?_
 simp only [AB]
 refine rg [1] hs ?_
 refine rg [2] hs ?_
 exact rT h hs a b
theorem PU (w0:World) (B:Aq) (Rw:Aw) (L:Av) (a0:Part) :
  ACalls Tryz.prog w0 303 [.agg (Am a0.kind::(Am a0.index::([.val (.string a0.name)])))] ⟨B,Rw,L⟩ fun x st=>x = .val (.bool (DU a0))∧st=⟨B,Rw,L⟩:=Qf w0 B Rw L a0 _ rfl
def JX (b:Int):Bool :=
 (decide (1≤b))&&(decide (b≤7))
theorem Wb (w0:World) (B:Aq) (Rw:Aw) (L:Av) (a0:Int) (r:Bool) (h:JX a0=r) :
  ACalls Tryz.prog w0 338 [Am a0] ⟨B,Rw,L⟩ fun x st=>x = .val (.bool r)∧st=⟨B,Rw,L⟩:=by
 rw [JX] at h
 refine hd [.tmp 2] Tryz.func338 Tryz.ntmps338 fun M0 W0 e d c a f b hs=>?_
 simp only [AB]
 refine rg [0] hs ?_
 refine rg [2] hs ?_
 exact rT h hs a b
theorem T0 (w0:World) (B:Aq) (Rw:Aw) (L:Av) (a0:Int) :
  ACalls Tryz.prog w0 338 [Am a0] ⟨B,Rw,L⟩ fun x st=>x = .val (.bool (JX a0))∧st=⟨B,Rw,L⟩:=Wb w0 B Rw L a0 _ rfl
def GT (n:Nat) (h:List Vl):Option Int :=
 if decide ((h.length:Int)=0) then
  some (4)
 else
  if decide ((h.length:Int)=1) then
   (BJ h 0).bind fun g =>
   (HL n g).bind fun b =>
   if !(decide (b=0)) then
    some (b)
   else
    if !(JX g.kind) then
     some (18)
    else
     some (0)
  else
   some (3)
theorem Qp (w0:World) (hT:Lib.Utf8Tabs 2 3 w0) (n:Nat) (B:Aq) (Rw:Aw) (L:Av) (a0:List Vl) (r:Int) (h:GT n a0=some r) :
  ACalls Tryz.prog w0 302 [.list (a0.map Dw) .none] ⟨B,Rw,L⟩ fun x st=>x=Am r∧st=⟨B,Rw,L⟩:=by
 rw [GT] at h
 refine hd [.tmp 2] Tryz.func302 Tryz.ntmps302 fun M0 W0 f d c b g e hs=>?_
 simp only [AB]
 exact go (tg (a:=([0],[0,5],[0,5,6],([2],()),[0,8],([0,3],[0,3,15],([2],()),[0],[22],([2],()),[],[2],()),[],[2],()))) h hs f d c b e (q2 (QP w0 hT n) (T0 w0)) trivial
def GG (b:Int):Bool :=
 ((decide (b=2))||(decide (b=22)))||(decide (b=26))
theorem US (w0:World) (B:Aq) (Rw:Aw) (L:Av) (a0:Int) (r:Bool) (h:GG a0=r) :
  ACalls Tryz.prog w0 180 [Am a0] ⟨B,Rw,L⟩ fun x st=>x = .val (.bool r)∧st=⟨B,Rw,L⟩:=by
 rw [GG] at h
 refine hd [.tmp 2] Tryz.func180 Tryz.ntmps180 fun M0 W0 e d c a f b hs=>?_
 simp only [AB]
 refine rg [0] hs ?_
 refine rg [2] hs ?_
 exact rT h hs a b
theorem KJ (w0:World) (B:Aq) (Rw:Aw) (L:Av) (a0:Int) :
  ACalls Tryz.prog w0 180 [Am a0] ⟨B,Rw,L⟩ fun x st=>x = .val (.bool (GG a0))∧st=⟨B,Rw,L⟩:=US w0 B Rw L a0 _ rfl
def H5 (b:Int):Bool :=
 (decide (b=15))||(decide (b=26))
theorem V0 (w0:World) (B:Aq) (Rw:Aw) (L:Av) (a0:Int) (r:Bool) (h:H5 a0=r) :
  ACalls Tryz.prog w0 301 [Am a0] ⟨B,Rw,L⟩ fun x st=>x = .val (.bool r)∧st=⟨B,Rw,L⟩:=by
 rw [H5] at h
 refine hd [.tmp 2] Tryz.func301 Tryz.ntmps301 fun M0 W0 e d c a f b hs=>?_
 simp only [AB]
 refine rg [0] hs ?_
 refine rg [2] hs ?_
 exact rT h hs a b
theorem Om (w0:World) (B:Aq) (Rw:Aw) (L:Av) (a0:Int) :
  ACalls Tryz.prog w0 301 [Am a0] ⟨B,Rw,L⟩ fun x st=>x = .val (.bool (H5 a0))∧st=⟨B,Rw,L⟩:=V0 w0 B Rw L a0 _ rfl
def Ej (n:Nat) (b:Ex):Option Int :=
 if (H5 b.op)&&((decide (b.int<0))||(decide (12<b.int))) then
  some (2)
 else
  some (0)
def Gp (n:Nat) (b:Ex):Option Int :=
 if (decide (b.op<1))||(decide (28<b.op)) then
  some (11)
 else
  if (((!(decide (b.op=1)))&&(decide (0<(b.value.length:Int))))||((!(GG b.op))&&(!(Fv b.text (⟨#[]⟩:ByteArray)))))||((!(H5 b.op))&&(!(decide (b.int=0)))) then
   some (3)
  else
   if (decide (((Ge b.op).2)=0))&&(decide (0<(b.args.length:Int))) then
    some (3)
   else
    if decide ((b.args.length:Int)<((Ge b.op).1)) then
     some (4)
    else
     if (decide (((Ge b.op).2)<(b.args.length:Int)))&&(!(decide (b.op=25))) then
      some (3)
     else
      if decide (b.op=1) then
       (GT n b.value).bind fun h =>
       some (h)
      else
       if GG b.op then
        (Df n b.text).bind fun g =>
        if !(decide (g.2=0)) then
         some (g.2)
        else
         (Bc n g.1 (fun (y:Part)=>some (DU y))).bind fun q =>
         if q != (decide (b.op=26)) then
          some (22)
         else
          Ej n b 
       else
        Ej n b 
theorem SS (w0:World) (hE:JF w0) (hM:Jz w0) (hP:Pow10 w0) (hT:Lib.Utf8Tabs 2 3 w0) (n:Nat) (B:Aq) (Rw:Aw) (L:Av) (a0:Ex) (r:Int) (h:Gp n a0=some r) :
  ACalls Tryz.prog w0 242 [.agg (a0.cs)] ⟨B,Rw,L⟩ fun x st=>x=Am r∧st=⟨B,Rw,L⟩:=by
 rw [Gp] at h
 refine hd [.tmp 2] Tryz.func242 Tryz.ntmps242 fun M0 W0 s k j b y c hs=>?_
 simp only [AB]
 refine rg [1] hs ?_
 apply An;intro K2 l
 refine rg [1,15] hs ?_
 refine BL h hs ?_ ?_<;>intro hs h
 ·refine rg [2] hs ?_
  exact rt h hs b c
 refine sk [1] hs l ?_
 clear l
 refine rc 2 [1,3,4] hs ?_;intro K6 q
 refine Ax _ (UF w0 _ _ _ a0.op) (hv hs) ?_
 refine ne hs q ?_
 clear q
 refine AA (fun e st=>Ck e st B Rw L [(1,true,.box B.length 0)] [a0.cs] [] (Ej n a0  = some r)) ?_ ?_
 ·intro K9 m
  apply Ar
  refine rc 3 [1,3,4,22] hs ?_;intro K10 d
  refine QJ _ (fun _=>KJ w0 _ _ _ a0.op) (hv hs) ?_
  refine nc hs ?_
  refine QJ _ (fun _=>Om w0 _ _ _ a0.op) (hv hs) ?_
  refine ne hs d ?_
  clear d
  refine BL h hs ?_ ?_<;>intro hs h
  ·refine rg [2] hs ?_
   exact rt h hs b c
  refine rg [1,3,4,54] hs ?_
  refine BL h hs ?_ ?_<;>intro hs h
  ·refine rg [2] hs ?_
   exact rt h hs b c
  refine rg [1,4,63] hs ?_
  refine BL h hs ?_ ?_<;>intro hs h
  ·refine rg [2] hs ?_
   exact rt h hs b c
  refine rg [1,69] hs ?_
  refine BL h hs ?_ ?_<;>intro hs h
  ·refine rg [2] hs ?_
   exact rt h hs b c
  refine rg [1,80] hs ?_
  refine BL h hs ?_ ?_<;>intro hs h
  ·exact go (tg (a:=([2],()))) h hs s k j b c (q1 (Qp w0 hT n)) trivial
  refine rc 2 [1,87] hs ?_;intro K26 g
  refine Ax _ (KJ w0 _ _ _ a0.op) (hv hs) ?_
  refine ne hs g ?_
  clear g
  refine BL h hs ?_ ?_<;>intro hs h
  ·obtain ⟨t,o,h⟩:=bind_some h
   refine rc 2 [1,5,6] hs ?_;intro K28 f
   refine Ax _ (F7 w0 hE hM hP n _ _ _ a0.text _ o) (hv hs) ?_
   refine ne hs f ?_
   clear f
   apply An;intro K30 i
   refine rg [1,5,6,98] hs ?_
   refine BL h hs ?_ ?_<;>intro hs h
   ·refine rg [2] hs ?_
    exact rt h hs b c
   refine sk [1,5] hs i ?_
   clear i
   obtain ⟨u,hy35,h⟩:=bind_some h
   refine rc 2 [1,7] hs ?_;intro K34 p
   refine Ax _ (DT w0 n _ _ _ t.1 303 [] (fun (x0:Part)=>some (DU x0)) (fun x0 r hx z rows' w v=>by cases hx;exact PU w0 _ _ _ x0) _ hy35) (hv hs) ?_
   exact go (tg (a:=([1,106],([2],()),[1],()))) h hs s k j b c trivial (q2 p m)
  refine sk [1] hs m ?_
  exact ⟨([]),Rw,ef hs,ef hs,c,h⟩
 ·clear h;rintro e st ⟨Xk8,Rk8,rfl,rfl,c,h⟩
  rw [Ej] at h
  exact go (tg (a:=([119],([2],()),[],[2],()))) h hs s k j b c (q1 (Om w0)) trivial
def Jv (rec:Ex→Int→Int→Option (Int × Int)) (n:Nat)  (pla2_k19:Int):Option (Int × Int) :=
 some ((0,pla2_k19))
def Di (rec:Ex→Int→Int→Option (Int × Int)) (n:Nat) (q:Ex) (h:Int):Nat→Int→Int→Option (Int × Int)
 | 0,_,_=>none
 | m+1,b,pla2_l22 =>
  if decide (b<(q.args.length:Int)) then
   (BJ q.args b).bind fun y =>
   if A9 (h+1) then
    (rec y (h+1) pla2_l22).bind fun g =>
    if !(decide (g.1=0)) then
     some ((g.1,g.2))
    else
     if A9 (b+1) then
      (Di rec n q h m) (b+1) g.2
     else none
   else none
  else
   Jv rec n pla2_l22
def Jj (rec:Ex→Int→Int→Option (Int × Int)) (n:Nat) (q:Ex) (h:Int) (b:Int):Option (Int × Int) :=
 if decide (b=256) then
  some ((9,b))
 else
  if A9 (b+1) then
   if decide (8<h) then
    some ((23,b+1))
   else
    (Gp n q).bind fun g =>
    if !(decide (g=0)) then
     some ((g,b+1))
    else
     Di rec n q h n 0 (b+1)
  else none
def EG:Nat→Ex→Int→Int→Option (Int × Int)
 | 0,_,_,_=>none
 | n+1,h,g,b=>Jj (EG n) n h g b
def L2 (w0:World) (F:Ex→Int→Int→Option (Int × Int)):Prop:=∀ (B:Aq) (Rw:Aw) (L:Av) (h:Ex) (g:Int) (la2:Nat) (b:Int) (hla2:B[la2]? = some ([Am b])) (la3:Nat) (hla3:B[la3]? = some [.clo 241 [.box la2 0,.box la3 0]]) (r:Int × Int),F h g b=some r→ACalls Tryz.prog w0 241 [.agg (h.cs),Am g,.box la2 0,.box la3 0] ⟨B,Rw,L⟩ fun x st=>x=Am r.1∧st=⟨(B.set la2 [Am r.2]),Rw,L⟩
theorem Rk (w0:World) (hE:JF w0) (hM:Jz w0) (hP:Pow10 w0) (hT:Lib.Utf8Tabs 2 3 w0) (rec:Ex→Int→Int→Option (Int × Int)) (ih:L2 w0 rec) (n:Nat):L2 w0 (Jj rec n):=by
 intro B Rw L a0 a1 u a2 p C j r h
 rw [Jj] at h
 refine hd [.tmp 6] Tryz.func241 Tryz.ntmps241 fun M0 W0 D o l c hu t hs=>?_
 simp only [AB]
 have Z:=(Ak.1 p).1
 have Y:=(Ak.1 j).1
 have i:u≠C:=fun q=>by have k:=p;rw [q,j] at k;cases k
 have hs:=Ae (As p) hs
 have hs:=Ae (As j) hs
 have hs:=Ae (A6 j i) hs
 refine rg [1,2,3,4] hs ?_
 apply An;intro K2 F
 refine rg [1,2,3,4,12] hs ?_
 refine BL h hs ?_ ?_<;>intro hs h
 ·have ab:=hs.1
  refine rg [6] hs ?_
  exact rt h hs c t
 have ab:=hs.1
 refine sk [1,2,3,4] hs F ?_
 clear F
 obtain ⟨ai,h⟩:=Au h
 refine rg [1,3,4] hs ?_
 apply An;intro K8 N
 refine rg [1,3,4,16] hs ?_
 refine BL h hs ?_ ?_<;>intro hs h
 ·have O:=hs.1
  exact go (tg (a:=([6],()))) h hs D o l c t trivial trivial
 have O:=hs.1
 refine sk [1,3,4] hs N ?_
 clear N
 apply An;intro K12 w
 obtain ⟨ag,G,h⟩:=bind_some h
 refine rc 2 [1,3,4,7] hs ?_;intro K13 v
 refine Ax _ (SS w0 hE hM hP hT n _ _ _ a0 _ G) (hv hs) ?_
 refine ne hs v ?_
 clear v
 refine rg [1,3,4,7,20] hs ?_
 refine BL h hs ?_ ?_<;>intro hs h
 ·have V:=hs.1
  exact go (tg (a:=([6],()))) h hs D o l c t trivial trivial
 have V:=hs.1
 refine sk [1,3,4] hs w ?_
 clear w
 refine AA (fun e st=>∃ (d:Int) (Xk19:Aq) (Rk19:Aw),e=[]∧st=⟨(B.set u ([Am d]))++([a0.cs]++Xk19),Rk19,L⟩∧Owns Rw Rk19 []∧Jv rec n d=some r) ?_ ?_
 ·intro K20 E
  refine rg [1,3,23,24,25] hs ?_
  apply Ar
  refine Az (fun m e st=>∃ (g:Int) (b:Int) (Xl22:Aq) (Rl22:Aw),e=[(1,true,Am a1),(3,true,.box C 0),(23,true,.list (a0.args.map Qq) .none),(24,true,Am (a0.args.length:Int)),(25,true,Am g)]∧st=⟨(B.set u ([Am b]))++([a0.cs]++Xl22),Rl22,L⟩∧Owns Rw Rl22 []∧Di rec n a0 a1 m g b=some r) n ⟨0,(a2+1),([]),Rw,ef hs,ef hs,t,h⟩ ?_
  rintro ml22 e st ⟨g,b,Xl22,Rl22,rfl,rfl,t,h⟩ Ul22 Vl22
  cases ml22 with
  | zero=>cases h
  | succ ml22 =>
  rw [Di] at h
  refine A8 D o l ls_ (C6 c ev) t ow ow ?_
  refine rg [1,3,23,24,25,26] hs ?_
  apply An;intro K24 x
  refine BL h hs ?_ ?_<;>intro hs h
  rotate_left
  ·have Q:=hs.1
   refine sx [] hs E ?_
   exact ⟨b,([]),Rl22,ef hs,ef hs,t,h⟩
  have Q:=hs.1
  refine sk [1,3,23,24,25] hs x ?_
  clear x
  apply An;intro K26 U
  apply Ar
  obtain ⟨aa,H,h⟩:=bind_some h
  obtain ⟨ae,ad,y⟩:=AY H
  have z:=AO (f:=Qq) y
  have hs:=Ae z hs
  refine rg [1,3,9,23,24,25] hs ?_
  obtain ⟨af,h⟩:=Au h
  obtain ⟨ah,K,h⟩:=bind_some h
  refine rc 2 [1,3,10,23,24,25] hs ?_;intro K29 J
  refine DL _ (ih _ _ _ aa (a1+1) u b (ef hs) C (ef hs) _ K) (hv hs) ?_;rintro _ _ ⟨rfl,rfl⟩
  exact go (tg (a:=([1,3,10,23,24,25,35],([6],()),[1,3,23,24,25],[1,3,23,24,25],()))) h hs D o l c t trivial (q3 J U (fun e s=>Vl22 ml22 e s (Nat.lt_succ_self _)))
 ·clear h;rintro e st ⟨d,Xk19,Rk19,rfl,rfl,t,h⟩
  rw [Jv] at h
  refine A8 D o l ls_ (C6 c ev) t ow ow ?_
  exact go (tg (a:=([6],()))) h hs D o l c t trivial trivial
theorem Ov (w0:World) (hE:JF w0) (hM:Jz w0) (hP:Pow10 w0) (hT:Lib.Utf8Tabs 2 3 w0):∀ n:Nat,L2 w0 (EG n)
 | 0=>fun _ _ _ _ _ _ _ _ _ _ _ h=>(nomatch h)
 | n+1=>Rk w0 hE hM hP hT (EG n) (Ov w0 hE hM hP hT n) n
def HM (n:Nat) (g:Ex):Option Int :=
 (EG n g 1 0).bind fun b =>
 some (b.1)
theorem PY (w0:World) (hE:JF w0) (hM:Jz w0) (hP:Pow10 w0) (hT:Lib.Utf8Tabs 2 3 w0) (n:Nat) (B:Aq) (Rw:Aw) (L:Av) (a0:Ex) (r:Int) (h:HM n a0=some r) :
  ACalls Tryz.prog w0 161 [.agg (a0.cs)] ⟨B,Rw,L⟩ fun x st=>x=Am r∧st=⟨B,Rw,L⟩:=by
 rw [HM] at h
 refine hd [.tmp 2] Tryz.func161 Tryz.ntmps161 fun M0 W0 i f e a j d hs=>?_
 simp only [AB]
 refine rg [1] hs ?_
 refine rg [1,3] hs ?_
 refine rg [1,3,4] hs ?_
 refine rg [1,4] hs ?_
 obtain ⟨g,c,h⟩:=bind_some h
 refine rc 2 [2] hs ?_;intro K5 b
 refine DL _ (Ov w0 hE hM hP hT n _ _ _ a0 1 (B.length+1) 0 ev (B.length+2) ev _ c) (hv hs) ?_;rintro _ _ ⟨rfl,rfl⟩
 refine ne hs b ?_
 clear b
 exact rt h hs a d
def Dh (rec:Ex→(List ByteArray)→Option ((List ByteArray))) (n:Nat) (q:Ex):Nat→Int→(List ByteArray)→Option ((List ByteArray))
 | 0,_,_=>none
 | m+1,b,pla1_l12 =>
  if decide (b<(q.args.length:Int)) then
   (BJ q.args b).bind fun g =>
   (rec g pla1_l12).bind fun h =>
   if A9 (b+1) then
    (Dh rec n q m) (b+1) h
   else none
  else
   some (pla1_l12)
def EP (rec:Ex→(List ByteArray)→Option ((List ByteArray))) (n:Nat) (b:Ex) (pla1_k3:List ByteArray):Option ((List ByteArray)) :=
 Dh rec n b n 0 pla1_k3
def IW (rec:Ex→(List ByteArray)→Option ((List ByteArray))) (n:Nat) (g:Ex) (b:List ByteArray):Option ((List ByteArray)) :=
 if GG g.op then
  if (b.length+1)*16≤140737488355328∧b.length+1≤4611686018427387904 then
   EP rec n g (b++[g.text])
  else none
 else
  EP rec n g b
def DG:Nat→Ex→(List ByteArray)→Option ((List ByteArray))
 | 0,_,_=>none
 | n+1,g,b=>IW (DG n) n g b
def LZ (w0:World) (F:Ex→(List ByteArray)→Option ((List ByteArray))):Prop:=∀ (B:Aq) (Rw:Aw) (L:Av) (g:Ex) (la1:Nat) (b:List ByteArray) (oa1:VO) (hla1:B[la1]? = some [Ks oa1 b.length]) (hGa1:Owns Rw Rw [] (hOf oa1) [(oa1,1,b.flatMap fun x=>(BE x).cells)]) (la2:Nat) (hla2:B[la2]? = some [.clo 179 [.box la1 0,.box la2 0]]) (r:(List ByteArray)),F g b=some r→ACalls Tryz.prog w0 179 [.agg (g.cs),.box la1 0,.box la2 0] ⟨B,Rw,L⟩ fun x st=>x = .tup []∧∃ (R1:Aw) (o1:VO),st=⟨(B.set la1 [Ks o1 r.length]),R1,L⟩∧Owns Rw R1 [] (hOf oa1) [(o1,1,r.flatMap fun x=>(BE x).cells)]
theorem Re (w0:World) (rec:Ex→(List ByteArray)→Option ((List ByteArray))) (ih:LZ w0 rec) (n:Nat):LZ w0 (IW rec n):=by
 intro B Rw L a0 z a1 oa1 p K y j r h
 rw [IW] at h
 refine ACalls.finG (B6 (rs:=[]) Tryz.func179 rfl rfl Tryz.ntmps179 (AL Tryz.func179 rfl (by decide)) (Nat.le_of_ble_eq_true rfl) ?_)
 intro M0 W0 hN F E o hu
 dsimp only at hN F E o hu
 simp only [AB]
 have l:=K
 have hs:=WY
 have ab:=(Ak.1 p).1
 have aa:=(Ak.1 j).1
 have g:z≠y:=fun q=>by have k:=p;rw [q,j] at k;cases oa1<;>cases k
 have hs:=Ae (As p) hs
 have hs:=Ae (As j) hs
 have hs:=Ae (A6 j g) hs
 refine rg [1,2,3] hs ?_
 refine AA (fun e st=>∃ (c:List ByteArray) (d:VO) (Xk3:Aq) (Rk3:Aw),e=[(2,true,.box y 0),(3,true,.box B.length 0)]∧st=⟨(B.set z ([Ks d c.length]))++([a0.cs]++Xk3),Rk3,L⟩∧Owns Rw Rk3 [] (hOf oa1) [(d,1,c.flatMap fun x=>(BE x).cells)]∧EP rec n a0 c=some r) ?_ ?_
 ·intro K4 Z
  refine rc 2 [1,2,3,8] hs ?_;intro K5 Y
  refine Ax _ (KJ w0 _ _ _ a0.op) (hv hs) ?_
  refine ne hs Y ?_
  clear Y
  refine BL h hs ?_ ?_<;>intro hs h
  ·obtain ⟨V,h⟩:=Au h
   obtain ⟨o8,H,l,v⟩:=l.appendV (P:=Tryz.prog) (n:=a1.length) (m:=1) M7 (by rw [JV];rfl) (by decide) ((Gt (f:=BE) (sz:=1) (fun _=>by simp +decide only [go_sem]) _)) V.1 V.2 [BE a0.text] rfl ((a1++[a0.text]).flatMap fun x=>(BE x).cells) (by simp only [List.flatMap_append,List.flatMap_cons,List.flatMap_nil,List.append_nil,List.nil_append,Zab])
   simp only [List.mem_singleton,forall_eq,Fb,Ft,Fp,Ec,Ed,Fj,CG,Dp,Fq,BX,BW,Du,Dv,Dq,E8,Dt,Fa] at v
   have hs:=Ae v hs
   refine rl [2,3] hs Z ?_
   exact ⟨(a1++[a0.text]),o8,([]),H,ef hs,ef hs,Owns.eqV (l) Ze,h⟩
  refine sk [2,3] hs Z ?_
  exact ⟨a1,oa1,([]),Rw,ef hs,ef hs,Owns.eqV (l) Ze,h⟩
 ·clear h;rintro e st ⟨c,d,Xk3,Rk3,rfl,rfl,l,h⟩
  rw [EP] at h
  have u:=l.underV
  simp only [List.mem_cons,List.not_mem_nil,or_false,forall_eq_or_imp,forall_eq] at u
  refine PP hN F E ls_ (C6 (N6 o l.len) ow) l ow ow ?_ (vu @OR)
  refine rg [2,15,16,17] hs ?_
  apply Ar
  refine Az (fun m e st=>∃ (i:Int) (a:List ByteArray) (b:VO) (Xl12:Aq) (Rl12:Aw),e=[(2,true,.box y 0),(15,true,.list (a0.args.map Qq) .none),(16,true,Am (a0.args.length:Int)),(17,true,Am i)]∧st=⟨(B.set z ([Ks b a.length]))++([a0.cs]++Xl12),Rl12,L⟩∧Owns Rw Rl12 [] (hOf oa1) [(b,1,a.flatMap fun x=>(BE x).cells)]∧Dh rec n a0 m i a=some r) n ⟨0,c,d,([]),Rk3,ef hs,ef hs,Owns.eqV (l) Ze,h⟩ ?_
  rintro ml12 e st ⟨i,a,b,Xl12,Rl12,rfl,rfl,l,h⟩ Ul12 Vl12
  cases ml12 with
  | zero=>cases h
  | succ ml12 =>
  rw [Dh] at h
  have u:=l.underV
  simp only [List.mem_cons,List.not_mem_nil,or_false,forall_eq_or_imp,forall_eq] at u
  refine PP hN F E ls_ (C6 (N6 o l.len) ow) l ow ow ?_ (vu @OR)
  refine rg [2,15,16,17,18] hs ?_
  apply An;intro K14 C
  refine BL h hs ?_ ?_<;>intro hs h
  rotate_left
  ·have t:=hs.1
   refine Lh (Ea [] _) ?_ (DV _ _)
   apply E4;simp +decide only [go_sem,Nat.reduceAdd]
   (repeat' with_reducible apply Ae)<;>first | exact cl | skip
   have hgt:=Option.some.inj h;subst hgt
   have u:=l.underV
   simp only [List.mem_cons,List.not_mem_nil,or_false,forall_eq_or_imp,forall_eq] at u
   refine Zbh l (C6 (N6 o l.len) ow) ls_ ev ⟨?_,_,_,?_,l.sub (List.nil_sublist _)⟩ (vu @OR)
   all_goals first | rfl | (simp +decide only [go_sem,Nat.reduceAdd,As p,As j,A6 j g,t];done) | (simp +decide only [go_sem,Nat.reduceAdd,Vl.cs,Ty.cs,As p,As j,A6 j g,t];done)
  have t:=hs.1
  refine sk [2,15,16,17] hs C ?_
  clear C
  apply An;intro K16 D
  apply Ar
  obtain ⟨Q,O,h⟩:=bind_some h
  obtain ⟨ae,af,G⟩:=AY O
  have J:=AO (f:=Qq) G
  have hs:=Ae J hs
  refine rg [2,5,15,16,17] hs ?_
  obtain ⟨ad,U,h⟩:=bind_some h
  refine rk 2 [2,15,16,17] hs ?_
  refine DL _ (ih _ _ _ Q z a b (ef hs) l.enterV y (ef hs) _ U) (hv hs) ?_;rintro _ _ ⟨rfl,Rg20,N,rfl,w⟩
  have l:=l.callG w
  refine ne hs D ?_
  clear D
  obtain ⟨ag,h⟩:=Au h
  refine rl [2,15,16,17] hs (fun e s=>Vl12 ml12 e s (Nat.lt_succ_self _)) ?_
  exact ⟨(i+1),ad,N,([Q.cs]),Rg20,ef hs,ef hs,Owns.eqV (l) Ze,h⟩
theorem Ol (w0:World):∀ n:Nat,LZ w0 (DG n)
 | 0=>fun _ _ _ _ _ _ _ _ _ _ _ _ h=>(nomatch h)
 | n+1=>Re w0 (DG n) (Ol w0 n) n
def F4 (n:Nat) (g:Ex):Option ((List ByteArray)) :=
 (HM n g).bind fun h =>
 if !(decide (h=0)) then
  some ([])
 else
  (DG n g ([])).bind fun b =>
  if b.length<4611686018427387904 then
   if (Lc b).length<4611686018427387904 then
    some (J0 (Lc b))
   else none
  else none
theorem MX (w0:World) (hE:JF w0) (hM:Jz w0) (hP:Pow10 w0) (hT:Lib.Utf8Tabs 2 3 w0) (n:Nat) (B:Aq) (Rw:Aw) (L:Av) (a0:Ex) (r:(List ByteArray)) (h:F4 n a0=some r) :
  ACalls Tryz.prog w0 99 [.agg (a0.cs)] ⟨B,Rw,L⟩ fun x st=>x = .list (r.map BE) .none∧st=⟨B,Rw,L⟩:=by
 rw [F4] at h
 refine hd [.tmp 2] Tryz.func99 Tryz.ntmps99 fun M0 W0 F C z b D a hs=>?_
 simp only [AB]
 refine rg [1] hs ?_
 apply An;intro K2 k
 obtain ⟨E,v,h⟩:=bind_some h
 refine rc 2 [1,7] hs ?_;intro K3 m
 refine Ax _ (PY w0 hE hM hP hT n _ _ _ a0 _ v) (hv hs) ?_
 refine ne hs m ?_
 clear m
 refine BL h hs ?_ ?_<;>intro hs h
 ·refine rg [2] hs ?_
  exact rt h hs b a
 refine sk [1] hs k ?_
 clear k
 refine rg [1,3] hs ?_
 refine rg [1,3,4] hs ?_
 refine rg [1,3,4] hs ?_
 apply An;intro K10 g
 refine Q0 (B.length+1) 0 (by simp only [E3,Dx,Eu,C7];rfl) rfl ?_;simp +decide only [go_sem,Nat.reduceAdd,List.set_cons_zero,List.set_cons_succ]
 have a:=a.nilV 1
 obtain ⟨w,p,h⟩:=bind_some h
 refine rk 2 [3] hs ?_
 refine DL _ (Ol w0 n _ _ _ a0 (B.length+1) ([]) .nil (ef hs) a.enterV (B.length+2) (ef hs) _ p) (hv hs) ?_;rintro _ _ ⟨rfl,Rg13,y,rfl,c⟩
 have a:=a.callG c
 refine ne hs g ?_
 clear g
 apply An;intro K15 e
 obtain ⟨q,h⟩:=Au h
 obtain ⟨u,a,j⟩:=ZQ w0 a q
 have l:=I1 w
 refine Ns 0 (by decide) ?_
 have hs:=Ae l hs
 refine rk 2 [3] hs ?_
 refine LD [false] _ (j _ _) (hv hs) ?_;rintro _ _ ⟨rfl,rfl⟩
 refine ne hs e ?_
 clear e
 apply An;intro K20 d
 obtain ⟨o,h⟩:=Au h
 obtain ⟨s,a,i⟩:=Zy w0 a o
 refine Ns 0 (by decide) ?_
 refine rk 2 [2] hs ?_
 refine LD [false] _ (i _ _) (hv hs) ?_;rintro _ _ ⟨rfl,rfl⟩
 refine ne hs d ?_
 clear d
 refine Yz 2 (by first | rfl | (simp only [PS,List.length_set];rfl)) a false (.inr rfl) (by decide) ((Gt (f:=BE) (sz:=1) (fun _=>by simp +decide only [go_sem]) _)) (QR (f:=BE) (fun _=>rfl) _) (fun t a=>?_)
 simp +decide only [go_sem,Nat.reduceAdd,List.set_cons_zero,List.set_cons_succ]
 exact rt h hs b a
def IC (n:Nat)  (b:List ByteArray):Option ((List ByteArray)) :=
 if b.length<4611686018427387904 then
  if (Lc b).length<4611686018427387904 then
   some (J0 (Lc b))
  else none
 else none
def Gi (n:Nat) (y:List (ByteArray × Ex)):Nat→(List ByteArray)→Int→Option ((List ByteArray))
 | 0,_,_=>none
 | m+1,g,b =>
  if decide (b<(y.length:Int)) then
   (BJ y b).bind fun q =>
   (F4 n q.2).bind fun h =>
   if (g.length+h.length)*16≤140737488355328∧g.length+h.length≤4611686018427387904 then
    if A9 (b+1) then
     (Gi n y m) (g++h) (b+1)
    else none
   else none
  else
   IC n g
def I2 (n:Nat) (b:List (ByteArray × Ex)):Option ((List ByteArray)) :=
 Gi n b n ([]) 0
theorem Qw (w0:World) (hE:JF w0) (hM:Jz w0) (hP:Pow10 w0) (hT:Lib.Utf8Tabs 2 3 w0) (n:Nat) (B:Aq) (Rw:Aw) (L:Av) (a0:List (ByteArray × Ex)) (r:(List ByteArray)) (h:I2 n a0=some r) :
  ACalls Tryz.prog w0 69 [.agg ([.list (a0.map A7) .none])] ⟨B,Rw,L⟩ fun x st=>x = .list (r.map BE) .none∧st=⟨B,Rw,L⟩:=by
 rw [I2] at h
 refine hd [.tmp 2] Tryz.func69 Tryz.ntmps69 fun M0 W0 hN K J k hu d hs=>?_
 simp only [AB]
 refine rg [1] hs ?_
 refine rg [1,3] hs ?_
 refine AA (fun e st=>∃ (c:List ByteArray) (i:VO) (Xk4:Aq) (Rk4:Aw),e=[(3,true,Ks i c.length)]∧st=⟨B++([[.list (a0.map A7) .none]]++Xk4),Rk4,L⟩∧Owns Rw Rk4 [] .none [(i,1,c.flatMap fun x=>(BE x).cells)]∧IC n c=some r) ?_ ?_
 ·intro K5 ad
  refine rg [3,7,8,9] hs ?_
  apply Ar
  refine Vo 3 rfl ?_
  refine Lh (Ea [3,7,8,9] _) ?_ (DV _ _);simp +decide only [go_sem,Nat.reduceAdd]
  have d:=d.nilV 1
  refine Az (fun m e st=>∃ (a:List ByteArray) (g:Int) (b:VO) (Xl7:Aq) (Rl7:Aw),e=[(3,true,Ks b a.length),(7,true,.list (a0.map A7) .none),(8,true,Am (a0.length:Int)),(9,true,Am g)]∧st=⟨B++([[.list (a0.map A7) .none]]++Xl7),Rl7,L⟩∧Owns Rw Rl7 [] .none [(b,1,a.flatMap fun x=>(BE x).cells)]∧Gi n a0 m a g=some r) n ⟨([]),0,.nil,([]),Rw,ef hs,ef hs,Owns.eqV (d) Ze,h⟩ ?_
  rintro ml7 e st ⟨a,g,b,Xl7,Rl7,rfl,rfl,d,h⟩ Ul7 Vl7
  cases ml7 with
  | zero=>cases h
  | succ ml7 =>
  rw [Gi] at h
  have z:=d.underV
  simp only [List.mem_cons,List.not_mem_nil,or_false,forall_eq_or_imp,forall_eq] at z
  refine A8 hN K J rfl k d ow ow ?_ (vu @OR)
  refine rg [3,7,8,9,10] hs ?_
  apply An;intro K10 p
  refine BL h hs ?_ ?_<;>intro hs h
  rotate_left
  ·refine sx [3] hs ad ?_
   exact ⟨a,b,([]),Rl7,ef hs,ef hs,Owns.eqV (d) Ze,h⟩
  refine sk [3,7,8,9] hs p ?_
  clear p
  apply An;intro K12 q
  apply Ar
  obtain ⟨D,O,h⟩:=bind_some h
  obtain ⟨aa,Z,w⟩:=AY O
  have E:=AO (f:=A7) w
  have hs:=Ae E hs
  refine rg [3,5,7,8,9] hs ?_
  obtain ⟨j,G,h⟩:=bind_some h
  obtain ⟨t,h⟩:=Au h
  obtain ⟨ab,l,d,v⟩:=d.appendV (P:=Tryz.prog) (n:=a.length) (m:=j.length) M7 (by rw [JV];rfl) (by decide) ((Gt (f:=BE) (sz:=1) (fun _=>by simp +decide only [go_sem]) _)) t.1 t.2 (j.map BE) (by rw [List.length_map]) ((a++j).flatMap fun x=>(BE x).cells) (Zi5 a j)
  have Q:(a++j).length=a.length+j.length:=List.length_append
  have hs:=Ae v hs
  have hs:=Ae Q hs
  refine rk 2 [3,7,8,9] hs ?_
  refine Ax _ (MX w0 hE hM hP hT n _ _ _ D.2 _ G) (hv hs) ?_
  refine ne hs q ?_
  clear q
  obtain ⟨ae,h⟩:=Au h
  refine rl [3,7,8,9] hs (fun e s=>Vl7 ml7 e s (Nat.lt_succ_self _)) ?_
  exact ⟨(a++j),(g+1),ab,([.val (.string D.1)::(D.2.cs)]),l,ef hs,ef hs,Owns.eqV (d) Ze,h⟩
 ·clear h;rintro e st ⟨c,i,Xk4,Rk4,rfl,rfl,d,h⟩
  rw [IC] at h
  have z:=d.underV
  simp only [List.mem_cons,List.not_mem_nil,or_false,forall_eq_or_imp,forall_eq] at z
  refine A8 hN K J rfl k d ow ow ?_ (vu @OR)
  apply An;intro K22 o
  obtain ⟨N,h⟩:=Au h
  obtain ⟨U,d,C⟩:=ZQ w0 d N
  have F:=I1 c
  refine Ns 0 (by decide) ?_
  have hs:=Ae F hs
  refine rk 2 [3] hs ?_
  refine LD [false] _ (C _ _) (hv hs) ?_;rintro _ _ ⟨rfl,rfl⟩
  refine ne hs o ?_
  clear o
  apply An;intro K27 u
  obtain ⟨H,h⟩:=Au h
  obtain ⟨V,d,y⟩:=Zy w0 d H
  refine Ns 0 (by decide) ?_
  refine rk 2 [2] hs ?_
  refine LD [false] _ (y _ _) (hv hs) ?_;rintro _ _ ⟨rfl,rfl⟩
  refine ne hs u ?_
  clear u
  refine Yz 2 (by first | rfl | (simp only [PS,List.length_set];rfl)) d false (.inr rfl) (by decide) ((Gt (f:=BE) (sz:=1) (fun _=>by simp +decide only [go_sem]) _)) (QR (f:=BE) (fun _=>rfl) _) (fun Y d=>?_)
  simp +decide only [go_sem,Nat.reduceAdd,List.set_cons_zero,List.set_cons_succ]
  exact rt h hs k d
def Gf (n:Nat)  : Option Int :=
 some ((-1))
def Bz (n:Nat) (h:List ByteArray) (y:ByteArray→Option Bool):Nat→Int→Option Int
 | 0,_=>none
 | m+1,b =>
  if decide (b<(h.length:Int)) then
   (BJ h b).bind fun q =>
   (y q).bind fun g =>
   if g then
    some (b)
   else
    if A9 (b+1) then
     (Bz n h y m) (b+1)
    else none
  else
   Gf n 
def EJ (n:Nat) (g:List ByteArray) (b:ByteArray→Option Bool):Option Int :=
 Bz n g b n 0
theorem NQ (w0:World) (n:Nat) (B:Aq) (Rw:Aw) (L:Av) (a0:List ByteArray) (fa1:FuncId) (ca1:List AV) (a1:ByteArray→Option Bool) (ha1:∀ (x0:ByteArray) r,a1 x0=some r→∀ B' rows,B <+: B'→Rw <+: rows→ACalls Tryz.prog w0 fa1 ([.val (.string x0)]++ca1) ⟨B',rows,L⟩ fun v s=>v = .val (.bool r)∧s=⟨B',rows,L⟩) (r:Int) (h:EJ n a0 a1=some r) :
  ACalls Tryz.prog w0 183 [.list (a0.map BE) .none,.clo fa1 ca1] ⟨B,Rw,L⟩ fun x st=>x=Am r∧st=⟨B,Rw,L⟩:=by
 rw [EJ] at h
 refine hd [.tmp 4] Tryz.func183 Tryz.ntmps183 fun M0 W0 j i g c l f hs=>?_
 simp only [AB]
 have b:=Cf (l (.clo fa1 ca1) (by simp))
 refine rg [0,1] hs ?_
 refine AA (fun e st=>Ck e st B Rw L [] [] [] (Gf n  = some r)) ?_ ?_
 ·intro K4 k
  refine rg [0,1,7,8] hs ?_
  apply Ar
  refine Az (fun m e st=>∃ (d:Int),Ck e st B Rw L [(0,true,.list (a0.map BE) .none),(1,true,.clo fa1 ca1),(7,true,Am (a0.length:Int)),(8,true,Am d)] [] [] (Bz n a0 a1 m d=some r)) n ⟨0,([]),Rw,ef hs,ef hs,f,h⟩ ?_
  rintro ml6 e st ⟨d,Xl6,Rl6,rfl,rfl,f,h⟩ Ul6 Vl6
  cases ml6 with
  | zero=>cases h
  | succ ml6 =>
  rw [Bz] at h
  refine A8 j i g rfl c f (P0 b f) (P0 b f) ?_
  exact go (tg (a:=([0,1,7,8,9],([0,1,7,8],[0,1,5,7,8],[0,1,5,7,8,16],([4],()),[0,1,7,8],[0,1,7,8],()),[],()))) h hs j i g c f (q1 ha1) (q2 k (fun e s=>Vl6 ml6 e s (Nat.lt_succ_self _)))
 ·clear h;rintro e st ⟨Xk3,Rk3,rfl,rfl,f,h⟩
  rw [Gf] at h
  refine A8 j i g rfl c f (P0 b f) (P0 b f) ?_
  refine rg [4] hs ?_
  exact rt h hs c f
def B7 (n:Nat) (h:List ByteArray) (b:ByteArray→Option Bool):Option Bool :=
 (EJ n h b).bind fun g =>
 some (decide (0≤g))
theorem MA (w0:World) (n:Nat) (B:Aq) (Rw:Aw) (L:Av) (a0:List ByteArray) (fa1:FuncId) (ca1:List AV) (a1:ByteArray→Option Bool) (ha1:∀ (x0:ByteArray) r,a1 x0=some r→∀ B' rows,B <+: B'→Rw <+: rows→ACalls Tryz.prog w0 fa1 ([.val (.string x0)]++ca1) ⟨B',rows,L⟩ fun v s=>v = .val (.bool r)∧s=⟨B',rows,L⟩) (r:Bool) (h:B7 n a0 a1=some r) :
  ACalls Tryz.prog w0 181 [.list (a0.map BE) .none,.clo fa1 ca1] ⟨B,Rw,L⟩ fun x st=>x = .val (.bool r)∧st=⟨B,Rw,L⟩:=by
 rw [B7] at h
 refine hd [.tmp 4] Tryz.func181 Tryz.ntmps181 fun M0 W0 m l j b k g hs=>?_
 simp only [AB]
 have e:=Cf (k (.clo fa1 ca1) (by simp))
 refine rg [0,1] hs ?_
 obtain ⟨o,d,h⟩:=bind_some h
 refine rc 2 [4] hs ?_;intro K2 c
 refine Ax _ (NQ w0 n _ _ _ a0 fa1 ca1 a1 (fun x0 r i f a q1 q2=>ha1 x0 r i f a (List.IsPrefix.trans px q1) (g.pre.trans q2)) _ d) (hv hs) ?_
 refine ne hs c ?_
 clear c
 exact rt h hs b g
theorem ZeG (n:Nat) (l:List Part) (f:Part→Option Bool) (p:Part→Bool) (hf:∀ x∈l,f x=some (p x)) (hl:l.length≤1000000000):∀ (k m i:Nat),i+k=l.length→k<m→BO n l f m i=some (PT p l i)
 | k,0,i,_,h=>absurd h (Nat.not_lt_zero _)
 | 0,m+1,i,hi,_=>by
  rw [BO,AH,Ac,JO p l i (by omega)]
  rfl
 | k+1,m+1,i,hi,hm=>by
  have a:i<l.length:=by omega
  rw [BO,AH,Ah a,H3 p l i a]
  simp only [if_true,AK a,Af,hf _ (List.getElem_mem a)]
  by_cases h:p l[i]=true
  ·rw [Ai h,Ai h]
  ·rw [Aj h,Aj h,Ai (AG (by omega))]
   exact ZeG n l f p hf hl k m (i+1) (by omega) (by omega)
theorem Zen (n:Nat) (l:List (List Part)) (f:List Part→Option Bool) (p:List Part→Bool) (hf:∀ x∈l,f x=some (p x)) (hl:l.length≤1000000000):∀ (k m i:Nat),i+k=l.length→k<m→BF n l f m i=some (PT p l i)
 | k,0,i,_,h=>absurd h (Nat.not_lt_zero _)
 | 0,m+1,i,hi,_=>by
  rw [BF,AH,Ac,JO p l i (by omega)]
  rfl
 | k+1,m+1,i,hi,hm=>by
  have a:i<l.length:=by omega
  rw [BF,AH,Ah a,H3 p l i a]
  simp only [if_true,AK a,Af,hf _ (List.getElem_mem a)]
  by_cases h:p l[i]=true
  ·rw [Ai h,Ai h]
  ·rw [Aj h,Aj h,Ai (AG (by omega))]
   exact Zen n l f p hf hl k m (i+1) (by omega) (by omega)
theorem Zer (n:Nat) (l:List ByteArray) (f:ByteArray→Option Bool) (p:ByteArray→Bool) (hf:∀ x∈l,f x=some (p x)) (hl:l.length≤1000000000):∀ (k m i:Nat),i+k=l.length→k<m→Bz n l f m i=some (PT p l i)
 | k,0,i,_,h=>absurd h (Nat.not_lt_zero _)
 | 0,m+1,i,hi,_=>by
  rw [Bz,AH,Ac,JO p l i (by omega)]
  rfl
 | k+1,m+1,i,hi,hm=>by
  have a:i<l.length:=by omega
  rw [Bz,AH,Ah a,H3 p l i a]
  simp only [if_true,AK a,Af,hf _ (List.getElem_mem a)]
  by_cases h:p l[i]=true
  ·rw [Ai h,Ai h]
  ·rw [Aj h,Aj h,Ai (AG (by omega))]
   exact Zer n l f p hf hl k m (i+1) (by omega) (by omega)
theorem Q5 (n:Nat) (l:List Part) (f:Part→Option Bool) (p:Part→Bool) (hf:∀ x∈l,f x=some (p x)) (hl:l.length≤1000000000) (hn:l.length<n):Bc n l f=some (l.any p):=by
 have e:FA n l f=some (PT p l 0):=ZeG n l f p hf hl l.length n 0 (by omega) hn
 rw [Bc,e,Af,MM]
theorem Q7 (n:Nat) (l:List (List Part)) (f:List Part→Option Bool) (p:List Part→Bool) (hf:∀ x∈l,f x=some (p x)) (hl:l.length≤1000000000) (hn:l.length<n):Ba n l f=some (l.any p):=by
 have e:DD n l f=some (PT p l 0):=Zen n l f p hf hl l.length n 0 (by omega) hn
 rw [Ba,e,Af,MM]
theorem XU (n:Nat) (l:List ByteArray) (f:ByteArray→Option Bool) (p:ByteArray→Bool) (hf:∀ x∈l,f x=some (p x)) (hl:l.length≤1000000000) (hn:l.length<n):B7 n l f=some (l.any p):=by
 have e:EJ n l f=some (PT p l 0):=Zer n l f p hf hl l.length n 0 (by omega) hn
 rw [B7,e,Af,MM]
def Ip (f:Part→Part→Bool):List Part→List Part→Bool
 | x::a,y::b=>f x y&&Ip f a b
 | _,_=>true
theorem ON (f:Part→Part→Bool) (a:List Part):Ip f a []=true:=by cases a<;>rfl
theorem SU (f:Part→Part→Bool):∀ (b a:List Part),Ip f (a.take b.length) b=Ip f a b
 | [],a=>by rw [ON,ON]
 | y::b,[]=>rfl
 | y::b,x::a=>by rw [List.length_cons,List.take_succ_cons,Ip,Ip,SU f b a]
theorem PO (f:Part→Part→Bool) {a b:List Part} {i:Nat} (ha:i<a.length) (hb:i<b.length):Ip f (a.drop i) (b.drop i)=(f a[i] b[i]&&Ip f (a.drop (i+1)) (b.drop (i+1))):=by
 rw [List.drop_eq_getElem_cons ha,List.drop_eq_getElem_cons hb,Ip]
theorem WU (f:Part→Part→Bool) {a b:List Part} {i:Nat} (hb:b.length≤i):Ip f (a.drop i) (b.drop i)=true:=by
 rw [List.drop_eq_nil_of_le hb,ON]
theorem S7 (f:Part→Part→Bool) {a b:List Part} {i:Nat} (hb:a.length≤i):Ip f (a.drop i) (b.drop i)=true:=by
 rw [List.drop_eq_nil_of_le hb];rfl
def WL (x y:Part):Bool:=decide (x.kind=y.kind)&&(decide (x.index=y.index)&&(Fv x.name y.name))
theorem Zcp (n:Nat) (a b:List Part) (h:a.length=b.length) (hl:a.length≤1000000):∀ (k m i:Nat),i+k=a.length→k<m→CQ n a b m i=some (Ip WL (a.drop i) (b.drop i))
 | k,0,i,_,h=>absurd h (Nat.not_lt_zero _)
 | 0,m+1,i,hi,_=>by
  rw [CQ,AH,Ac,Aj (by decide),Hq,S7 _ (by omega)]
 | k+1,m+1,i,hi,hm=>by
  have d:i<a.length:=by omega
  have c:i<b.length:=by omega
  have ih:=Zcp n a b h hl k m (i+1) (by omega) (by omega)
  rw [CQ,AH,Ah d,Ai rfl,AK d,Af,AK c,Af,PO _ d c]
  show (if (!WL a[i] b[i])=true then _ else _)=_
  cases WL a[i] b[i] with
  | false=>rfl
  | true =>
   rw [Aj (by decide),Ai (AG (by omega)),Bool.true_and]
   exact ih
theorem ZeT (n:Nat) (a b:List Part) (h:a.length=b.length) (hl:a.length≤1000000) (hn:a.length<n):EQ n a b=some (Ip WL a b):=by
 rw [EQ,Ad,Aj (by decide)]
 have:=Zcp n a b h hl a.length n 0 (by omega) hn
 rw [List.drop_zero,List.drop_zero] at this
 exact this
def O6 (l f:List Part):Bool:=decide (f.length≤l.length)&&Ip WL l f
theorem Xo (n:Nat) (l f:List Part) (hl:l.length≤1000000) (hn:l.length<n):Em n l f=some (O6 l f):=by
 rw [Em,O6]
 by_cases h:f.length≤l.length
 ·have a:(l.take f.length).length=f.length:=by rw [List.length_take];omega
  rw [Ad,Ai rfl,Ai ⟨by decide,by omega,by omega⟩,ZeT n _ f a (by omega) (by omega),SU,Af,Ah h,Bool.true_and]
 ·rw [Ac,Aj (by decide),Ag h,Bool.false_and]
theorem Zaf (n:Nat) (hn:400≤n) (a:List (ByteArray × Ex)) (ha:a.length≤256):∀ (k m i:Nat) (seen:List (List Part)),i+k=a.length→k<m→seen.length=i→(∀ l∈seen,Vw l)→∃ e,Dc n a m seen i=some e
 | k,0,i,_,_,h,_,_=>absurd h (Nat.not_lt_zero _)
 | 0,m+1,i,s,hi,_,_,_=>by
  rw [Dc,AH,Ac,Aj (by decide)]
  exact ⟨_,rfl⟩
 | k+1,m+1,i,s,hi,hm,hs,hp=>by
  have b:i<a.length:=by omega
  obtain ⟨e,ok⟩:=UA n (by omega) a[i].1
  rw [Dc,AH,Ah b,Ai rfl,AK b,Af,e,Af]
  generalize prs n a[i].1=r at ok ⊢
  by_cases c:r.2=0
  rotate_left
  ·rw [Ag c,Ai (by rfl)];exact ⟨_,rfl⟩
  have d:=ok.1
  rw [Ah c,Aj (by decide),Q5 n r.1 _ (fun x=>Eo x) (fun x _=>rfl) (by omega) (by omega),Af]
  split
  ·exact ⟨_,rfl⟩
  rw [Q7 n s _ (fun o=>O6 r.1 o||O6 o r.1) (fun o ho=>by
   have f:=(hp o ho).1
   rw [FX,Xo n _ _ (by omega) (by omega),Af,Xo n _ _ (by omega) (by omega)]
   cases O6 r.1 o<;>rfl) (by omega) (by omega),Af]
  split
  ·exact ⟨_,rfl⟩
  rw [Ab,Ai (AG (by omega))]
  exact Zaf n hn a ha k m (i+1) _ (by omega) (by omega) (by rw [E6];omega) (Ii hp ok)
theorem ZhD (n:Nat) (hn:400≤n) (a:List (ByteArray × Ex)) (ha:M4 a):∃ e,CS n a=some e:=by
 have:=ha.1
 rw [CS,Aj (by rw [decide_eq_true_eq];omega)]
 exact Zaf n hn a (by omega) a.length n 0 [] (by omega) (by omega) rfl (by simp)
theorem ZeH (n:Nat) (e:Ex):∃ r,Ej n e=some r:=by
 rw [Ej];split<;>exact ⟨_,rfl⟩
theorem Zjd (n:Nat) (hn:1200000≤n) (e:Ex) (hv:∀ v∈e.value,v.size≤1100000∧v.ok):∃ r,Gp n e=some r:=by
 rw [Gp]
 split
 ·exact ⟨_,rfl⟩
 split
 ·exact ⟨_,rfl⟩
 split
 ·exact ⟨_,rfl⟩
 split
 ·exact ⟨_,rfl⟩
 split
 ·exact ⟨_,rfl⟩
 split
 ·rw [GT]
  split
  ·exact ⟨_,rfl⟩
  split
  ·rename_i c
   have c:=of_decide_eq_true c
   obtain ⟨x,a⟩:=List.length_eq_one_iff.1 (show e.value.length=1 by omega)
   obtain ⟨f,b⟩:=hv x (by rw [a];exact List.mem_singleton.2 rfl)
   rw [a,show BJ [x] 0=some x from rfl,Af,U1 n x (by omega) (by have:=x.depth_size;omega) (Ht _ x (Nat.le_refl _) (by omega)) b,Af]
   split
   ·exact ⟨_,rfl⟩
   split<;>exact ⟨_,rfl⟩
  ·exact ⟨_,rfl⟩
 split
 ·obtain ⟨q,ok⟩:=UA n (by omega) e.text
  have d:=ok.1
  rw [q,Af]
  split
  ·exact ⟨_,rfl⟩
  rw [Q5 n _ _ (fun x=>DU x) (fun x _=>rfl) (by omega) (by omega),Af]
  split
  ·exact ⟨_,rfl⟩
  ·exact ZeH n e
 ·exact ZeH n e
theorem Z3 (rec:Ex→Int→Int→Option (Int × Int)) (n:Nat) (e:Ex) (lv:Int) (hlv:A9 (lv+1)) (ha:e.args.length≤4)
  (hr:∀ x∈e.args,∀ c:Int,0≤c→c≤256→∃ r,rec x (lv+1) c=some r∧0≤r.2∧r.2≤256):∀ (k m i:Nat) (c:Int),i+k=e.args.length→k<m→0≤c→c≤256→∃ r,Di rec n e lv m i c=some r∧0≤r.2∧r.2≤256
 | k,0,i,_,_,h,_,_=>absurd h (Nat.not_lt_zero _)
 | 0,m+1,i,c,hi,_,c1,c2=>by
  rw [Di,AH,Ac,Aj (by decide)]
  exact ⟨_,rfl,c1,c2⟩
 | k+1,m+1,i,c,hi,hm,c1,c2=>by
  have a:i<e.args.length:=by omega
  obtain ⟨r,q,d,b⟩:=hr _ (List.getElem_mem a) c c1 c2
  rw [Di,AH,Ah a,Ai rfl,AK a,Af,Ai hlv,q,Af]
  split
  ·exact ⟨_,rfl,d,b⟩
  ·rw [Ai (AG (by omega))]
   exact Z3 rec n e lv hlv ha hr k m (i+1) r.2 (by omega) (by omega) d b
def Ex.bnd:Nat→Ex→Prop
 | 0,_=>False
 | d+1,e=>(∀ v∈e.value,v.size≤1100000∧v.ok)∧e.args.length≤4∧(∀ x∈e.args,Ex.bnd d x)∧e.value.length≤2
theorem Ex.fits.bnd:∀ {d:Nat} {e:Ex},e.fits d→e.bnd d
 | 0,_,h=>h.elim
 | d+1,e,⟨_,f2,f3,f4,f5⟩=>⟨fun v hv=>⟨by have:=(f2 v hv).1;omega,(f2 v hv).2⟩,f3,fun x a=>(f4 x a).bnd,f5⟩
theorem ZiU:∀ (d n:Nat) (e:Ex) (lv c:Int),e.bnd d→1200001+d≤n→0≤lv→lv≤100→0≤c→c≤256→∃ r,EG n e lv c=some r∧0≤r.2∧r.2≤256
 | 0,_,_,_,_,h,_,_,_,_,_=>h.elim
 | d+1,n,e,lv,c,h,hn,l1,l2,b,a=>by
  obtain ⟨n,rfl⟩:∃ q,n=q+1:=⟨n-1,by omega⟩
  obtain ⟨j,f,i,_⟩:=h
  rw [EG,Jj]
  by_cases z:c=256
  ·rw [Ah z,Ai rfl];exact ⟨_,rfl,b,a⟩
  rw [Ag z,Aj (by decide),Ai (by unfold A9;omega)]
  split
  ·exact ⟨_,rfl,by simp only;omega,by simp only;omega⟩
  rename_i q
  have q:¬ 8<lv:=of_decide_eq_false (Bool.eq_false_iff.2 q)
  obtain ⟨r,o⟩:=Zjd n (by omega) e j
  rw [o,Af]
  split
  ·exact ⟨_,rfl,by simp only;omega,by simp only;omega⟩
  exact Z3 (EG n) n e lv (by unfold A9;omega) f (fun x g c b a=>ZiU d n x (lv+1) c (i x g) (by omega) (by omega) (by omega) b a) e.args.length n 0 (c+1) (by omega) (by omega) (by omega) (by omega)
theorem Zic (n d:Nat) (hn:1200002+d≤n) (e:Ex) (h:e.bnd d):∃ r,HM n e=some r:=by
 obtain ⟨r,q,_⟩:=ZiU d n e 1 0 h (by omega) (by decide) (by decide) (by decide) (by decide)
 exact ⟨_,by rw [HM,q];rfl⟩
def RA:Nat→Nat
 | 0=>0
 | d+1=>1+4*RA d
theorem WS (rec:Ex→List ByteArray→Option (List ByteArray)) (n N:Nat) (e:Ex) (ha:e.args.length≤4)
  (hr:∀ x∈e.args,∀ l:List ByteArray,l.length+N≤1000000→∃ r,rec x l=some r∧r.length≤l.length+N):∀ (k m i:Nat) (l:List ByteArray),i+k=e.args.length→k<m→l.length+k*N≤1000000→∃ r,Dh rec n e m i l=some r∧r.length≤l.length+k*N
 | k,0,i,_,_,h,_=>absurd h (Nat.not_lt_zero _)
 | 0,m+1,i,l,hi,_,h=>by
  rw [Dh,AH,Ac,Aj (by decide)]
  exact ⟨_,rfl,by omega⟩
 | k+1,m+1,i,l,hi,hm,h=>by
  have a:i<e.args.length:=by omega
  rw [Nat.add_mul] at h ⊢
  obtain ⟨r,q,b⟩:=hr _ (List.getElem_mem a) l (by omega)
  obtain ⟨w,q2,c⟩:=WS rec n N e ha hr k m (i+1) r (by omega) (by omega) (by omega)
  rw [Dh,AH,Ah a,Ai rfl,AK a,Af,q,Af,Ai (AG (by omega))]
  exact ⟨w,q2,by omega⟩
theorem Zee:∀ (d n:Nat) (e:Ex) (l:List ByteArray),e.fits d→10+d≤n→l.length+RA d≤1000000→∃ r,DG n e l=some r∧r.length≤l.length+RA d
 | 0,_,_,_,h,_,_=>h.elim
 | d+1,n,e,l,h,hn,hl=>by
  obtain ⟨n,rfl⟩:∃ q,n=q+1:=⟨n-1,by omega⟩
  obtain ⟨o,p,c,k,_⟩:=h
  rw [RA] at hl ⊢
  have a:∀ b:List ByteArray,b.length≤l.length+1→∃ r,EP (DG n) n e b=some r∧r.length≤l.length+(1+4*RA d):=fun b j=>by
   rw [EP]
   have m:e.args.length*RA d≤4*RA d:=Nat.mul_le_mul_right _ c
   obtain ⟨r,q,w⟩:=WS (DG n) n (RA d) e c (fun x f g i=>Zee d n x g (k x f) (by omega) i) e.args.length n 0 b (by omega) (by omega) (by omega)
   exact ⟨r,q,by omega⟩
  rw [DG,IW]
  split
  ·rw [Ab]
   exact a _ (by rw [E6];omega)
  ·exact a _ (by omega)
theorem ZdL (l:List ByteArray):(J0 l).length≤l.length:=by
 have:=Lib.compact_length_le (l.map bl)
 rw [List.length_map] at this
 rw [J0,List.length_map];exact this
theorem ZcX (n:Nat) (hn:1200010≤n) (e:Ex) (h:e.fits 4):∃ r,F4 n e=some r∧r.length≤85:=by
 obtain ⟨c,q⟩:=Zic n 4 (by omega) e h.bnd
 rw [F4,q,Af]
 split
 ·exact ⟨_,rfl,by simp⟩
 ·obtain ⟨r,q,w⟩:=Zee 4 n e [] h (by omega) (by decide)
  have w:r.length≤85:=by have:RA 4=85:=rfl;rw [this] at w;simpa using w
  rw [q,Af,Ab,Ai (by rw [I1];omega)]
  have:=ZdL (Lc r)
  rw [I1] at this
  exact ⟨_,rfl,by omega⟩
theorem Rf {α:Type} (p:α→Bool) (l:List α):∀ (k j:Nat),j+k=l.length→(l.drop j).find? p=BJ l (PT p l j)
 | 0,j,h=>by rw [JO p l j (by omega),List.drop_eq_nil_of_le (by omega)];rfl
 | k+1,j,h=>by
  have a:j<l.length:=by omega
  rw [H3 p l j a,List.drop_eq_getElem_cons a,List.find?_cons]
  cases hp:p l[j] with
  | true=>rw [Ai rfl,AK a]
  | false=>rw [Aj (by decide)];exact Rf p l k (j+1) (by omega)
theorem Zfl {α:Type} (p:α→Bool) (l:List α):l.find? p=BJ l (PT p l 0):=Rf p l l.length 0 (by omega)
def MY (t:Ty) (w:ByteArray):Option TF:=t.fields.find? fun x=>Fv x.2.1 w
theorem V2 {t:Ty} {w:ByteArray} {p:TF} (h:MY t w=some p):p∈t.fields∧p.2.1=w:=⟨List.mem_of_find?_eq_some h,(PR _ _).1 (List.find?_some (p:=fun x:TF=>Fv x.2.1 w) h)⟩
def OD:Nat→Ty→Vl→Bool
 | 0,_,_=>false
 | d+1,t,v =>
  if t.kind≠v.kind then false
  else if t.kind=2∨t.kind=6∨t.kind=7 then decide (t.min≤v.int)&&decide (v.int≤t.max)
  else if t.kind=3 then decide (v.scale=t.scale)&&(decide (t.min≤v.int)&&decide (v.int≤t.max))
  else if t.kind=4 then (t.words.any fun x=>Fv x v.text)||(decide ((t.words.length:Int)=0)&&ZE t v.text.size)
  else if t.kind=5 then ZE t v.text.size
  else if t.kind=8 then (v.list.all fun x=>t.elem.all fun e=>OD d e x)&&ZE t v.list.length
  else if t.kind=10 then match MY t v.text with
   | some p=>v.list.all fun x=>OD d p.2.2.2.1 x
   | none=>false
  else if t.kind=9 then (v.fields.all fun q=>match MY t q.1 with
   | some p=>OD d p.2.2.2.1 q.2
   | none=>false) && !(t.fields.any (Zet v))
  else true
theorem Ty.depth_elem {t x:Ty} (hx:x∈t.elem):x.depth<t.depth:=by
 have:=t.depth_eq
 have:=(JC t.elem (Ih t.elem)).1 (Nat.le_refl _) x hx
 omega
theorem Ty.depth_field {t:Ty} {p:TF} (hx:p∈t.fields):p.2.2.2.1.depth<t.depth:=by
 have:=t.depth_eq
 have:=(IF t.fields (Gl t.fields)).1 (Nat.le_refl _) p hx
 omega
theorem Zdq {v:Vl} (gv:v.Good) (vk:v.kind=10):∃ x,v.list=[x]:=by
 obtain ⟨_,a⟩:=Xl (SN gv)
 have q:=SN gv
 rw [Gs] at q
 by_cases p1:F5 v=true
 ·rw [Ai p1] at q;exact absurd q (by decide)
 rw [Aj p1,Aa,Aj a,Aa,Aa,Aa,Aa,Aa,Aa,Aa,Aa,Aa] at q
 by_cases p2:FZ v.text=true
 ·rw [Ai p2] at q
  by_cases p3:v.list.length=0
  ·rw [Ai p3] at q;exact absurd q (by decide)
  rw [Aj p3] at q
  by_cases p4:1<v.list.length
  ·rw [Ai p4] at q;exact absurd q (by decide)
  exact List.length_eq_one_iff.1 (by omega)
 ·rw [Aj p2] at q;exact absurd q (by decide)
def Zlw (d:Nat) (t:Ty) (q:ByteArray × Vl):Bool:=match MY t q.1 with
 | some p=>OD d p.2.2.2.1 q.2
 | none=>false
inductive Ty.Fine:Nat→Ty→Prop
 | mk (d:Nat) (t:Ty) (own:Q3 t=0) (he:∀ x∈t.elem,Ty.Fine d x) (hf:∀ p∈t.fields,Ty.Fine d p.2.2.2.1) (hd:∀ p∈t.fields,∀ v∈p.2.2.2.2,U7 v=0∧OD 12 p.2.2.2.1 v=true):Ty.Fine (d+1) t
theorem Ty.Fine.depth:∀ (d:Nat) (t:Ty),t.Fine d→t.depth≤d
 | 0,t,h=>by cases h
 | d+1,t,h=>by
  cases h with
  | mk _ _ own he hf hd =>
   have b:=(JC t.elem d).2 fun x a=>Ty.Fine.depth d x (he x a)
   have c:=(IF t.fields d).2 fun x a=>Ty.Fine.depth d _ (hf x a)
   have:=t.depth_eq
   omega
theorem Ty.Fine.own {d:Nat} {t:Ty} (h:t.Fine d):Q3 t=0:=by cases h with | mk _ _ a _ _ _=>exact a
theorem Ty.Fine.good:∀ {d:Nat} {t:Ty},t.Fine d→t.Good
 | 0,t,h=>by cases h
 | d+1,t,h=>by
  cases h with
  | mk _ _ own he hf hd=>exact .mk t own (fun x a=>(he x a).good) fun p b=>(hf p b).good
theorem Ty.Fine.elem {d:Nat} {t x:Ty} (h:t.Fine (d+1)) (hx:x∈t.elem):x.Fine d:=by cases h with | mk _ _ _ a _ _=>exact a x hx
theorem Ty.Fine.field {d:Nat} {t:Ty} {p:TF} (h:t.Fine (d+1)) (hx:p∈t.fields):p.2.2.2.1.Fine d:=by cases h with | mk _ _ _ _ a _=>exact a p hx
theorem Zak:∀ l:List Ty,GI l=(l.map Ty.size).sum
 | []=>rfl
 | v::r=>by simp [GI,Zak r]
theorem WW:∀ l:List TF,EI l=(l.map fun p=>p.2.2.2.1.size).sum
 | []=>rfl
 | (_,_,_,v,_)::r=>by simp [EI,WW r]
theorem Zbs (t:Ty):((Jw t).map Ty.size).sum<t.size:=by
 have c:=t.size_eq
 unfold Jw
 split
 ·rw [←Zak];omega
 ·split
  ·rw [List.map_map]
   have:=WW t.fields
   have e:(t.fields.map (Ty.size∘fun p=>p.2.2.2.1)).sum=EI t.fields:=this.symm
   omega
  ·simp;omega
def BK (t:Ty):List (Ty × Part) :=
 if t.kind=8 then t.elem.map fun e=>(e,Part.mk 3 0 ⟨#[]⟩)
 else if t.kind=9 then t.fields.map fun f=>(f.2.2.2.1,Part.mk 1 0 f.2.1)
 else if t.kind=10 then t.fields.map fun f=>(f.2.2.2.1,Part.mk 4 0 f.2.1) else []
theorem QK (t:Ty):(BK t).map Prod.fst=Jw t:=by
 unfold BK Jw
 by_cases h8:t.kind=8
 ·rw [Ai h8,Ai h8,List.map_map];exact List.map_id _
 rw [Aj h8,Aj h8]
 by_cases h9:t.kind=9
 ·rw [Ai h9,Ai (.inl h9),List.map_map];rfl
 rw [Aj h9]
 by_cases h10:t.kind=10
 ·rw [Ai h10,Ai (.inr h10),List.map_map];rfl
 rw [Aj h10,Aa];rfl
theorem Qj (t:Ty):(BK t).length=(Jw t).length:=by rw [←QK,List.length_map]
def lvs:Nat→Ty→List Part→List (List Part)
 | 0,_,_=>[]
 | n+1,t,b=>if (BK t).length=0 then [b] else (BK t).flatMap fun q=>lvs n q.1 (b++[q.2])
theorem ZaC {t:Ty} {q:Ty × Part} (h:q∈BK t):q.1.size<t.size:=by
 unfold BK at h
 split at h
 ·obtain ⟨e,a,rfl⟩:=List.mem_map.1 h;exact t.elem_size e a
 ·split at h
  ·obtain ⟨e,a,rfl⟩:=List.mem_map.1 h;exact t.field_size e a
  ·split at h
   ·obtain ⟨e,a,rfl⟩:=List.mem_map.1 h;exact t.field_size e a
   ·simp at h
theorem RG {t:Ty} {q:Ty × Part} (h:q∈BK t):q.1.depth<t.depth:=by
 have hd:=t.depth_eq
 have c:=(JC t.elem (Ih t.elem)).1 (Nat.le_refl _)
 have b:=(IF t.fields (Gl t.fields)).1 (Nat.le_refl _)
 unfold BK at h
 split at h
 ·obtain ⟨e,a,rfl⟩:=List.mem_map.1 h;have:=c e a;simp only;omega
 ·split at h
  ·obtain ⟨e,a,rfl⟩:=List.mem_map.1 h;have:=b e a;simp only;omega
  ·split at h
   ·obtain ⟨e,a,rfl⟩:=List.mem_map.1 h;have:=b e a;simp only;omega
   ·simp at h
theorem Y7 {t:Ty} (ht:t.small) {q:Ty × Part} (h:q∈BK t):q.1.small:=by
 unfold BK at h
 split at h
 ·obtain ⟨e,a,rfl⟩:=List.mem_map.1 h;exact Ty.small_elem ht a
 ·split at h
  ·obtain ⟨e,a,rfl⟩:=List.mem_map.1 h;exact Ty.small_field ht a
  ·split at h
   ·obtain ⟨e,a,rfl⟩:=List.mem_map.1 h;exact Ty.small_field ht a
   ·simp at h
theorem Ta {t:Ty} (ht:t.Good) {q:Ty × Part} (h:q∈BK t):q.1.Good:=by
 unfold BK at h
 split at h
 ·obtain ⟨e,a,rfl⟩:=List.mem_map.1 h;exact PN ht a
 ·split at h
  ·obtain ⟨e,a,rfl⟩:=List.mem_map.1 h;exact Iu ht a
  ·split at h
   ·obtain ⟨e,a,rfl⟩:=List.mem_map.1 h;exact Iu ht a
   ·simp at h
theorem QC (t:Ty):((BK t).map fun q=>q.1.size).sum<t.size:=by
 have:=Zbs t
 rw [←QK,List.map_map] at this
 exact this
theorem W4 {α β:Type} (f:α→List β) (g:α→Nat):∀ l:List α,(∀ x∈l,(f x).length≤g x)→(l.flatMap f).length≤(l.map g).sum
 | [],_=>by simp
 | x::l,h=>by
  have b:=h x (List.mem_cons_self ..)
  have c:=W4 f g l fun y a=>h y (List.mem_cons_of_mem _ a)
  rw [List.flatMap_cons,List.length_append,List.map_cons,List.sum_cons]
  omega
theorem X6:∀ (n:Nat) (t:Ty) (b:List Part),(lvs n t b).length≤t.size
 | 0,t,_=>by simp [lvs]
 | n+1,t,b=>by
  have a:=t.size_pos
  rw [lvs]
  split
  ·simp only [List.length_cons,List.length_nil];omega
  ·have:=W4 (fun q:Ty × Part=>lvs n q.1 (b++[q.2])) (fun q=>q.1.size) (BK t) fun q _=>X6 n q.1 _
   have:=QC t
   omega
inductive Leads:Ty→List Part→Ty→Prop
 | nil (t:Ty):Leads t [] t
 | cons {t x:Ty} {q:Ty × Part} {l:List Part} (h:q∈BK t) (k:Leads q.1 l x):Leads t (q.2::l) x
theorem WV:∀ (n:Nat) (t:Ty) (b l:List Part),l∈lvs n t b→∃ l' x,l=b++l'∧Leads t l' x∧BK x=[]∧l'.length<t.depth
 | 0,_,_,_,h=>by simp [lvs] at h
 | n+1,t,b,l,h=>by
  rw [lvs] at h
  split at h
  ·rename_i h0
   rw [List.mem_singleton] at h
   exact ⟨[],t,by rw [h,List.append_nil],.nil t,List.length_eq_zero_iff.1 h0,by have:=t.depth_eq;simp only [List.length_nil];omega⟩
  ·obtain ⟨q,a,d⟩:=List.mem_flatMap.1 h
   obtain ⟨l',x,c,e,f,g⟩:=WV n q.1 _ _ d
   have:=RG a
   exact ⟨q.2::l',x,by rw [c,List.append_assoc];rfl,.cons a e,f,by simp only [List.length_cons];omega⟩
theorem YV {k i:Int} {s:ByteArray} (hk:A9 k) (hi:A9 i) (hs:s.size≤maxLen):(Part.mk k i s).wf:=⟨hk,hi,hs⟩
theorem Leads.wf {t x:Ty} {l:List Part} (h:Leads t l x) (tg:t.Good):∀ p∈l,p.wf:=by
 induction h with
 | nil=>simp
 | @cons t x q l h k ih =>
  intro p hp
  rcases List.mem_cons.1 hp with rfl | hp
  ·have own:=tg.own
   have b:∀ f∈t.fields,f.2.1.size≤32:=fun f c=>Wc (own.each f c).1
   unfold BK at h
   split at h
   ·obtain ⟨e,a,rfl⟩:=List.mem_map.1 h;exact YV (by unfold A9;omega) (by unfold A9;omega) (by decide)
   ·split at h
    ·obtain ⟨e,a,rfl⟩:=List.mem_map.1 h;exact YV (by unfold A9;omega) (by unfold A9;omega) (Nat.le_trans (b e a) (by decide))
    ·split at h
     ·obtain ⟨e,a,rfl⟩:=List.mem_map.1 h;exact YV (by unfold A9;omega) (by unfold A9;omega) (Nat.le_trans (b e a) (by decide))
     ·simp at h
  ·exact ih (Ta tg h) p hp
theorem Zai (n:Nat) (hn:25≤n) (l:List Part) (hw:∀ p∈l,p.wf) (hl:l.length≤20):∃ b:Bool,JE n l=some (if b=true then 0 else 3):=by
 rw [JE]
 by_cases h:l.length<1∨16<l.length
 ·exact ⟨false,by rw [Ai (by simp only [Bool.or_eq_true,decide_eq_true_eq];omega)];rfl⟩
 rw [Aj (by simp only [Bool.or_eq_true,decide_eq_true_eq];omega)]
 match l,h,hw,hl with
 | [],h,_,_=>exact absurd (Or.inl (by simp)) h
 | p::r,h,hw,hl =>
 rw [List.length_cons] at hl
 have a:BJ (p::r) 0=some p:=rfl
 rw [a,Af]
 by_cases h1:p.kind=1
 ·rw [Ah h1]
  simp only [Bool.not_true,Bool.false_eq_true,if_false]
  have c:F2 n (p::r) n (-1) 0=_:=U0 n (p::r) hw (by rw [List.length_cons];omega) (p::r).length n 0 (-1) (by omega) (by rw [List.length_cons];omega) (by omega) (by omega)
  exact ⟨_,c⟩
 ·rw [Ag h1]
  exact ⟨false,rfl⟩
def EH (rec:Ty→(List Part)→(List (List Part))→Option ((List (List Part)))) (n:Nat) (g:Int→(List (List Part))→Option ((List (List Part)))) (h:List Part) (b:Int) (q:Ty) (b2_k23_0:Int) (b2_k23_2:ByteArray) (pla2_k23:List (List Part)):Option ((List (List Part))) :=
 if h.length*32≤140737488355328 then
  if (h.length+1)*32≤140737488355328∧h.length+1≤4611686018427387904 then
   (rec q (h++([Part.mk b2_k23_0 0 b2_k23_2])) pla2_k23).bind fun y =>
   if A9 (b+1) then
    g (b+1) y
   else none
  else none
 else none
def BN (rec:Ty→(List Part)→(List (List Part))→Option ((List (List Part)))) (n:Nat) (h:Ty) (y:List Part) (g:(List Ty)):Nat→Int→(List (List Part))→Option ((List (List Part)))
 | 0,_,_=>none
 | m+1,b,pla2_l14 =>
  if decide (b<(g.length:Int)) then
   (BJ g b).bind fun q =>
   if decide (h.kind=9) then
    (BJ h.fields b).bind fun x28 =>
    EH rec n (BN rec n h y g m) y b q 1 x28.2.1 pla2_l14
   else
    if decide (h.kind=10) then
     (BJ h.fields b).bind fun z =>
     EH rec n (BN rec n h y g m) y b q 4 z.2.1 pla2_l14
    else
     EH rec n (BN rec n h y g m) y b q 3 (⟨#[]⟩:ByteArray) pla2_l14
  else
   some (pla2_l14)
def Ld (rec:Ty→(List Part)→(List (List Part))→Option ((List (List Part)))) (n:Nat) (h:Ty) (g:List Part) (b:List (List Part)):Option ((List (List Part))) :=
 (JB n h).bind fun y =>
 if decide ((y.length:Int)=0) then
  if g.length*32≤140737488355328 then
   if (b.length+1)*24≤140737488355328∧b.length+1≤4611686018427387904 then
    some (b++([g]))
   else none
  else none
 else
  (JB n h).bind fun q =>
  BN rec n h g q n 0 b
def Gh:Nat→Ty→(List Part)→(List (List Part))→Option ((List (List Part)))
 | 0,_,_,_=>none
 | n+1,h,g,b=>Ld (Gh n) n h g b
def NT (w0:World) (F:Ty→(List Part)→(List (List Part))→Option ((List (List Part)))):Prop:=∀ (B:Aq) (Rw:Aw) (L:Av) (h:Ty) (g:List Part) (la2:Nat) (b:List (List Part)) (oa2:Ev.Own) (hla2:B[la2]? = some [.list (b.map (CJ AD)) oa2]) (hGa2:Owns Rw Rw [(1,b.length,oa2)] oa2) (la3:Nat) (hla3:B[la3]? = some [.clo 92 [.box la2 0,.box la3 0]]) (r:(List (List Part))),F h g b=some r→ACalls Tryz.prog w0 92 [.agg (h.cs),.list (g.map AD) .none,.box la2 0,.box la3 0] ⟨B,Rw,L⟩ fun x st=>x = .tup []∧∃ (R1:Aw) (o1:Ev.Own),st=⟨(B.set la2 [.list (r.map (CJ AD)) o1]),R1,L⟩∧Owns Rw R1 [(1,r.length,o1)] oa2
theorem Ue (w0:World) (rec:Ty→(List Part)→(List (List Part))→Option ((List (List Part)))) (ih:NT w0 rec) (n:Nat):NT w0 (Ld rec n):=by
 intro B Rw L a0 a1 G a2 ab g ah O c r h
 rw [Ld] at h
 refine ACalls.finG (B6 (rs:=[]) Tryz.func92 rfl rfl Tryz.ntmps92 (AL Tryz.func92 rfl (by decide)) (Nat.le_of_ble_eq_true rfl) ?_)
 intro M0 W0 hN N K E hu
 dsimp only at hN N K E hu
 simp only [AB]
 have D:=ah
 have hs:=WY
 have au:=(Ak.1 g).1
 have ar:=(Ak.1 c).1
 have b:G≠O:=fun q=>by have k:=g;rw [q,c] at k;cases k
 have hs:=Ae (As g) hs
 have hs:=Ae (As c) hs
 have hs:=Ae (A6 c b) hs
 refine rg [1,2,3,4] hs ?_
 apply An;intro K2 ae
 obtain ⟨y4,ay,h⟩:=bind_some h
 refine rc 2 [1,2,3,4,12] hs ?_;intro K3 ag
 refine Ax _ (QM w0 n _ _ _ a0 _ ay) (hv hs) ?_
 refine ne hs ag ?_
 clear ag
 refine BL h hs ?_ ?_<;>intro hs h
 ·have x:=hs.1
  obtain ⟨a4,h⟩:=Au h
  obtain ⟨ai,h⟩:=Au h
  obtain ⟨o9,aw,D,w⟩:=D.append (P:=Tryz.prog) SA (by rw [LA];rfl) (by decide) 1 ai.1 ai.2
  replace w:=fun (ys:List AV) B L o2=>w (a2.map (CJ AD)) ys B L o2 Dk
  replace w:=fun (y:AV) B L o2=>w [y] B L o2 Dk (by simp +decide only [go_sem,Nat.reduceAdd])
  try simp only [List.mem_singleton,List.mem_cons,List.not_mem_nil,or_false,forall_eq_or_imp,forall_eq,List.map_append,List.map_cons,List.map_nil,Fb,Ft,Fp,Ec,Ed,Fj,CG,Dp,Fq,BX,BW,Du,Dv,Dq,E8,Dt,Fa] at w
  have hs:=Ae w hs
  apply An;intro K6 ap
  refine dk 4 2 1 [] hs QQ ?_
  refine Ax _ (Sr w0 _ _ _ a1 a4) (hv hs) ?_
  refine dn hs ap ?_
  clear ap
  apply AM;simp +decide only [go_sem,Nat.reduceAdd,As g,As c,A6 c b,x,w]
  have hgt:=Option.some.inj h;subst hgt
  have hU:=D.unders
  simp only [List.mem_cons,List.not_mem_nil,or_false,forall_eq_or_imp,forall_eq] at hU
  refine Zbh D (C6 (N6 E D.len) ow) ls_ ev ⟨?_,_,_,?_,(D.sub (List.sublist_append_left [_] _)).len1 Dk⟩
  all_goals first | rfl | (simp +decide only [go_sem,Nat.reduceAdd,As g,As c,A6 c b,x,w];done) | (simp +decide only [go_sem,Nat.reduceAdd,Vl.cs,Ty.cs,As g,As c,A6 c b,x,w];done)
 have x:=hs.1
 refine sk [1,3,4] hs ae ?_
 clear ae
 obtain ⟨F,af,h⟩:=bind_some h
 refine rc 2 [1,3,4,19,20,21] hs ?_;intro K12 Y
 refine Ax _ (QM w0 n _ _ _ a0 _ af) (hv hs) ?_
 refine ne hs Y ?_
 clear Y
 apply Ar
 refine Az (fun m e st=>∃ (t:Int) (z:List (List Part)) (C:Ev.Own) (Xl14:Aq) (Rl14:Aw),e=[(1,true,.list (a1.map AD) .none),(3,true,.box O 0),(4,true,.box B.length 0),(19,true,.list (F.map Dj) .none),(20,true,Am (F.length:Int)),(21,true,Am t)]∧st=⟨(B.set G ([.list (z.map (CJ AD)) C]))++([a0.cs]++Xl14),Rl14,L⟩∧Owns Rw Rl14 [(1,z.length,C)] ab∧BN rec n a0 a1 F m t z=some r) n ⟨0,a2,ab,([]),Rw,ef hs,ef hs,Owns.of_eq (D) Dk,h⟩ ?_
 rintro ml14 e st ⟨t,z,C,Xl14,Rl14,rfl,rfl,D,h⟩ Ul14 Vl14
 cases ml14 with
 | zero=>cases h
 | succ ml14 =>
 rw [BN] at h
 have hU:=D.unders
 simp only [List.mem_cons,List.not_mem_nil,or_false,forall_eq_or_imp,forall_eq] at hU
 refine PP hN N K ls_ (C6 (N6 E D.len) ow) D ow ow ?_
 refine rg [1,3,4,19,20,21,22] hs ?_
 apply An;intro K16 Z
 refine BL h hs ?_ ?_<;>intro hs h
 rotate_left
 ·have p:=hs.1
  refine Lh (Ea [] _) ?_ (DV _ _)
  apply E4;simp +decide only [go_sem,Nat.reduceAdd]
  (repeat' with_reducible apply Ae)<;>first | exact cl | skip
  have hgt:=Option.some.inj h;subst hgt
  have hU:=D.unders
  simp only [List.mem_cons,List.not_mem_nil,or_false,forall_eq_or_imp,forall_eq] at hU
  refine Zbh D (C6 (N6 E D.len) ow) ls_ ev ⟨?_,_,_,?_,(D.sub (List.sublist_append_left [_] _)).len1 Dk⟩
  all_goals first | rfl | (simp +decide only [go_sem,Nat.reduceAdd,As g,As c,A6 c b,x,p];done) | (simp +decide only [go_sem,Nat.reduceAdd,Vl.cs,Ty.cs,As g,As c,A6 c b,x,p];done)
 have p:=hs.1
 refine sk [1,3,4,19,20,21] hs Z ?_
 clear Z
 apply An;intro K18 Q
 apply Ar
 obtain ⟨H,ao,h⟩:=bind_some h
 obtain ⟨ax,a3,ad⟩:=AY ao
 have j:=AO (f:=Dj) ad
 have hs:=Ae j hs
 refine rg [1,3,4,6,7,19,20,21] hs ?_
 refine rg [1,3,4,6,7,8,19,20,21] hs ?_
 refine AA (fun e st=>∃ (o:Int) (l:ByteArray) (u:List (List Part)) (v:Ev.Own) (Xk23:Aq) (Rk23:Aw),e=[(1,true,.list (a1.map AD) .none),(3,true,.box O 0),(4,true,.box B.length 0),(7,true,.box (B.length+1) 0),(8,true,.box (B.length+2) 0),(19,true,.list (F.map Dj) .none),(20,true,Am (F.length:Int)),(21,true,Am t)]∧st=⟨(B.set G ([.list (u.map (CJ AD)) v]))++([a0.cs,H.cs,[Am o,Am 0,.val (.string l)]]++Xk23),Rk23,L⟩∧Owns Rw Rk23 [(1,u.length,v)] ab∧EH rec n (BN rec n a0 a1 F ml14) a1 t H o l u=some r) ?_ ?_
 ·intro K24 aq
  exact go (tg (a:=([1,3,4,6,7,8,19,20,21,28],[1,3,4,6,7,8,19,20,21,28,29],([1,3,4,7,8,19,20,21],()),[1,3,4,6,7,8,19,20,21,38],([1,3,4,7,8,19,20,21],()),[1,3,4,7,8,19,20,21],()))) h hs hN N K E D trivial (q1 aq)
 ·clear h;rintro e st ⟨o,l,u,v,Xk23,Rk23,rfl,rfl,D,h⟩
  rw [EH] at h
  have hU:=D.unders
  simp only [List.mem_cons,List.not_mem_nil,or_false,forall_eq_or_imp,forall_eq] at hU
  refine PP hN N K ls_ (C6 (N6 E D.len) ow) D ow ow ?_
  obtain ⟨aj,h⟩:=Au h
  have D:=D.clone 3 a1.length
  obtain ⟨aa,h⟩:=Au h
  obtain ⟨az,av,D,d⟩:=D.append (P:=Tryz.prog) ZbY (by rw [XS];rfl) (by decide) 1 aa.1 aa.2
  replace d:=fun (ys:List AV) B L o2=>d (a1.map AD) ys B L o2 Dk
  replace d:=fun (y:AV) B L o2=>d [y] B L o2 Dk ev
  try simp only [List.mem_singleton,List.mem_cons,List.not_mem_nil,or_false,forall_eq_or_imp,forall_eq,List.map_append,List.map_cons,List.map_nil,Fb,Ft,Fp,Ec,Ed,Fj,CG,Dp,Fq,BX,BW,Du,Dv,Dq,E8,Dt,Fa] at d
  have D:=D.swap (List.Perm.swap _ _ _)
  obtain ⟨am,ak,h⟩:=bind_some h
  apply ZI QQ [3,6,7] [1,3,4,19,20,21] kr (fun s=>∃ (X:Aq) (rows:Aw) (V:List AV),s=⟨(B.set G V)++([a0.cs,H.cs,[Am o,Am 0,.val (.string l)]]++X),rows,L⟩) 4 (B.length+3)
  ·simp +decide only [go_sem,Nat.reduceAdd]
  ·rintro s ⟨X,rows,V,rfl⟩
   refine ⟨1,?_⟩
   rw [Ao];simp +decide only [go_sem,Nat.reduceAdd,Eg,As g,As c,A6 c b,x,p,j,d]
   (repeat' apply Ae)<;>first | rfl | exact cl
  ·refine Good.mk [3] kr ⟨[],_,_,by first | rfl | simp only [List.append_nil,List.nil_append]⟩ ?_ ?_
   ·intro h;exact absurd h (by decide)
   ·intro i hi;simp only [List.mem_cons,List.not_mem_nil,or_false] at hi
    subst hi
    ·apply ET rfl rfl ev
     ·simp +decide only [go_sem,Nat.reduceAdd,F9,As g,As c,A6 c b,x,p,j,d]
      have hs:=Ae d hs
      (repeat' with_reducible apply Ae)<;>first | exact RP (Rl w0 _ _ _ a1 aj) (hv hs) | rfl | exact cl
     ·simp +decide only [go_sem,Nat.reduceAdd,As g,As c,A6 c b,x,p,j,d]
      refine Good.mk [6] kr ⟨[],_,_,by first | rfl | simp only [List.append_nil,List.nil_append]⟩ ?_ ?_
      ·intro h;exact absurd h (by decide)
      ·intro i hi;simp only [List.mem_cons,List.not_mem_nil,or_false] at hi
       subst hi
       ·apply ET rfl rfl ev
        ·simp +decide only [go_sem,Nat.reduceAdd,F9,As g,As c,A6 c b,x,p,j,d]
         (repeat' apply Ae)<;>first | rfl | exact cl
        ·simp +decide only [go_sem,Nat.reduceAdd,As g,As c,A6 c b,x,p,j,d]
         refine Good.mk [7] kr ⟨[],_,_,by first | rfl | simp only [List.append_nil,List.nil_append]⟩ ?_ ?_
         ·intro h;exact absurd h (by decide)
         ·intro i hi;simp only [List.mem_cons,List.not_mem_nil,or_false] at hi
          subst hi
          ·apply ZbW rfl rfl ev rfl
           ·simp +decide only [go_sem,Nat.reduceAdd,As g,As c,A6 c b,x,p,j,d]
           ·simp +decide only [go_sem,Nat.reduceAdd,As g,As c,A6 c b,x,p,j,d]
           ·simp +decide only [go_sem,Nat.reduceAdd,As g,As c,A6 c b,x,p,j,d]
            have hs:=Ae d hs
            exact (ih _ _ _ H (a1++([Part.mk o 0 l])) G u v (ef hs) D.enter O (ef hs) _ ak).pub (hv hs)
           ·rintro _ _ ⟨rfl,Rg39,U,rfl,J⟩
            have D:=D.call J
            simp +decide only [go_sem,Nat.reduceAdd,As g,As c,A6 c b,x,p,j,d]
            refine Good.mk [] kr ⟨[],_,_,by first | rfl | simp only [List.append_nil,List.nil_append]⟩ ?_ ?_
            ·intro _;refine ⟨_,_,RU [1,3,4,19,20,21] (by first | (simp +decide only [go_sem,Nat.reduceAdd,As g,As c,A6 c b,x,p,j,d];done) | (simp +decide only [go_sem,Nat.reduceAdd,As g,As c,A6 c b,x,p,j,d];rfl)),?_⟩
             simp +decide only [go_sem,Nat.reduceAdd,As g,As c,A6 c b,x,p,j,d]
             (repeat' apply Ae)<;>first | refine Q _ _ ?_ | exact cl
             clear Q
             obtain ⟨a5,h⟩:=Au h
             have hs:=Ae d hs
             refine rl [1,3,4,19,20,21] hs (fun e s=>Vl14 ml14 e s (Nat.lt_succ_self _)) ?_
             exact ⟨(t+1),am,U,([H.cs,[Am o,Am 0,.val (.string l)]]),Rg39,ef hs,ef hs,Owns.of_eq ((D).sub (List.sublist_append_left [(1,am.length,U)] [(3,a1.length+1,az)])) Dk,h⟩
            ·intro i hi;cases hi
theorem PZ (w0:World):∀ n:Nat,NT w0 (Gh n)
 | 0=>fun _ _ _ _ _ _ _ _ _ _ _ _ _ h=>(nomatch h)
 | n+1=>Ue w0 (Gh n) (PZ w0 n) n
theorem VY {α:Type} {l:List α} {k:Nat} {x:α} (h:l[k]? = some x):BJ l (k:Int)=some x:=by
 obtain ⟨a,rfl⟩:=Ak.1 h
 exact AK a
theorem Zcy {α:Type} (t:Ty) (i:Nat) {q:Ty × Part} (hq:(BK t)[i]? = some q) (K:Ty→Int→ByteArray→Option α) :
  ((BJ (Jw t) (i:Int)).bind fun x=>if decide (t.kind=9)=true then (BJ t.fields (i:Int)).bind fun f=>K x 1 f.2.1 else if decide (t.kind=10)=true then (BJ t.fields (i:Int)).bind fun f=>K x 4 f.2.1 else K x 3 ⟨#[]⟩)=K q.1 q.2.kind q.2.name∧q.2=Part.mk q.2.kind 0 q.2.name:=by
 have b:BJ (Jw t) (i:Int)=some q.1:=VY (by rw [←QK,List.getElem?_map,hq];rfl)
 rw [b,Af]
 unfold BK at hq
 by_cases h8:t.kind=8
 ·rw [Ai h8,List.getElem?_map] at hq
  obtain ⟨e,_,rfl⟩:=Option.map_eq_some_iff.1 hq
  rw [Ac,Ac]
  exact ⟨rfl,rfl⟩
 rw [Aj h8] at hq
 by_cases h9:t.kind=9
 ·rw [Ai h9,List.getElem?_map] at hq
  obtain ⟨e,a,rfl⟩:=Option.map_eq_some_iff.1 hq
  rw [Ah h9,Ai rfl,VY a,Af]
  exact ⟨rfl,rfl⟩
 rw [Aj h9] at hq
 by_cases h10:t.kind=10
 ·rw [Ai h10,List.getElem?_map] at hq
  obtain ⟨e,a,rfl⟩:=Option.map_eq_some_iff.1 hq
  rw [Ag h9,Aj (by decide),Ah h10,Ai rfl,VY a,Af]
  exact ⟨rfl,rfl⟩
 rw [Aj h10] at hq
 simp at hq
theorem Zb3 (rec:Ty→List Part→List (List Part)→Option (List (List Part))) (n:Nat) (t:Ty) (b:List Part) (hb:b.length≤100) (f:Ty × Part→List (List Part)) (hl:∀ q∈BK t,(f q).length≤q.1.size)
  (hr:∀ q∈BK t,∀ out:List (List Part),out.length+q.1.size≤100000→rec q.1 (b++[q.2]) out=some (out++f q)):∀ (k m i:Nat) (out:List (List Part)),i+k=(BK t).length→k<m→(BK t).length≤1000→out.length+(((BK t).drop i).map fun q=>q.1.size).sum≤100000 →
  BN rec n t b (Jw t) m i out=some (out++((BK t).drop i).flatMap f)
 | k,0,i,_,_,h,_,_=>absurd h (Nat.not_lt_zero _)
 | 0,m+1,i,out,hi,_,_,_=>by
  rw [BN,AH,Ag (by rw [←Qj];omega),Aj (by decide),List.drop_of_length_le (by omega),List.flatMap_nil,List.append_nil]
 | k+1,m+1,i,out,hi,hm,hi2,ho=>by
  have a:i<(BK t).length:=by omega
  have d:=List.getElem?_eq_getElem a
  obtain ⟨q,hqe⟩:∃ q,(BK t)[i]=q:=⟨_,rfl⟩
  have c:q∈BK t:=hqe▸List.getElem_mem a
  rw [List.drop_eq_getElem_cons a,hqe] at ho ⊢
  rw [List.map_cons,List.sum_cons] at ho
  rw [hqe] at d
  have e:=hr q c out (by omega)
  have l:=hl q c
  have ih:=Zb3 rec n t b hb f hl hr k m (i+1) (out++f q) (by omega) (by omega) hi2 (by rw [List.length_append];omega)
  obtain ⟨g1,g2⟩:=Zcy t i d (fun x g j=>EH rec n (BN rec n t b (Jw t) m) b i x g j out)
  rw [BN,AH,Ah (by rw [←Qj];exact a),Ai rfl]
  refine g1.trans ?_
  rw [EH,Ab,Ab]
  rw [←g2,e,Af,Ai (AG (by omega))]
  rw [show ((i:Int)+1)=((i+1:Nat):Int) from by omega,ih,List.flatMap_cons,List.append_assoc]
theorem Tn:∀ (n:Nat) (t:Ty) (b:List Part) (out:List (List Part)),t.size<n→b.length+t.depth≤100→t.size≤1000→out.length+t.size≤100000→Gh n t b out=some (out++lvs n t b)
 | 0,t,b,out,h,_,_,_=>absurd h (Nat.not_lt_zero _)
 | n+1,t,b,out,hn,hb,ht,ho=>by
  have j:=t.size_pos
  have i:=t.lens
  have hd:=t.depth_eq
  have d:(BK t).length<t.size:=by
   have:=QC t
   have f:(BK t).length≤((BK t).map fun q=>q.1.size).sum:=by
    generalize BK t=l
    induction l with
    | nil=>simp
    | cons x l ih =>
     have:=x.1.size_pos
     rw [List.map_cons,List.sum_cons,List.length_cons];omega
   omega
  rw [Gh,Ld,XA n t (by omega) (by omega),Af,Af,lvs,←Qj]
  by_cases h0:(BK t).length=0
  ·rw [Ad,Ai rfl,Ai h0,Ab,Ab]
  ·rw [Ac,Aj (by decide),Aj h0]
   have:=Zb3 (Gh n) n t b (by omega) (fun q=>lvs n q.1 (b++[q.2])) (fun q _=>X6 n q.1 _) (fun q e a c=>by
    have g:=ZaC e
    have f:=RG e
    exact Tn n q.1 (b++[q.2]) a (by omega) (by simp only [List.length_append,List.length_cons,List.length_nil];omega) (by omega) c) (BK t).length n 0 out (by omega) (by omega) (by omega) (by have:=QC t;rw [List.drop_zero];omega)
   rw [List.drop_zero] at this
   exact this
theorem Leads.small {t x:Ty} {l:List Part} (h:Leads t l x):t.small→x.small:=by
 induction h with
 | nil=>exact id
 | cons h _ ih=>exact fun a=>ih (Y7 a h)
theorem Vp (n:Nat) (t:Ty) (w:ByteArray) (hn:t.size+1450000≤n) (ht:t.small) (hk:t.kind=9∨t.kind=10):Jt n t w=some ((MY t w).getD ZbF,(MY t w).isSome):=by
 have c:Jt n t w=(Kz n t (fun x=>some (Fv x.2.1 w))).bind fun b=>some (b.1,b.2):=rfl
 have a:MY t w=BJ t.fields (PT (fun x:TF=>Fv x.2.1 w) t.fields 0):=Zfl _ _
 rw [c]
 rcases Zhe n t (fun x=>Fv x.2.1 w) hn ht with ⟨k1,k2,_⟩ | ⟨_,⟨q1,q2⟩ | ⟨j,hj,q1,q2⟩⟩
 ·omega
 ·rw [q2,a,q1];rfl
 ·rw [q2,a,q1,AK hj];rfl
theorem Zac (rec:Ty→Vl→Option Bool) (d n:Nat) (t:Ty) (v:Vl) (hn:t.size+1450000≤n) (hn2:v.size<n) (hs:v.size≤1000000000) (ht:t.small) (tk:t.kind=9) (vk:v.kind=9)
  (hr:∀ p∈t.fields,∀ q∈v.fields,rec p.2.2.2.1 q.2=some (OD d p.2.2.2.1 q.2)):∀ (k m i:Nat),i+k=v.fields.length→k<m→IL rec n t v m i=some ((v.fields.drop i).all (Zlw d t) && !(t.fields.any (Zet v)))
 | k,0,i,_,h=>absurd h (Nat.not_lt_zero _)
 | 0,m+1,i,hi,_=>by
  have j:=t.lens.2
  have g:=ht.1
  have e:=X7 n t.fields (fun x=>LC n x v) (Zet v) (fun x _=>by
   obtain ⟨u,b⟩:=Zcx n v x.2.1 vk hs hn2
   rw [LC,b];rfl) (by omega) (by omega)
  rw [IL,AH,Ac,Aj (by decide),Pl,e,List.drop_eq_nil_of_le (by omega),List.all_nil,Bool.true_and];rfl
 | k+1,m+1,i,hi,hm=>by
  have a:i<v.fields.length:=by omega
  have f:=Px v
  have ih:=Zac rec d n t v hn hn2 hs ht tk vk hr k m (i+1) (by omega) (by omega)
  rw [IL,AH,Ah a,Ai rfl,AK a,Af,Vp n t _ hn ht (.inl tk),Af,List.drop_eq_getElem_cons a,List.all_cons,Zlw]
  cases c:MY t v.fields[i].1 with
  | none=>rw [Ai (by rfl)];rfl
  | some p =>
   rw [Aj (by simp),Option.getD_some,hr _ (V2 c).1 _ (List.getElem_mem a),Af]
   simp only
   cases OD d p.2.2.2.1 v.fields[i].2 with
   | false=>rfl
   | true =>
    rw [Aj (by decide),Ai (AG (by omega)),Bool.true_and]
    exact ih
theorem Uo:∀ (n d:Nat) (t:Ty) (v:Vl),t.size+1500000≤n→v.size+1500000≤n→v.size≤1000000000→t.small→t.Good→v.Good→t.depth≤d→JS n t v=some (OD d t v)
 | 0,d,t,v,h,_,_,_,_,_,_=>by omega
 | n+1,0,t,v,_,_,_,_,_,_,hd=>by have:=t.depth_eq;omega
 | n+1,d+1,t,v,h1,h2,h3,ht,gt,gv,hd=>by
  obtain ⟨G,C,J⟩:=S4 (Vr gt)
  obtain ⟨_,F⟩:=Xl (SN gv)
  have K:=t.lens
  have D:=ht.1
  have E:=Pz v
  have z:=(t.ok_eq.1 ht.2.2).1
  rw [JS,Uw,OD]
  by_cases hk:v.kind=t.kind
  rotate_left
  ·rw [Ag hk,Ai (fun q=>hk q.symm)];rfl
  rw [Ah hk,Aj (show ¬ (t.kind≠v.kind) from fun q=>q hk.symm)]
  simp only [Bool.not_true,Bool.false_eq_true,if_false]
  have i:t.kind≠3→v.scale=t.scale:=fun q=>by rw [Ty.scale0 C q,Vl.scale0 F (by rw [hk];exact q)]
  rcases Il G with tk | tk | tk | tk | tk | tk | tk | tk | tk | tk
  ·simp [tk,Cm,QW]
  ·have q:=i (by omega);simp [tk,Cm,q]
  ·simp [tk,Cm,Bool.and_comm]
  ·have s:=YH n t.words v.text (by omega) (by omega)
   have m:(t.words.any fun x=>Fv v.text x)=t.words.any fun x=>Fv x v.text:=by congr 1;funext x;exact Zdz _ _
   rw [Ag (show ¬ t.kind=2 by omega),Ag (show ¬ t.kind=6 by omega),Ag (show ¬ t.kind=7 by omega),Ag (show ¬ t.kind=3 by omega)]
   simp only [Bool.false_eq_true,if_false]
   rw [Cm,Aj (by decide),Ah tk,Ai rfl,Aj (show ¬ (t.kind=2∨t.kind=6∨t.kind=7) by omega),Aj (show ¬ t.kind=3 by omega),Ai tk]
   by_cases z:0<t.words.length
   ·rw [Ai (Ah (by omega)),s,m,Ag (show ¬ (t.words.length:Int)=0 by omega)]
    simp
   ·rw [Aj (by rw [decide_eq_true_eq];omega),Ah (show (t.words.length:Int)=0 by omega)]
    have l:t.words=[]:=List.length_eq_zero_iff.1 (by omega)
    rw [l]
    rfl
  ·simp [tk,Cm,ZE]
  ·have q:=i (by omega);simp [tk,Cm,q]
  ·have q:=i (by omega);simp [tk,Cm,q]
  ·obtain ⟨e,r⟩:=gt.own.elem tk
   have f:e∈t.elem:=by rw [r];simp
   have o:BJ t.elem 0=some e:=by rw [r];rfl
   have s:=X4 n v.list (fun x=>LE (JS n) x t) (fun x => !OD d e x) (fun x j=>by
    have a:=t.elem_size _ f
    have b:=v.list_size x j
    have c:=Ty.depth_elem f
    rw [LE,o,Af,Uo n d e x (by omega) (by omega) (by omega) (Ty.small_elem ht f) (PN gt f) (Qm gv (by rw [BS,Ai (.inl (by omega))];exact j)) (by omega)];rfl) (by omega) (by omega)
   have m:(v.list.all fun x=>t.elem.all fun e=>OD d e x)=v.list.all fun x=>OD d e x:=by
    congr 1;funext x;rw [r];simp
   rw [m]
   simp only [tk,Cm]
   simp only [show decide ((8:Int)=2)=false from rfl,show decide ((8:Int)=6)=false from rfl,show decide ((8:Int)=7)=false from rfl,show decide ((8:Int)=3)=false from rfl,show decide ((8:Int)=4)=false from rfl,show decide ((8:Int)=5)=false from rfl,decide_true,Bool.false_eq_true,if_false,if_true]
   rw [s]
   unfold ZE
   cases hr:decide (t.min≤(v.list.length:Int))&&decide ((v.list.length:Int)≤t.max) with
   | false=>simp
   | true =>
    simp only [if_true,Af,Bool.and_true]
    rw [List.not_any_eq_all_not]
    simp
  ·have u:=Zac (JS n) d n t v (by omega) (by omega) h3 ht tk (by omega) (fun p g q y=>by
     have a:=t.field_size p g
     have b:=v.field_size q y
     have c:=Ty.depth_field g
     exact Uo n d _ _ (by omega) (by omega) (by omega) (Ty.small_field ht g) (Iu gt g) (Qm gv (by rw [BS,Aa,Ab];exact List.mem_map_of_mem y)) (by omega)) v.fields.length n 0 (by omega) (by omega)
   rw [List.drop_zero] at u
   have k:IL (JS n) n t v n 0=_:=u
   simp only [tk,Cm]
   simp only [show decide ((9:Int)=2)=false from rfl,show decide ((9:Int)=6)=false from rfl,show decide ((9:Int)=7)=false from rfl,show decide ((9:Int)=3)=false from rfl,show decide ((9:Int)=4)=false from rfl,show decide ((9:Int)=5)=false from rfl,show decide ((9:Int)=8)=false from rfl,show decide ((9:Int)=10)=false from rfl,decide_true,Bool.false_eq_true,if_false,if_true]
   exact k
  ·have w:v.kind=10:=by omega
   obtain ⟨x,j⟩:=Zdq gv w
   have e:Cm (JS n) n t v false=some (match MY t v.text with
    | some p=>v.list.all fun x=>OD d p.2.2.2.1 x
    | none=>false):=by
    simp only [Cm,tk,Vp n t _ (show t.size+1450000≤n by omega) ht (.inr tk),Af]
    simp only [show decide ((10:Int)=4)=false from rfl,show decide ((10:Int)=5)=false from rfl,show decide ((10:Int)=8)=false from rfl,decide_true,Bool.false_eq_true,if_false,if_true]
    cases c:MY t v.text with
    | none=>rfl
    | some p =>
     have g:=(V2 c).1
     have a:=t.field_size _ g
     have b:=v.list_size x (by rw [j];simp)
     have c:=Ty.depth_field g
     have H:=Uo n d p.2.2.2.1 x (by omega) (by omega) (by omega) (Ty.small_field ht g) (Iu gt g) (Qm gv (by rw [BS,Ai (.inr w),j];simp)) (by omega)
     rw [j,Ai (by rfl),show BJ [x] 0=some x from rfl,Af]
     simp [H]
   simp only [tk]
   exact e
theorem ZhJ (n:Nat) (t:Ty) (v:Vl) (h1:t.size+1500000≤n) (h2:v.size+1500000≤n) (h3:v.size<1048576) (ht:t.small) (hv:v.ok) (gt:t.Good):J8 n t v=some (decide (U7 v=0)&&OD 12 t v):=by
 rw [J8,Xz n v (by omega) h3 hv,Af]
 by_cases h:U7 v=0
 ·rw [Ah h,Ai rfl,Uo n 12 t v h1 h2 (by omega) ht gt (ZF h) ht.2.1];rfl
 ·rw [Ag h,Aj (by decide)];rfl
def ZbZ (P:Prop) (left:Int) (o:Option (Int × Int)):Prop:=∃ e l,o=some (e,l)∧(e=0→0≤l∧l≤left∧P)
theorem Zcn (r:Ty→Int→Int→Option (Int × Int)) (n D:Nat) (t:Ty) (lv:Int) (hlv:0≤lv∧lv≤9) (hn:t.size+2600000≤n) (ht:t.small) (hk:t.kind=9∨t.kind=10) (hg:∀ x∈t.fields,VC t.kind x)
  (hr:∀ p∈t.fields,∀ left,0≤left→left≤4096→ZbZ (p.2.2.2.1.Fine D) left (r p.2.2.2.1 (lv+1) left)):∀ (k m i:Nat) (left:Int),i+k=t.fields.length→k<m→0≤left→left≤4096 →
  ZbZ (∀ p∈t.fields.drop i,p.2.2.2.1.Fine D∧∀ v∈p.2.2.2.2,U7 v=0∧OD 12 p.2.2.2.1 v=true) left (CC r n t lv (t.fields.map fun p=>p.2.2.2.1) m i left)
 | k,0,i,_,_,h,_,_=>absurd h (Nat.not_lt_zero _)
 | 0,m+1,i,left,hi,_,h1,h2=>by
  rw [CC,AH,Ag (show ¬ i<(t.fields.map fun p=>p.2.2.2.1).length by rw [List.length_map];omega)]
  refine ⟨0,left,rfl,fun _=>⟨h1,Int.le_refl _,?_⟩⟩
  rw [List.drop_eq_nil_of_le (by omega)];simp
 | k+1,m+1,i,left,hi,hm,h1,h2=>by
  have d:i<t.fields.length:=by omega
  have c:=List.getElem_mem d
  have u:=ht.1
  have Y:=t.lens
  have f:i<(t.fields.map fun p=>p.2.2.2.1).length:=by rw [List.length_map];exact d
  rw [CC,AH,Ah f]
  simp only [if_true,AK f,AK d,Af,List.getElem_map]
  rw [Ai (by unfold A9;omega)]
  obtain ⟨e,l,K,G⟩:=hr _ c left h1 h2
  rw [K,Af]
  by_cases h0:e=0
  rotate_left
  ·rw [Ag h0]
   exact ⟨e,l,rfl,fun q=>absurd q h0⟩
  obtain ⟨J,O,o⟩:=G h0
  rw [Ah h0]
  simp only [Bool.not_true,Bool.false_eq_true,if_false]
  rw [Ai (AG (by omega))]
  obtain ⟨F,y,q1,q3⟩:=Zcn r n D t lv hlv hn ht hk hg hr k m (i+1) l (by omega) (by omega) J (by omega)
  have fin:(∀ v∈t.fields[i].2.2.2.2,U7 v=0∧OD 12 t.fields[i].2.2.2.1 v=true)→ZbZ (∀ p∈t.fields.drop i,p.2.2.2.1.Fine D∧∀ v∈p.2.2.2.2,U7 v=0∧OD 12 p.2.2.2.1 v=true) left (CC r n t lv (t.fields.map fun p=>p.2.2.2.1) m ((i:Int)+1) l):=fun hd=>by
   refine ⟨F,y,q1,fun q=>?_⟩
   obtain ⟨s,V,C⟩:=q3 q
   refine ⟨s,by omega,fun x hx=>?_⟩
   rw [List.drop_eq_getElem_cons d] at hx
   rcases List.mem_cons.1 hx with rfl | hx
   ·exact ⟨o,hd⟩
   ·exact C x hx
  obtain ⟨g1,g2,g3,g4⟩:=hg _ c
  by_cases n3:t.fields[i].2.2.1=3
  ·have H:t.kind=9:=by
    rcases hk with hk | hk
    ·exact hk
    ·have:=g2 hk;omega
   obtain ⟨v,hv⟩:=List.length_eq_one_iff.1 (g3 n3)
   have j:BJ t.fields[i].2.2.2.2 0=some v:=by rw [hv];rfl
   obtain ⟨_,N,Q,z⟩:=(t.ok_eq.1 ht.2.2).2.2.2 _ c
   obtain ⟨Z,U,E⟩:=z v (by rw [hv];simp)
   have a:=t.field_size _ c
   have g:=ZhJ n t.fields[i].2.2.2.1 v (by omega) (by omega) (by omega) (Ty.small_field ht c) E o.good
   rw [Ah H,Ah n3]
   simp only [if_true,j,Af,g]
   cases b:decide (U7 v=0)&&OD 12 t.fields[i].2.2.2.1 v with
   | false=>exact ⟨18,l,rfl,fun q=>absurd q (by decide)⟩
   | true =>
    rw [Bool.and_eq_true,decide_eq_true_eq] at b
    exact fin fun w hw=>by rw [hv,List.mem_singleton] at hw;subst hw;exact b
  ·have hd:t.fields[i].2.2.2.2=[]:=List.length_eq_zero_iff.1 (g4 n3)
   rw [Ag n3]
   simp only [Bool.false_eq_true,if_false,ite_self]
   exact fin fun w hw=>by rw [hd] at hw;simp at hw
theorem N9:∀ (n D:Nat) (t:Ty) (lv left:Int),t.size+2600001≤n→t.small→lv=9-(D:Int)→0≤lv→0≤left→left≤4096→ZbZ (t.Fine D) left (JG n t lv left)
 | 0,D,t,_,_,h,_,_,_,_,_=>by omega
 | n+1,D,t,lv,left,h,ht,hD,l1,h1,h2=>by
  have H:=t.lens
  have r:=ht.1
  have c:=Ty.fit_of ht (show t.size+2600000≤n by omega)
  rw [JG,Pq]
  by_cases c1:left=0
  ·rw [Ah c1]
   exact ⟨9,left,rfl,fun q=>absurd q (by decide)⟩
  rw [Ag c1]
  simp only [Bool.false_eq_true,if_false]
  have E:A9 (left-1):=by unfold A9;omega
  by_cases c2:8<lv
  ·rw [Ah c2]
   exact ⟨23,left,rfl,fun q=>absurd q (by decide)⟩
  obtain ⟨d,rfl⟩:∃ d,D=d+1:=⟨D-1,by omega⟩
  rw [Ag c2]
  simp only [Bool.false_eq_true,if_false,Ai E]
  rw [Zif n t c,Af]
  by_cases c3:Q3 t=0
  rotate_left
  ·rw [Ag c3]
   exact ⟨Q3 t,left-1,rfl,fun q=>absurd q c3⟩
  obtain ⟨F,w,u,l,G,s⟩:=UY c3
  rw [Ah c3]
  simp only [Bool.not_true,Bool.false_eq_true,if_false]
  rw [XA n t (by omega) (by omega),Af]
  by_cases k8:t.kind=8
  ·obtain ⟨C,_,_⟩:=u k8
   obtain ⟨e,he⟩:∃ e,t.elem=[e]:=List.length_eq_one_iff.1 C
   have m:e∈t.elem:=by rw [he];simp
   have x:=t.elem_size e m
   obtain ⟨n',rfl⟩:∃ k,n=k+2:=⟨n-2,by omega⟩
   obtain ⟨i,g,q1,q3⟩:=N9 (n'+2) d e (lv+1) (left-1) (by omega) (Ty.small_elem ht m) (by omega) (by omega) (by omega) (by omega)
   have hf0:t.fields=[]:=List.length_eq_zero_iff.1 (l (by omega) (by omega))
   have j:A9 (lv+1):=by unfold A9;omega
   rw [Jw,Ai k8,he,CC,Ai (by simp),show BJ [e] 0=some e from rfl,Af,Ai j,q1,Af]
   by_cases c4:i=0
   ·obtain ⟨f,v,w4⟩:=q3 c4
    subst c4
    rw [Ag (show ¬ t.kind=9 by omega)]
    simp only [decide_true,Bool.not_true,Bool.false_eq_true,if_false]
    rw [Ai (by decide),CC,Aj (by simp)]
    refine ⟨0,g,rfl,fun _=>⟨f,by omega,?_⟩⟩
    exact .mk d t c3 (fun y hy=>by rw [he,List.mem_singleton] at hy;subst hy;exact w4) (fun y hy=>by rw [hf0] at hy;simp at hy) (fun y hy=>by rw [hf0] at hy;simp at hy)
   ·rw [Ag c4]
    exact ⟨i,g,rfl,fun q=>absurd q c4⟩
  ·rw [Jw,Aj k8]
   have b:t.elem=[]:=List.length_eq_zero_iff.1 (w k8)
   by_cases k9:t.kind=9∨t.kind=10
   ·rw [Ai k9]
    obtain ⟨i,g,q1,q3⟩:=Zcn (JG n) n d t lv ⟨l1,by omega⟩ (by omega) ht k9 s (fun p o a z f=>by
     have:=t.field_size p o
     exact N9 n d p.2.2.2.1 (lv+1) a (by omega) (Ty.small_field ht o) (by omega) (by omega) z f) t.fields.length n 0 (left-1) (by omega) (by omega) (by omega) (by omega)
    refine ⟨i,g,q1,fun q=>?_⟩
    obtain ⟨f,v,w4⟩:=q3 q
    rw [List.drop_zero] at w4
    exact ⟨f,by omega,.mk d t c3 (fun y hy=>by rw [b] at hy;simp at hy) (fun y hy=>(w4 y hy).1) (fun y hy=>(w4 y hy).2)⟩
   ·rw [Aj k9]
    have hf0:t.fields=[]:=List.length_eq_zero_iff.1 (l (by omega) (by omega))
    obtain ⟨n',rfl⟩:∃ k,n=k+1:=⟨n-1,by omega⟩
    rw [CC,Aj (by simp)]
    exact ⟨0,left-1,rfl,fun _=>⟨by omega,by omega,.mk d t c3 (fun y hy=>by rw [b] at hy;simp at hy) (fun y hy=>by rw [hf0] at hy;simp at hy) (fun y hy=>by rw [hf0] at hy;simp at hy)⟩⟩
theorem ZfH {c:Int} (h:1≤c):1≤(if 4097<c then 4097 else c)∧(if 4097<c then 4097 else c)≤4097:=by split<;>omega
theorem Ur:∀ (n:Nat) (t:Ty),t.size+10≤n→t.small→t.Good→∃ a,Dn n t=some a∧1≤a∧a≤4097
 | 0,t,h,_,_=>by omega
 | n+1,t,h,ht,gt=>by
  have Q:=t.lens
  have v:=ht.1
  obtain ⟨F,N,y,K,C,w⟩:=UY (Vr gt)
  rw [Dn,JP]
  by_cases k8:t.kind=8
  ·obtain ⟨V,E,O⟩:=y k8
   have o:BJ t.elem 0=some t.elem[0]:=AK (k:=0) (by omega)
   rw [Ah k8,Ai rfl]
   by_cases j:0<t.min
   ·have d:=List.getElem_mem (show 0<t.elem.length by omega)
    have:=t.elem_size _ d
    obtain ⟨a,g,s,r⟩:=Ur n t.elem[0] (by omega) (Ty.small_elem ht d) (PN gt d)
    have q1:0≤t.min*a:=Int.mul_nonneg (by omega) (by omega)
    have q2:0≤(256-t.min)*a:=Int.mul_nonneg (by omega) (by omega)
    rw [Int.sub_mul] at q2
    rw [Ah j,Ai rfl,o,Af,g,Af,Ai (by unfold A9;omega),Ai (by unfold A9;omega)]
    exact ⟨_,rfl,ZfH (by omega)⟩
   ·rw [Ag j,Aj (by decide)]
    exact ⟨_,rfl,ZfH (by omega)⟩
  rw [Ag k8,Aj (by decide)]
  by_cases k10:t.kind=10
  ·have u:=C k10
   have e:=List.getElem_mem u
   have:=t.field_size _ e
   obtain ⟨a,g,s,r⟩:=Ur n t.fields[0].2.2.2.1 (by omega) (Ty.small_field ht e) (Iu gt e)
   rw [Ah k10,Ai rfl,show BJ t.fields 0=some t.fields[0] from AK (k:=0) u,Af,g,Af,Ai (by unfold A9;omega)]
   exact ⟨_,rfl,ZfH (by omega)⟩
  rw [Ag k10,Aj (by decide)]
  by_cases k9:t.kind=9
  ·rw [Ah k9,Ai rfl]
   have loop:∀ (k m i:Nat) (a:Int),i+k=t.fields.length→k<m→1≤a→a≤2000000*(i+1)→∃ a',BA (Dn n) n t m a i=some a'∧1≤a'∧a'≤4097:=by
    intro k
    induction k with
    | zero =>
     intro m i a z j l _
     obtain ⟨m,rfl⟩:∃ q,m=q+1:=⟨m-1,by omega⟩
     rw [BA,AH,Ag (show ¬ i<t.fields.length by omega)]
     exact ⟨_,rfl,ZfH l⟩
    | succ k ih =>
     intro m i a z j l Z
     obtain ⟨m,rfl⟩:∃ q,m=q+1:=⟨m-1,by omega⟩
     have f:i<t.fields.length:=by omega
     have b:=List.getElem_mem f
     have a1:=t.field_size _ b
     have go:∀ c:Int,1≤c→c≤2000000*((i:Int)+1+1)→∃ a',D2 (Dn n) n (BA (Dn n) n t m) i c=some a'∧1≤a'∧a'≤4097:=fun c q1 q2=>by
      rw [D2,Ai (AG (by omega))]
      exact ih m (i+1) c (by omega) (by omega) q1 (by push_cast;exact q2)
     rw [BA,AH,Ah f,Ai rfl,AK f,Af]
     by_cases n1:t.fields[i].2.2.1=1
     ·obtain ⟨c,g,s,r⟩:=Ur n t.fields[i].2.2.2.1 (by omega) (Ty.small_field ht b) (Iu gt b)
      rw [Ah n1,Ai rfl,g,Af,Ai (by unfold A9;omega)]
      exact go _ (by omega) (by omega)
     rw [Ag n1,Aj (by decide)]
     by_cases n3:t.fields[i].2.2.1=3
     ·have hd:=(w _ b).2.2.1 n3
      have p:BJ t.fields[i].2.2.2.2 0=some t.fields[i].2.2.2.2[0]:=AK (k:=0) (by omega)
      obtain ⟨_,D,G,x⟩:=(t.ok_eq.1 ht.2.2).2.2.2 _ b
      obtain ⟨U,J,H⟩:=x _ (List.getElem_mem (show 0<t.fields[i].2.2.2.2.length by omega))
      have Y:=QN _ t.fields[i].2.2.2.2[0] 1 (Nat.le_refl _)
      rw [Ah n3,Ai rfl,p,Af,ZfA _ (by omega),Af,Ai (by unfold A9;omega)]
      exact go _ (by omega) (by omega)
     ·rw [Ag n3,Aj (by decide)]
      exact go a l (by omega)
   exact loop t.fields.length n 0 1 (by omega) (by omega) (by decide) (by decide)
  ·rw [Ag k9,Aj (by decide)]
   exact ⟨_,rfl,ZfH (by omega)⟩
theorem Yb:∀ (n:Nat) (t:Ty),t.size+11≤n→t.small→t.Good→∃ a,CE n t=some a
 | 0,t,h,_,_=>by omega
 | n+1,t,h,ht,gt=>by
  have r:=t.lens
  have o:=ht.1
  obtain ⟨a,l,_,_⟩:=Ur n t (by omega) ht gt
  have f:∀ (k m i:Nat) (a:Int),i+k=t.fields.length→k<m→∃ a',Ci (CE n) n t m a i=some a':=by
   intro k
   induction k with
   | zero =>
    intro m i a g j
    obtain ⟨m,rfl⟩:∃ q,m=q+1:=⟨m-1,by omega⟩
    rw [Ci,AH,Ag (show ¬ i<t.fields.length by omega)]
    exact ⟨_,rfl⟩
   | succ k ih =>
    intro m i a g j
    obtain ⟨m,rfl⟩:∃ q,m=q+1:=⟨m-1,by omega⟩
    have d:i<t.fields.length:=by omega
    have b:=List.getElem_mem d
    have a1:=t.field_size _ b
    obtain ⟨c,e⟩:=Yb n t.fields[i].2.2.2.1 (by omega) (Ty.small_field ht b) (Iu gt b)
    rw [Ci,AH,Ah d,Ai rfl,AK d,Af,e,Af,Ai (AG (by omega))]
    exact ih m (i+1) _ (by omega) (by omega)
  have p:∀ (k m i:Nat) (a:Int),i+k=t.elem.length→k<m→∃ a',CM (CE n) n t m a i=some a':=by
   intro k
   induction k with
   | zero =>
    intro m i a g j
    obtain ⟨m,rfl⟩:∃ q,m=q+1:=⟨m-1,by omega⟩
    rw [CM,AH,Ag (show ¬ i<t.elem.length by omega)]
    exact f t.fields.length n 0 a (by omega) (by omega)
   | succ k ih =>
    intro m i a g j
    obtain ⟨m,rfl⟩:∃ q,m=q+1:=⟨m-1,by omega⟩
    have d:i<t.elem.length:=by omega
    have b:=List.getElem_mem d
    have a1:=t.elem_size _ b
    obtain ⟨c,e⟩:=Yb n t.elem[i] (by omega) (Ty.small_elem ht b) (PN gt b)
    rw [CM,AH,Ah d,Ai rfl,AK d,Af,e,Af,Ai (AG (by omega))]
    exact ih m (i+1) _ (by omega) (by omega)
  rw [CE,Hy,l,Af]
  exact p t.elem.length n 0 a (by omega) (by omega)
theorem Zl (n:Nat) (t:Ty) (hn:3000000≤n) (ht:t.small):∃ c,IK n t=some c∧(c=0→t.Fine 8):=by
 have b:=ht.1
 obtain ⟨e,l,f,d⟩:=N9 n 8 t 1 4096 (by omega) ht (by decide) (by decide) (by decide) (by decide)
 rw [IK,f,Af]
 by_cases h:e=0
 ·obtain ⟨_,_,g⟩:=d h
  obtain ⟨a,q1⟩:=Yb n t (by omega) ht g.good
  rw [Ah h,Aj (by decide),q1,Af]
  by_cases c:4096<a
  ·rw [Ah c]
   exact ⟨9,rfl,fun q=>absurd q (by decide)⟩
  ·rw [Ag c]
   exact ⟨0,rfl,fun _=>g⟩
 ·rw [Ag h]
  exact ⟨e,rfl,fun q=>absurd q h⟩
theorem Nr {B:List (List AV)} {l:Nat} {c:List AV} (h:B[l]? = some c):B.set l c=B:=by
 apply List.ext_getElem?
 intro i
 by_cases q:l=i
 ·subst q
  rw [List.getElem?_set_self (Ak.1 h).1,h]
 ·rw [List.getElem?_set_ne q]
@[go_sem] theorem Zk7:FU Tryz.prog 100=none∧KN Tryz.prog 330=false∧C0 Tryz.prog 103 0=some (0,1,false)∧C0 Tryz.prog 103 1=some (1,1,false)∧C0 Tryz.prog 124 0=some (0,1,false)∧C0 Tryz.prog 124 2=some (2,7,true)∧C0 Tryz.prog 132 0=some (0,1,true)∧C0 Tryz.prog 132 1=some (1,7,true)∧OG Tryz.prog 330=some .u64∧CZ Tryz.prog 100=some [(0,1),(1,1)]∧EK Tryz.prog 330=false∧HY Tryz.prog 101=some (1,false):=by (repeat' apply Ae)<;>kernel_rfl
@[go_sem] theorem ZlL:HY Tryz.prog 330=some (1,false)∧Br Tryz.prog 100=some [.val (.string ⟨#[]⟩),Am 0]∧Br Tryz.prog 330=some [.val (.int .u64 0)]∧Br Tryz.prog 5=some [.val (.int .u8 0)]:=by (repeat' apply Ae)<;>kernel_rfl
end Go.Proofs.YtmcnjijeocmkgaaGreatDoor
namespace Go.Ev
open Go Go.RowKit
theorem Zr (B:Aq) (i j:Nat) (c d:List AV):((B.set i c).set j d).length=B.length:=by simp only [List.length_set]
@[go_sem] theorem ZkF (B X:Aq) (R:Aw) (L:Av) (i j k o:Nat) (c d:List AV):DW ⟨(B.set i c).set j d++X,R,L⟩ (.box (B.length+k) o)=decide (k<X.length):=by have h:=ZcF ((B.set i c).set j d) X R L k o;rwa [Zr] at h
@[go_sem] theorem Zjw (B X:Aq) (R:Aw) (L:Av) (i j o:Nat) (c d:List AV):DW ⟨(B.set i c).set j d++X,R,L⟩ (.box B.length o)=decide (0<X.length):=by have h:=ZbM ((B.set i c).set j d) X R L o;rwa [Zr] at h
@[go_sem] theorem Zfb (B X:Aq) (i j k:Nat) (c d:List AV):((B.set i c).set j d++X).getD (B.length+k) []=X.getD k []:=by have h:=WT (B.set i c) X j k d;rwa [List.length_set] at h
@[go_sem] theorem Zc4 (B X:Aq) (i j:Nat) (c d:List AV):((B.set i c).set j d++X).getD B.length []=X.getD 0 []:=by have h:=UJ (B.set i c) X j d;rwa [List.length_set] at h
@[go_sem] theorem ZiP (B X:Aq) (R:Aw) (L:Av) (i j k o:Nat) (c d:List AV):Bi ⟨(B.set i c).set j d++X,R,L⟩ (.box (B.length+k) o)=X.getD k []:=Zfb B X i j k c d
@[go_sem] theorem Zg7 (B X:Aq) (R:Aw) (L:Av) (i j o:Nat) (c d:List AV):Bi ⟨(B.set i c).set j d++X,R,L⟩ (.box B.length o)=X.getD 0 []:=Zc4 B X i j c d
@[go_sem] theorem Zmc (B X:Aq) (i j k:Nat) (c d x:List AV):((B.set i c).set j d++X).set (B.length+k) x=(B.set i c).set j d++X.set k x:=by have h:=ZfB (B.set i c) X j k d x;rwa [List.length_set] at h
@[go_sem] theorem Zk8 (B X:Aq) (i j:Nat) (c d x:List AV):((B.set i c).set j d++X).set B.length x=(B.set i c).set j d++X.set 0 x:=by have h:=Zdd (B.set i c) X j d x;rwa [List.length_set] at h
@[go_sem] theorem Zl9 (B X:Aq) (i j k:Nat) (c d:List AV):((B.set i c).set j d++X)[B.length+k]? = X[k]? := by have h:=Eu (B.set i c) X j k d;rwa [List.length_set] at h
@[go_sem] theorem Zli (B X:Aq) (i j:Nat) (c d:List AV):((B.set i c).set j d++X)[B.length]? = X[0]? := by have h:=C7 (B.set i c) X j d;rwa [List.length_set] at h
theorem E1 {P:Program} {w0:World} {st:St} {d:Bool} {fv:AV} {args:List AV} {k:AV→St→Prop} (h:k (.val (.bool false)) st):La P w0 false d fv args st k := .inl ⟨.val (.bool false),fun q=>(nomatch q),h⟩
end Go.Ev
namespace Go.Proofs.YtmcnjijeocmkgaaGreatDoor
open Go Go.RowKit Go.Ev
def Dm (n:Nat) (g:List Part) (b:List Part):Option Bool :=
 if decide ((b.length:Int)≤(g.length:Int)) then
  if 0≤0∧0≤(b.length:Int)∧(b.length:Int)≤(g.length:Int) then
   (EQ n (g.take b.length) b).bind fun h =>
   some (h)
  else none
 else
  some (false)
theorem DI (w0:World) (n:Nat) (B:Aq) (Rw:Aw) (L:Av) (a0:List Part) (a1:List Part) (r:Bool) (h:Dm n a0 a1=some r) :
  ACalls Tryz.prog w0 90 [.list (a0.map AD) .none,.list (a1.map AD) .none] ⟨B,Rw,L⟩ fun x st=>x = .val (.bool r)∧st=⟨B,Rw,L⟩:=by
 rw [Dm] at h
 refine hd [.tmp 4] Tryz.func90 Tryz.ntmps90 fun M0 W0 f d c b g e hs=>?_
 simp only [AB]
 exact go (tg (a:=([0,1],([4],()),[4],()))) h hs f d c b e (q1 (Ny w0 n)) trivial
def AU (b:Part) (g:Part):Bool :=
 ((decide (b.kind=g.kind)&&(decide (b.index=g.index)&&(Fv b.name g.name)))||((decide (b.kind=3))&&(decide (g.kind=2))))||((decide (b.kind=2))&&(decide (g.kind=3)))
theorem T8 (w0:World) (B:Aq) (Rw:Aw) (L:Av) (a0:Part) (a1:Part) (r:Bool) (h:AU a0 a1=r) :
  ACalls Tryz.prog w0 178 [.agg (Am a0.kind::(Am a0.index::([.val (.string a0.name)]))),.agg (Am a1.kind::(Am a1.index::([.val (.string a1.name)])))] ⟨B,Rw,L⟩ fun x st=>x = .val (.bool r)∧st=⟨B,Rw,L⟩:=by
 rw [AU] at h
 refine hd [.tmp 4] Tryz.func178 Tryz.ntmps178 fun M0 W0 e d c a f b hs=>?_
 simp only [AB]
 refine rg [2,3] hs ?_
 refine rg [4] hs ?_
 exact rT h hs a b
theorem RV (w0:World) (B:Aq) (Rw:Aw) (L:Av) (a0:Part) (a1:Part) :
  ACalls Tryz.prog w0 178 [.agg (Am a0.kind::(Am a0.index::([.val (.string a0.name)]))),.agg (Am a1.kind::(Am a1.index::([.val (.string a1.name)])))] ⟨B,Rw,L⟩ fun x st=>x = .val (.bool (AU a0 a1))∧st=⟨B,Rw,L⟩:=T8 w0 B Rw L a0 a1 _ rfl
def E7 (n:Nat)  : Option Bool :=
 some (true)
def Bl (n:Nat) (q:List Part) (a1:List Part) (z:Part→Part→Option Bool):Nat→Int→Option Bool
 | 0,_=>none
 | m+1,b =>
  if decide (b<(q.length:Int)) then
   (BJ q b).bind fun y =>
   (BJ a1 b).bind fun g =>
   (z y g).bind fun h =>
   if !h then
    some (false)
   else
    if A9 (b+1) then
     (Bl n q a1 z m) (b+1)
    else none
  else
   E7 n 
def Fz (n:Nat) (g:List Part) (b:List Part) (h:Part→Part→Option Bool):Option Bool :=
 if !(decide ((g.length:Int)=(b.length:Int))) then
  some (false)
 else
  Bl n g b h n 0
theorem O1 (w0:World) (n:Nat) (B:Aq) (Rw:Aw) (L:Av) (a0:List Part) (a1:List Part) (fa2:FuncId) (ca2:List AV) (a2:Part→Part→Option Bool) (ha2:∀ (x0:Part) (x1:Part) r,a2 x0 x1=some r→∀ B' rows,B <+: B'→Rw <+: rows→ACalls Tryz.prog w0 fa2 ([.agg (Am x0.kind::(Am x0.index::([.val (.string x0.name)]))),.agg (Am x1.kind::(Am x1.index::([.val (.string x1.name)])))]++ca2) ⟨B',rows,L⟩ fun v s=>v = .val (.bool r)∧s=⟨B',rows,L⟩) (r:Bool) (h:Fz n a0 a1 a2=some r) :
  ACalls Tryz.prog w0 177 [.list (a0.map AD) .none,.list (a1.map AD) .none,.clo fa2 ca2] ⟨B,Rw,L⟩ fun x st=>x = .val (.bool r)∧st=⟨B,Rw,L⟩:=by
 rw [Fz] at h
 refine hd [.tmp 6] Tryz.func177 Tryz.ntmps177 fun M0 W0 l i g c o f hs=>?_
 simp only [AB]
 have d:=Cf (o (.clo fa2 ca2) (by simp))
 refine rg [0,1,2] hs ?_
 apply An;intro K2 j
 refine rg [0,1,2,14] hs ?_
 refine BL h hs ?_ ?_<;>intro hs h
 ·refine rg [6] hs ?_
  exact rt h hs c f
 refine sk [0,1,2] hs j ?_
 clear j
 refine AA (fun e st=>Ck e st B Rw L [] [] [] (E7 n  = some r)) ?_ ?_
 ·intro K8 k
  refine rg [1,2,15,16,17] hs ?_
  apply Ar
  refine Az (fun m e st=>∃ (b:Int),Ck e st B Rw L [(1,true,.list (a1.map AD) .none),(2,true,.clo fa2 ca2),(15,true,.list (a0.map AD) .none),(16,true,Am (a0.length:Int)),(17,true,Am b)] [] [] (Bl n a0 a1 a2 m b=some r)) n ⟨0,([]),Rw,ef hs,ef hs,f,h⟩ ?_
  rintro ml10 e st ⟨b,Xl10,Rl10,rfl,rfl,f,h⟩ Ul10 Vl10
  cases ml10 with
  | zero=>cases h
  | succ ml10 =>
  rw [Bl] at h
  refine A8 l i g rfl c f (P0 d f) (P0 d f) ?_
  exact go (tg (a:=([1,2,15,16,17,18],([1,2,15,16,17],[1,2,7,8,15,16,17],[1,2,8,9,15,16,17],[1,2,15,16,17,30],([6],()),[1,2,15,16,17],[1,2,15,16,17],()),[],()))) h hs l i g c f (q1 ha2) (q2 k (fun e s=>Vl10 ml10 e s (Nat.lt_succ_self _)))
 ·clear h;rintro e st ⟨Xk7,Rk7,rfl,rfl,f,h⟩
  rw [E7] at h
  refine A8 l i g rfl c f (P0 d f) (P0 d f) ?_
  refine rg [6] hs ?_
  exact rt h hs c f
def Hu (n:Nat) (g:List Part) (b:List Part):Option Bool :=
 if 0≤0∧0≤(if (b.length:Int)<(g.length:Int) then (b.length:Int) else (g.length:Int))∧(if (b.length:Int)<(g.length:Int) then (b.length:Int) else (g.length:Int))≤(g.length:Int) then
  if 0≤0∧0≤(if (b.length:Int)<(g.length:Int) then (b.length:Int) else (g.length:Int))∧(if (b.length:Int)<(g.length:Int) then (b.length:Int) else (g.length:Int))≤(b.length:Int) then
   (Fz n (g.take ((if (b.length:Int)<(g.length:Int) then (b.length:Int) else (g.length:Int))).toNat) (b.take ((if (b.length:Int)<(g.length:Int) then (b.length:Int) else (g.length:Int))).toNat) (fun (q:Part) (y:Part)=>some (AU q y))).bind fun h =>
   some (h)
  else none
 else none
theorem P6 (w0:World) (n:Nat) (B:Aq) (Rw:Aw) (L:Av) (a0:List Part) (a1:List Part) (r:Bool) (h:Hu n a0 a1=some r) :
  ACalls Tryz.prog w0 98 [.list (a0.map AD) .none,.list (a1.map AD) .none] ⟨B,Rw,L⟩ fun x st=>x = .val (.bool r)∧st=⟨B,Rw,L⟩:=by
 rw [Hu] at h
 refine hd [.tmp 4] Tryz.func98 Tryz.ntmps98 fun M0 W0 l f e a o c hs=>?_
 simp only [AB]
 refine rg [0,1] hs ?_
 refine rg [0,1,5] hs ?_
 obtain ⟨i,h⟩:=Au h
 obtain ⟨g,h⟩:=Au h
 obtain ⟨k,hy6,h⟩:=bind_some h
 apply An;intro K3 b
 refine dk 8 2 1 [4] hs QQ ?_
 refine Ax _ (O1 w0 n _ _ _ (a0.take ((if (a1.length:Int)<(a0.length:Int) then (a1.length:Int) else (a0.length:Int))).toNat) (a1.take ((if (a1.length:Int)<(a0.length:Int) then (a1.length:Int) else (a0.length:Int))).toNat) 178 [] (fun (x0:Part) (x1:Part)=>some (AU x0 x1)) (fun x0 x1 r hx m rows' d j=>by cases hx;exact RV w0 _ _ _ x0 x1) _ hy6) (hv hs) ?_
 refine dn hs b ?_
 clear b
 exact rt h hs a c
def En (n:Nat) (a0:ByteArray) (g:List Part) (y:List Part):Option Bool :=
 (Df n a0).bind fun b =>
 if decide (b.2=0) then
  (Dm n g b.1).bind fun z =>
  if z then
   some (true)
  else
   (Dm n b.1 g).bind fun q =>
   if q then
    if 0≤(g.length:Int)∧(g.length:Int)≤(b.1.length:Int)∧(b.1.length:Int)≤(b.1.length:Int) then
     (Hu n (b.1.drop g.length) y).bind fun h =>
     some (h)
    else none
   else
    some (false)
 else
  some (false)
theorem QS (w0:World) (hE:JF w0) (hM:Jz w0) (hP:Pow10 w0) (n:Nat) (B:Aq) (Rw:Aw) (L:Av) (a0:ByteArray) (la1:Nat) (a1:List Part) (hla1:B[la1]? = some ([.list (a1.map AD) .none])) (la2:Nat) (a2:List Part) (hla2:B[la2]? = some ([.list (a2.map AD) .none])) (r:Bool) (h:En n a0 a1 a2=some r) :
  ACalls Tryz.prog w0 182 [.val (.string a0),.box la1 0,.box la2 0] ⟨B,Rw,L⟩ fun x st=>x = .val (.bool r)∧st=⟨B,Rw,L⟩:=by
 rw [En] at h
 refine hd [.tmp 4] Tryz.func182 Tryz.ntmps182 fun M0 W0 v p o a u k hs=>?_
 simp only [AB]
 have j:=(Ak.1 hla1).1
 have i:=(Ak.1 hla2).1
 have hs:=Ae (As hla1) hs
 have hs:=Ae (As hla2) hs
 refine rg [0,1,2] hs ?_
 obtain ⟨c,l,h⟩:=bind_some h
 refine rc 2 [1,2,5,6] hs ?_;intro K2 e
 refine Ax _ (F7 w0 hE hM hP n _ _ _ a0 _ l) (hv hs) ?_
 refine ne hs e ?_
 clear e
 apply An;intro K4 b
 rcases Bool.eq_false_or_eq_true (decide (c.2=0)) with hf5 | hf5
 ·replace h:=Be h hf5
  obtain ⟨s,d,h⟩:=bind_some h
  rcases Bool.eq_false_or_eq_true (s) with hf7 | hf7
  ·replace h:=Be h hf7
   have hs:=Ae hf5 hs
   have hs:=Ae hf7 hs
   refine dk 21 4 1 [4] hs QQ ?_
   refine Ax _ (DI w0 n _ _ _ a1 c.1 _ d) (hv hs) ?_
   refine nc hs ?_
   refine E1 ?_
   refine nc hs ?_
   refine E1 ?_
   refine dn hs b ?_
   clear b
   exact rt h hs a k
  ·replace h:=Bh h hf7
   obtain ⟨q,g,h⟩:=bind_some h
   rcases Bool.eq_false_or_eq_true (q) with hf9 | hf9
   ·replace h:=Be h hf9
    obtain ⟨m,h⟩:=Au h
    obtain ⟨t,f,h⟩:=bind_some h
    have hs:=Ae hf5 hs
    have hs:=Ae hf7 hs
    have hs:=Ae hf9 hs
    refine dk 21 4 1 [4] hs QQ ?_
    refine Ax _ (DI w0 n _ _ _ a1 c.1 _ d) (hv hs) ?_
    refine nc hs ?_
    refine Ax _ (DI w0 n _ _ _ c.1 a1 _ g) (hv hs) ?_
    refine nc hs ?_
    refine Ax _ (P6 w0 n _ _ _ (c.1.drop a1.length) a2 _ f) (hv hs) ?_
    refine dn hs b ?_
    clear b
    exact rt h hs a k
   ·replace h:=Bh h hf9
    have hs:=Ae hf5 hs
    have hs:=Ae hf7 hs
    have hs:=Ae hf9 hs
    refine dk 21 4 1 [4] hs QQ ?_
    refine Ax _ (DI w0 n _ _ _ a1 c.1 _ d) (hv hs) ?_
    refine nc hs ?_
    refine Ax _ (DI w0 n _ _ _ c.1 a1 _ g) (hv hs) ?_
    refine nc hs ?_
    refine E1 ?_
    refine dn hs b ?_
    clear b
    exact rt h hs a k
 ·replace h:=Bh h hf5
  have hs:=Ae hf5 hs
  refine dk 21 4 1 [4] hs QQ ?_
  refine E1 ?_
  refine nc hs ?_
  refine E1 ?_
  refine nc hs ?_
  refine E1 ?_
  refine dn hs b ?_
  clear b
  exact rt h hs a k
def FO (n:Nat) (h:List ByteArray) (g:List Part) (b:List Part):Option Bool :=
 (B7 n h (fun (q:ByteArray)=>En n q g b)).bind fun y =>
 some (y)
theorem Oh (w0:World) (hE:JF w0) (hM:Jz w0) (hP:Pow10 w0) (n:Nat) (B:Aq) (Rw:Aw) (L:Av) (a0:List ByteArray) (a1:List Part) (a2:List Part) (r:Bool) (h:FO n a0 a1 a2=some r) :
  ACalls Tryz.prog w0 101 [.list (a0.map BE) .none,.list (a1.map AD) .none,.list (a2.map AD) .none] ⟨B,Rw,L⟩ fun x st=>x = .val (.bool r)∧st=⟨B,Rw,L⟩:=by
 rw [FO] at h
 refine hd [.tmp 6] Tryz.func101 Tryz.ntmps101 fun M0 W0 l j i a o f hs=>?_
 simp only [AB]
 refine rg [0,4,5] hs ?_
 obtain ⟨p,d,h⟩:=bind_some h
 refine rc 2 [6] hs ?_;intro K2 b
 refine Ax _ (MA w0 n _ _ _ a0 182 [.box B.length 0,.box (B.length+1) 0] (fun (e:ByteArray)=>En n e a1 a2) (fun e r g m rows' c k=>by exact QS w0 hE hM hP n _ _ _ e _ a1 (D7 c ev) _ a2 (D7 c ev) _ g) _ d) (hv hs) ?_
 refine ne hs b ?_
 clear b
 exact rt h hs a f
def Gn (b:Part):Bool :=
 !(decide (b.kind=1))
theorem SH (w0:World) (B:Aq) (Rw:Aw) (L:Av) (a0:Part) (r:Bool) (h:Gn a0=r) :
  ACalls Tryz.prog w0 151 [.agg (Am a0.kind::(Am a0.index::([.val (.string a0.name)])))] ⟨B,Rw,L⟩ fun x st=>x = .val (.bool r)∧st=⟨B,Rw,L⟩:=by
 rw [Gn] at h
 refine hd [.tmp 2] Tryz.func151 Tryz.ntmps151 fun M0 W0 e d c a f b hs=>?_
 simp only [AB]
 refine rg [1] hs ?_
 refine rg [2] hs ?_
 exact rT h hs a b
theorem QX (w0:World) (B:Aq) (Rw:Aw) (L:Av) (a0:Part) :
  ACalls Tryz.prog w0 151 [.agg (Am a0.kind::(Am a0.index::([.val (.string a0.name)])))] ⟨B,Rw,L⟩ fun x st=>x = .val (.bool (Gn a0))∧st=⟨B,Rw,L⟩:=SH w0 B Rw L a0 _ rfl
def M8 (n:Nat)  : Option Int :=
 some (0)
def JQ (n:Nat) (h:List Int):Nat→Int→Option Int
 | 0,_=>none
 | m+1,b =>
  if decide (b<(h.length:Int)) then
   (BJ h b).bind fun g =>
   if !(decide (g=0)) then
    some (g)
   else
    if A9 (b+1) then
     (JQ n h m) (b+1)
    else none
  else
   M8 n 
def Lt (n:Nat) (b:List Int):Option Int :=
 JQ n b n 0
theorem P5 (w0:World) (n:Nat) (B:Aq) (Rw:Aw) (L:Av) (a0:List Int) (r:Int) (h:Lt n a0=some r) :
  ACalls Tryz.prog w0 72 [.list (a0.map avI) .none] ⟨B,Rw,L⟩ fun x st=>x=Am r∧st=⟨B,Rw,L⟩:=by
 rw [Lt] at h
 refine hd [.tmp 2] Tryz.func72 Tryz.ntmps72 fun M0 W0 j g f c k d hs=>?_
 simp only [AB]
 refine rg [0] hs ?_
 refine AA (fun e st=>Ck e st B Rw L [] [] [] (M8 n  = some r)) ?_ ?_
 ·intro K4 i
  refine rg [5,6,7] hs ?_
  apply Ar
  refine Az (fun m e st=>∃ (b:Int),Ck e st B Rw L [(5,true,.list (a0.map avI) .none),(6,true,Am (a0.length:Int)),(7,true,Am b)] [] [] (JQ n a0 m b=some r)) n ⟨0,([]),Rw,ef hs,ef hs,d,h⟩ ?_
  rintro ml6 e st ⟨b,Xl6,Rl6,rfl,rfl,d,h⟩ Ul6 Vl6
  cases ml6 with
  | zero=>cases h
  | succ ml6 =>
  rw [JQ] at h
  exact go (tg (a:=([5,6,7,8],([5,6,7],[4,5,6,7],[4,5,6,7,12],([2],()),[5,6,7],[5,6,7],()),[],()))) h hs j g f c d trivial (q2 i (fun e s=>Vl6 ml6 e s (Nat.lt_succ_self _)))
 ·clear h;rintro e st ⟨Xk3,Rk3,rfl,rfl,d,h⟩
  rw [M8] at h
  refine td j g f c d ?_
  refine rg [2] hs ?_
  exact rt h hs c d
def D6 (n:Nat) (g:Ty):Option ((List (List Part))) :=
 (IK n g).bind fun h =>
 if !(decide (h=0)) then
  some ([])
 else
  (Gh n g ([]) ([])).bind fun b =>
  some (b)
theorem Kw (w0:World) (hT:Lib.Utf8Tabs 2 3 w0) (n:Nat) (B:Aq) (Rw:Aw) (L:Av) (a0:Ty) (r:(List (List Part))) (h:D6 n a0=some r) :
  ACalls Tryz.prog w0 33 [.agg (a0.cs)] ⟨B,Rw,L⟩ fun x st=>x = .list (r.map (CJ AD)) .none∧st=⟨B,Rw,L⟩:=by
 rw [D6] at h
 refine hd [.tmp 2] Tryz.func33 Tryz.ntmps33 fun M0 W0 o m l a q d hs=>?_
 simp only [AB]
 refine rg [1] hs ?_
 apply An;intro K2 e
 obtain ⟨p,i,h⟩:=bind_some h
 refine rc 2 [1,7] hs ?_;intro K3 g
 refine Ax _ (Ql w0 hT n _ _ _ a0 _ i) (hv hs) ?_
 refine ne hs g ?_
 clear g
 refine BL h hs ?_ ?_<;>intro hs h
 ·refine rg [2] hs ?_
  exact rt h hs a d
 refine sk [1] hs e ?_
 clear e
 refine rg [1,3] hs ?_
 refine rg [1,3,4] hs ?_
 refine rg [1,3,4] hs ?_
 have d:=d.full 1 0
 obtain ⟨k,f,h⟩:=bind_some h
 refine rc 2 [3] hs ?_;intro K10 c
 refine DL _ (PZ w0 n _ _ _ a0 ([]) (B.length+1) ([]) .full (ef hs) d.enter (B.length+2) (ef hs) _ f) (hv hs) ?_;rintro _ _ ⟨rfl,Rg13,j,rfl,b⟩
 have d:=d.call b
 refine ne hs c ?_
 clear c
 refine rg [2] hs ?_
 exact rt h hs a d
def Jc (n:Nat)  (b:List (List Part)):Option ((List (List Part))) :=
 some (b)
def Es (n:Nat) (q:(List (List Part))):Nat→(List (List Part))→Int→Option ((List (List Part)))
 | 0,_,_=>none
 | m+1,g,b =>
  if decide (b<(q.length:Int)) then
   (BJ q b).bind fun h =>
   if (g.length+1)*24≤140737488355328∧g.length+1≤4611686018427387904 then
    if A9 (b+1) then
     (Es n q m) (g++([h])) (b+1)
    else none
   else none
  else
   Jc n g
def GA (n:Nat) (g:Ty):Option ((List (List Part))) :=
 (D6 n g).bind fun b =>
 Es n b n ([]) 0
theorem OM (w0:World) (hT:Lib.Utf8Tabs 2 3 w0) (n:Nat) (B:Aq) (Rw:Aw) (L:Av) (a0:Ty) (r:(List (List Part))) (h:GA n a0=some r) :
  ACalls Tryz.prog w0 84 [.agg (a0.cs)] ⟨B,Rw,L⟩ fun x st=>x = .list (r.map (CJ AD)) .none∧st=⟨B,Rw,L⟩:=by
 rw [GA] at h
 refine hd [.tmp 2] Tryz.func84 Tryz.ntmps84 fun M0 W0 u o l i v j hs=>?_
 simp only [AB]
 refine rg [1] hs ?_
 refine rg [1,3] hs ?_
 refine AA (fun e st=>∃ (c:List (List Part)) (f:Ev.Own),Ck e st B Rw L [(3,true,.list (c.map (CJ AD)) f)] [a0.cs] [(1,c.length,f)] (Jc n c=some r)) ?_ ?_
 ·intro K5 t
  obtain ⟨q,p,h⟩:=bind_some h
  refine rc 2 [3,7,8,9] hs ?_;intro K6 k
  refine Ax _ (Kw w0 hT n _ _ _ a0 _ p) (hv hs) ?_
  refine ne hs k ?_
  clear k
  apply Ar
  refine Az (fun m e st=>∃ (b:List (List Part)) (g:Int) (d:Ev.Own),Ck e st B Rw L [(3,true,.list (b.map (CJ AD)) d),(7,true,.list (q.map (CJ AD)) .none),(8,true,Am (q.length:Int)),(9,true,Am g)] [a0.cs] [(1,b.length,d)] (Es n q m b g=some r)) n ⟨([]),0,.full,([]),Rw,ef hs,ef hs,Owns.of_eq ((j).full 1 0) Dk,h⟩ ?_
  rintro ml8 e st ⟨b,g,d,Xl8,Rl8,rfl,rfl,j,h⟩ Ul8 Vl8
  cases ml8 with
  | zero=>cases h
  | succ ml8 =>
  rw [Es] at h
  exact go (tg (a:=([3,7,8,9,10],([3,7,8,9],[3,5,7,8,9],[3,7,8,9],[3,7,8,9],()),[3],()))) h hs u o l i j (q1 (ae SA LA)) (q2 t (fun e s=>Vl8 ml8 e s (Nat.lt_succ_self _)))
 ·clear h;rintro e st ⟨c,f,Xk4,Rk4,rfl,rfl,j,h⟩
  rw [Jc] at h
  exact go (tg (a:=([2],()))) h hs u o l i j trivial trivial
def D5 (n:Nat)  (b:Int):Option Int :=
 some (b)
def EB (n:Nat) (g:Ty):Option Int :=
 (IK n g).bind fun b =>
 if (decide (b=0))&&(!(decide (g.kind=9))) then
  D5 n 11
 else
  D5 n b
theorem KT (w0:World) (hT:Lib.Utf8Tabs 2 3 w0) (n:Nat) (B:Aq) (Rw:Aw) (L:Av) (a0:Ty) (r:Int) (h:EB n a0=some r) :
  ACalls Tryz.prog w0 73 [.agg (a0.cs)] ⟨B,Rw,L⟩ fun x st=>x=Am r∧st=⟨B,Rw,L⟩:=by
 rw [EB] at h
 refine hd [.tmp 2] Tryz.func73 Tryz.ntmps73 fun M0 W0 l g f c m i hs=>?_
 simp only [AB]
 refine rg [1] hs ?_
 obtain ⟨o,j,h⟩:=bind_some h
 refine rc 2 [1,3] hs ?_;intro K2 d
 refine Ax _ (Ql w0 hT n _ _ _ a0 _ j) (hv hs) ?_
 refine ne hs d ?_
 clear d
 refine AA (fun e st=>∃ (b:Int),Ck e st B Rw L [(3,true,Am b)] [a0.cs] [] (D5 n b=some r)) ?_ ?_
 ·intro K6 k
  exact go (tg (a:=([3,12],([3],()),[3],()))) h hs l g f c i trivial (q1 k)
 ·clear h;rintro e st ⟨b,Xk5,Rk5,rfl,rfl,i,h⟩
  rw [D5] at h
  refine td l g f c i ?_
  refine rg [2] hs ?_
  exact rt h hs c i
def NK (n:Nat)  (b:ByteArray):Option (ByteArray × Int) :=
 if 0≤1∧1≤(b.size:Int)∧(b.size:Int)≤(b.size:Int) then
  some ((b.extract 1 b.size,0))
 else none
def Ir (n:Nat) (q:List Part):Nat→ByteArray→Int→Option (ByteArray × Int)
 | 0,_,_=>none
 | m+1,g,b =>
  if decide (b<(q.length:Int)) then
   (BJ q b).bind fun y =>
   (Gy y).bind fun h =>
   if g.size+h.size≤9223372036854775807 then
    if A9 (b+1) then
     (Ir n q m) (g++h) (b+1)
    else none
   else none
  else
   NK n g
def Hi (n:Nat) (g:List Part):Option (ByteArray × Int) :=
 (JE n g).bind fun b =>
 if !(decide (b=0)) then
  some (((⟨#[]⟩:ByteArray),b))
 else
  Ir n g n (⟨#[]⟩:ByteArray) 0
theorem Nx (w0:World) (hP:Pow10 w0) (n:Nat) (B:Aq) (Rw:Aw) (L:Av) (a0:List Part) (r:ByteArray × Int) (h:Hi n a0=some r) :
  ACalls Tryz.prog w0 152 [.list (a0.map AD) .none] ⟨B,Rw,L⟩ fun x st=>x = .tup [.val (.string r.1),Am r.2]∧st=⟨B,Rw,L⟩:=by
 rw [Hi] at h
 refine hd [.tmp 2,.tmp 3] Tryz.func152 Tryz.ntmps152 fun M0 W0 F l k d N i hs=>?_
 simp only [AB]
 refine rg [0] hs ?_
 apply An;intro K2 t
 obtain ⟨O,C,h⟩:=bind_some h
 refine rc 2 [0,4] hs ?_;intro K3 v
 refine Ax _ (UC w0 hP n _ _ _ a0 _ C) (hv hs) ?_
 refine ne hs v ?_
 clear v
 refine rg [0,4,11] hs ?_
 refine BL h hs ?_ ?_<;>intro hs h
 ·refine rg [2,3] hs ?_
  exact rt h hs d i
 refine sk [0] hs t ?_
 clear t
 refine rg [0,5] hs ?_
 refine AA (fun e st=>∃ (g:ByteArray),Ck e st B Rw L [(5,true,.val (.string g))] [] [] (NK n g=some r)) ?_ ?_
 ·intro K11 u
  refine rg [5,13,14,15] hs ?_
  apply Ar
  refine Az (fun m e st=>∃ (b:ByteArray) (c:Int),Ck e st B Rw L [(5,true,.val (.string b)),(13,true,.list (a0.map AD) .none),(14,true,Am (a0.length:Int)),(15,true,Am c)] [] [] (Ir n a0 m b c=some r)) n ⟨(⟨#[]⟩:ByteArray),0,([]),Rw,ef hs,ef hs,i,h⟩ ?_
  rintro ml13 e st ⟨b,c,Xl13,Rl13,rfl,rfl,i,h⟩ Ul13 Vl13
  cases ml13 with
  | zero=>cases h
  | succ ml13 =>
  rw [Ir] at h
  refine td F l k d i ?_
  refine rg [5,13,14,15,16] hs ?_
  apply An;intro K15 j
  refine BL h hs ?_ ?_<;>intro hs h
  rotate_left
  ·refine sx [5] hs u ?_
   exact ⟨b,([]),Rl13,ef hs,ef hs,i,h⟩
  refine sk [5,13,14,15] hs j ?_
  clear j
  apply An;intro K17 z
  apply Ar
  obtain ⟨J,w,h⟩:=bind_some h
  obtain ⟨D,E,o⟩:=AY w
  have p:=AO (f:=AD) o
  have hs:=Ae p hs
  refine rg [5,7,13,14,15] hs ?_
  obtain ⟨K,H,h⟩:=bind_some h
  obtain ⟨y,h⟩:=Au h
  have q:=y
  try simp +decide only [go_sem] at q
  exact go (tg (a:=([5,13,14,15],[5,13,14,15],()))) h hs F l k d i (q1 (O8 w0 hP)) (q2 z (fun e s=>Vl13 ml13 e s (Nat.lt_succ_self _)))
 ·clear h;rintro e st ⟨g,Xk10,Rk10,rfl,rfl,i,h⟩
  rw [NK] at h
  refine td F l k d i ?_
  obtain ⟨G,h⟩:=Au h
  refine rg [2,3] hs ?_
  exact rt h hs d i
def Ic (n:Nat) (g:(List ByteArray)→(List ByteArray)→Int→Option ((List ByteArray) × (List ByteArray) × Int)) (b:Int) (q:List ByteArray) (h:List ByteArray):Option ((List ByteArray) × (List ByteArray) × Int) :=
 if A9 (b+1) then
  g q h (b+1)
 else none
def KW (n:Nat)  (g:List ByteArray) (b:List ByteArray):Option ((List ByteArray) × (List ByteArray) × Int) :=
 some ((g,b,0))
def EO (n:Nat) (y:((List Part) × Int)) (z:(List ByteArray)) (q:(List (List Part))):Nat→(List ByteArray)→(List ByteArray)→Int→Option ((List ByteArray) × (List ByteArray) × Int)
 | 0,_,_,_=>none
 | m+1,g,b,h =>
  if decide (h<(q.length:Int)) then
   (BJ q h).bind fun x36 =>
   (Hi n x36).bind fun y38 =>
   (FO n z y.1 x36).bind fun y40 =>
   if y40 then
    if (g.length+1)*16≤140737488355328∧g.length+1≤4611686018427387904 then
     Ic n (EO n y z q m) h (g++([y38.1])) b
    else none
   else
    if (b.length+1)*16≤140737488355328∧b.length+1≤4611686018427387904 then
     Ic n (EO n y z q m) h g (b++([y38.1]))
    else none
  else
   KW n g b
def Nc (n:Nat) (a0:List (ByteArray × Ex)) (z:Ty) (a2:ByteArray):Option ((List ByteArray) × (List ByteArray) × Int) :=
 (CS n a0).bind fun y4 =>
 (EB n z).bind fun y5 =>
 (Lt n ([y4,y5])).bind fun y =>
 if !(decide (y=0)) then
  some (([],[],y))
 else
  (Df n a2).bind fun b =>
  if !(decide (b.2=0)) then
   some (([],[],b.2))
  else
   (Bc n b.1 (fun (x0:Part)=>some (Gn x0))).bind fun h =>
   if h then
    some (([],[],22))
   else
    (I2 n a0).bind fun q =>
    (GA n z).bind fun g =>
    EO n b q g n ([]) ([]) 0
theorem Vv (w0:World) (hE:JF w0) (hM:Jz w0) (hP:Pow10 w0) (hT:Lib.Utf8Tabs 2 3 w0) (n:Nat) (B:Aq) (Rw:Aw) (L:Av) (a0:List (ByteArray × Ex)) (a1:Ty) (a2:ByteArray) (r:(List ByteArray) × (List ByteArray) × Int) (h:Nc n a0 a1 a2=some r) :
  ACalls Tryz.prog w0 63 [.agg ([.list (a0.map A7) .none]),.agg (a1.cs),.val (.string a2)] ⟨B,Rw,L⟩ fun x st=>x = .tup [.list (r.1.map BE) .none,.list (r.2.1.map BE) .none,Am r.2.2]∧st=⟨B,Rw,L⟩:=by
 rw [Nc] at h
 refine hd [.tmp 6,.tmp 7,.tmp 8] Tryz.func63 Tryz.ntmps63 fun M0 W0 hN H G i hu z hs=>?_
 simp only [AB]
 refine rg [2,3,4,6,7] hs ?_
 apply An;intro K2 ag
 obtain ⟨y4,av,h⟩:=bind_some h
 obtain ⟨y5,ax,h⟩:=bind_some h
 obtain ⟨y6,a4,h⟩:=bind_some h
 apply An;intro K3 ai
 refine dk 7 4 1 [2,3,4,6,7,9] hs QQ ?_
 refine Ax _ (Gw w0 hE hM hP n _ _ _ a0 _ av) (hv hs) ?_
 refine nc hs ?_
 refine Ax _ (KT w0 hT n _ _ _ a1 _ ax) (hv hs) ?_
 refine nc hs ?_
 refine Ax _ (P5 w0 n _ _ _ ([y4,y5]) _ a4) (hv hs) ?_
 refine dn hs ai ?_
 clear ai
 refine rg [2,3,4,6,7,9,23] hs ?_
 refine BL h hs ?_ ?_<;>intro hs h
 ·refine rg [6,7,8] hs ?_
  exact rt h hs i z
 refine sk [2,3,4,6,7] hs ag ?_
 clear ag
 obtain ⟨D,ao,h⟩:=bind_some h
 refine rc 2 [3,4,6,7,8,10] hs ?_;intro K10 K
 refine Ax _ (F7 w0 hE hM hP n _ _ _ a2 _ ao) (hv hs) ?_
 refine ne hs K ?_
 clear K
 apply An;intro K12 V
 refine rg [3,4,6,7,8,10,31] hs ?_
 refine BL h hs ?_ ?_<;>intro hs h
 ·refine rg [6,7,8] hs ?_
  exact rt h hs i z
 refine sk [3,4,6,7,10] hs V ?_
 clear V
 apply An;intro K16 aa
 obtain ⟨a7,hy18,h⟩:=bind_some h
 refine rc 2 [3,4,6,7,10,34] hs ?_;intro K17 Z
 refine Ax _ (DT w0 n _ _ _ D.1 151 [] (fun (x0:Part)=>some (Gn x0)) (fun x0 r hx B' rows' a9 a8=>by cases hx;exact QX w0 _ _ _ x0) _ hy18) (hv hs) ?_
 refine ne hs Z ?_
 clear Z
 refine BL h hs ?_ ?_<;>intro hs h
 ·refine rg [6,7,8] hs ?_
  exact rt h hs i z
 refine sk [3,4,6,7,10] hs aa ?_
 clear aa
 obtain ⟨E,ar,h⟩:=bind_some h
 refine rc 2 [4,6,7,10,11] hs ?_;intro K21 Y
 refine Ax _ (Qw w0 hE hM hP hT n _ _ _ a0 _ ar) (hv hs) ?_
 refine ne hs Y ?_
 clear Y
 refine AA (fun e st=>∃ (u:List ByteArray) (t:List ByteArray) (w:Ev.Own) (v:Ev.Own),Ck e st B Rw L [(6,true,.list (u.map BE) w),(7,true,.list (t.map BE) v)] [[.list (a0.map A7) .none],a1.cs] [(1,u.length,w),(1,t.length,v)] (KW n u t=some r)) ?_ ?_
 ·intro K25 am
  obtain ⟨C,ah,h⟩:=bind_some h
  refine rc 2 [6,7,10,11,38,39,40] hs ?_;intro K26 Q
  refine Ax _ (OM w0 hT n _ _ _ a1 _ ah) (hv hs) ?_
  refine ne hs Q ?_
  clear Q
  apply Ar
  refine Az (fun m e st=>∃ (c:List ByteArray) (g:List ByteArray) (b:Int) (j:Ev.Own) (d:Ev.Own),Ck e st B Rw L [(6,true,.list (c.map BE) j),(7,true,.list (g.map BE) d),(10,true,.list (D.1.map AD) .none),(11,true,.list (E.map BE) .none),(38,true,.list (C.map (CJ AD)) .none),(39,true,Am (C.length:Int)),(40,true,Am b)] [[.list (a0.map A7) .none],a1.cs] [(1,c.length,j),(1,g.length,d)] (EO n D E C m c g b=some r)) n ⟨([]),([]),0,.full,.full,([]),Rw,ef hs,ef hs,Owns.of_eq (((z).full 1 0).full 1 0) Dk,h⟩ ?_
  rintro ml28 e st ⟨c,g,b,j,d,Xl28,Rl28,rfl,rfl,z,h⟩ Ul28 Vl28
  cases ml28 with
  | zero=>cases h
  | succ ml28 =>
  rw [EO] at h
  have hU:=z.unders
  simp only [List.mem_cons,List.not_mem_nil,or_false,forall_eq_or_imp,forall_eq] at hU
  obtain ⟨ay,aw⟩:=hU
  refine td hN H G i z ?_
  refine rg [6,7,10,11,38,39,40,41] hs ?_
  apply An;intro K30 U
  refine BL h hs ?_ ?_<;>intro hs h
  rotate_left
  ·refine sx [6,7] hs am ?_
   exact ⟨c,g,j,d,([]),Rl28,ef hs,ef hs,Owns.of_eq (((z).swap (List.Perm.swap _ _ _)).swap (List.Perm.swap _ _ _)) Dk,h⟩
  refine sk [6,7,10,11,38,39,40] hs U ?_
  clear U
  refine AA (fun e st=>∃ (k:List ByteArray) (l:List ByteArray) (p:Ev.Own) (o:Ev.Own),Ck e st B Rw L [(6,true,.list (k.map BE) p),(7,true,.list (l.map BE) o),(10,true,.list (D.1.map AD) .none),(11,true,.list (E.map BE) .none),(38,true,.list (C.map (CJ AD)) .none),(39,true,Am (C.length:Int)),(40,true,Am b)] [[.list (a0.map A7) .none],a1.cs] [(1,k.length,p),(1,l.length,o)] (Ic n (EO n D E C ml28) b k l=some r)) ?_ ?_
  ·intro K34 O
   apply Ar
   obtain ⟨ap,aj,h⟩:=bind_some h
   obtain ⟨az,au,af⟩:=AY aj
   have ad:=AO (f:=(CJ AD)) af
   have hs:=Ae ad hs
   refine rg [6,7,10,11,13,38,39,40] hs ?_
   obtain ⟨a5,ak,h⟩:=bind_some h
   refine rc 2 [6,7,10,11,13,14,38,39,40] hs ?_;intro K37 ab
   refine Ax _ (Nx w0 hP n _ _ _ ap _ ak) (hv hs) ?_
   refine ne hs ab ?_
   clear ab
   obtain ⟨ba,aq,h⟩:=bind_some h
   refine rc 2 [6,7,10,11,14,38,39,40,52] hs ?_;intro K39 N
   refine Ax _ (Oh w0 hE hM hP n _ _ _ E D.1 ap _ aq) (hv hs) ?_
   refine ne hs N ?_
   clear N
   refine BL h hs ?_ ?_<;>intro hs h
   ·obtain ⟨J,h⟩:=Au h
    obtain ⟨a3,F,z,q⟩:=z.append (P:=Tryz.prog) M7 (by rw [JV];rfl) (by decide) 1 J.1 J.2
    replace q:=fun (ys:List AV) B L o2=>q (c.map BE) ys B L o2 Dk
    replace q:=fun (y:AV) B L o2=>q [y] B L o2 Dk ev
    try simp only [List.mem_singleton,List.mem_cons,List.not_mem_nil,or_false,forall_eq_or_imp,forall_eq,List.map_append,List.map_cons,List.map_nil,Fb,Ft,Fp,Ec,Ed,Fj,CG,Dp,Fq,BX,BW,Du,Dv,Dq,E8,Dt,Fa] at q
    have hs:=Ae q hs
    refine rl [6,7,10,11,38,39,40] hs O ?_
    exact ⟨(c++([a5.1])),g,a3,d,([]),F,ef hs,ef hs,Owns.of_eq (((z).swap (List.Perm.swap _ _ _)).swap (List.Perm.swap _ _ _)) Dk,h⟩
   exact go (tg (a:=([6,7,10,11,38,39,40],()))) h hs hN H G i z (q1 (ae M7 JV)) (q1 O)
  ·clear h;rintro e st ⟨k,l,p,o,Xk33,Rk33,rfl,rfl,z,h⟩
   rw [Ic] at h
   have hU:=z.unders
   simp only [List.mem_cons,List.not_mem_nil,or_false,forall_eq_or_imp,forall_eq] at hU
   obtain ⟨ay,aw⟩:=hU
   refine td hN H G i z ?_
   obtain ⟨a6,h⟩:=Au h
   refine rl [6,7,10,11,38,39,40] hs (fun e s=>Vl28 ml28 e s (Nat.lt_succ_self _)) ?_
   exact ⟨k,l,(b+1),p,o,([]),Rk33,ef hs,ef hs,Owns.of_eq (((z).swap (List.Perm.swap _ _ _)).swap (List.Perm.swap _ _ _)) Dk,h⟩
 ·clear h;rintro e st ⟨u,t,w,v,Xk24,Rk24,rfl,rfl,z,h⟩
  rw [KW] at h
  exact go (tg (a:=([6,7,8],()))) h hs hN H G i z trivial trivial
def MD (n:Nat)  : Option Bool :=
 some (true)
def Gg (n:Nat) (g:List ByteArray) (y:List ByteArray):Nat→Int→Option Bool
 | 0,_=>none
 | m+1,b =>
  if decide (b<(g.length:Int)) then
   (BJ g b).bind fun h =>
   (BJ y b).bind fun q =>
   if !(Fv h q) then
    some (false)
   else
    if A9 (b+1) then
     (Gg n g y m) (b+1)
    else none
  else
   MD n 
def LP (n:Nat) (g:List ByteArray) (b:List ByteArray):Option Bool :=
 if !(decide ((g.length:Int)=(b.length:Int))) then
  some (false)
 else
  Gg n g b n 0
theorem Zw (w0:World) (n:Nat) (B:Aq) (Rw:Aw) (L:Av) (a0:List ByteArray) (a1:List ByteArray) (r:Bool) (h:LP n a0 a1=some r) :
  ACalls Tryz.prog w0 25 [.list (a0.map BE) .none,.list (a1.map BE) .none] ⟨B,Rw,L⟩ fun x st=>x = .val (.bool r)∧st=⟨B,Rw,L⟩:=by
 rw [LP] at h
 refine hd [.tmp 4] Tryz.func25 Tryz.ntmps25 fun M0 W0 k i g c l d hs=>?_
 simp only [AB]
 refine rg [0,1] hs ?_
 apply An;intro K2 f
 refine rg [0,1,10] hs ?_
 refine BL h hs ?_ ?_<;>intro hs h
 ·refine rg [4] hs ?_
  exact rt h hs c d
 refine sk [0,1] hs f ?_
 clear f
 refine AA (fun e st=>Ck e st B Rw L [] [] [] (MD n  = some r)) ?_ ?_
 ·intro K8 j
  refine rg [0,1,5] hs ?_
  apply Ar
  refine Az (fun m e st=>∃ (b:Int),Ck e st B Rw L [(0,true,.list (a0.map BE) .none),(1,true,.list (a1.map BE) .none),(5,true,Am b)] [] [] (Gg n a0 a1 m b=some r)) n ⟨0,([]),Rw,ef hs,ef hs,d,h⟩ ?_
  rintro ml10 e st ⟨b,Xl10,Rl10,rfl,rfl,d,h⟩ Ul10 Vl10
  cases ml10 with
  | zero=>cases h
  | succ ml10 =>
  rw [Gg] at h
  exact go (tg (a:=([0,1,5,14],([0,1,5],[9,0,1,5,25],([4],()),[0,1,5],[0,1,5],()),[],()))) h hs k i g c d trivial (q2 j (fun e s=>Vl10 ml10 e s (Nat.lt_succ_self _)))
 ·clear h;rintro e st ⟨Xk7,Rk7,rfl,rfl,d,h⟩
  rw [MD] at h
  refine td k i g c d ?_
  refine rg [4] hs ?_
  exact rt h hs c d
def JL (n:Nat)  : Option Bool :=
 some (true)
def EC (n:Nat) (y:List Part) (q:List Part):Nat→Int→Option Bool
 | 0,_=>none
 | m+1,b =>
  if decide (b<(q.length:Int)) then
   (BJ y b).bind fun g =>
   (BJ q b).bind fun h =>
   if !(decide (g.kind=h.kind)&&(decide (g.index=h.index)&&(Fv g.name h.name))) then
    some (false)
   else
    if A9 (b+1) then
     (EC n y q m) (b+1)
    else none
  else
   JL n 
def Ho (n:Nat) (g:List Part) (b:List Part):Option Bool :=
 if decide ((g.length:Int)<(b.length:Int)) then
  some (false)
 else
  EC n g b n 0
theorem HW (w0:World) (n:Nat) (B:Aq) (Rw:Aw) (L:Av) (a0:List Part) (a1:List Part) (r:Bool) (h:Ho n a0 a1=some r) :
  ACalls Tryz.prog w0 158 [.list (a0.map AD) .none,.list (a1.map AD) .none] ⟨B,Rw,L⟩ fun x st=>x = .val (.bool r)∧st=⟨B,Rw,L⟩:=by
 rw [Ho] at h
 refine hd [.tmp 4] Tryz.func158 Tryz.ntmps158 fun M0 W0 k i g c l d hs=>?_
 simp only [AB]
 refine rg [0,1] hs ?_
 apply An;intro K2 f
 refine rg [0,1,10] hs ?_
 refine BL h hs ?_ ?_<;>intro hs h
 ·refine rg [4] hs ?_
  exact rt h hs c d
 refine sk [0,1] hs f ?_
 clear f
 refine AA (fun e st=>Ck e st B Rw L [] [] [] (JL n  = some r)) ?_ ?_
 ·intro K8 j
  refine rg [0,1,5] hs ?_
  apply Ar
  refine Az (fun m e st=>∃ (b:Int),Ck e st B Rw L [(0,true,.list (a0.map AD) .none),(1,true,.list (a1.map AD) .none),(5,true,Am b)] [] [] (EC n a0 a1 m b=some r)) n ⟨0,([]),Rw,ef hs,ef hs,d,h⟩ ?_
  rintro ml10 e st ⟨b,Xl10,Rl10,rfl,rfl,d,h⟩ Ul10 Vl10
  cases ml10 with
  | zero=>cases h
  | succ ml10 =>
  rw [EC] at h
  exact go (tg (a:=([0,1,5,14],([0,1,5],[9,0,1,5,25],([4],()),[0,1,5],[0,1,5],()),[],()))) h hs k i g c d trivial (q2 j (fun e s=>Vl10 ml10 e s (Nat.lt_succ_self _)))
 ·clear h;rintro e st ⟨Xk7,Rk7,rfl,rfl,d,h⟩
  rw [JL] at h
  refine td k i g c d ?_
  refine rg [4] hs ?_
  exact rt h hs c d
def Cb (b:Part):Bool :=
 (decide (b.kind=3))||(decide (b.kind=2))
theorem U5 (w0:World) (B:Aq) (Rw:Aw) (L:Av) (a0:Part) (r:Bool) (h:Cb a0=r) :
  ACalls Tryz.prog w0 184 [.agg (Am a0.kind::(Am a0.index::([.val (.string a0.name)])))] ⟨B,Rw,L⟩ fun x st=>x = .val (.bool r)∧st=⟨B,Rw,L⟩:=by
 rw [Cb] at h
 refine hd [.tmp 2] Tryz.func184 Tryz.ntmps184 fun M0 W0 e d c a f b hs=>?_
 simp only [AB]
 refine rg [1] hs ?_
 refine rg [2] hs ?_
 exact rT h hs a b
theorem D8 (w0:World) (B:Aq) (Rw:Aw) (L:Av) (a0:Part) :
  ACalls Tryz.prog w0 184 [.agg (Am a0.kind::(Am a0.index::([.val (.string a0.name)])))] ⟨B,Rw,L⟩ fun x st=>x = .val (.bool (Cb a0))∧st=⟨B,Rw,L⟩:=U5 w0 B Rw L a0 _ rfl
end Go.Proofs.YtmcnjijeocmkgaaGreatDoor
