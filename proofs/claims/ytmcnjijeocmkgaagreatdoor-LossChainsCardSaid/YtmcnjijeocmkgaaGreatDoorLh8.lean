/-
  Part 8 of the proof: rules and walks that the claim's last text uses.
-/
import Derived.Shelf.Vars
import Derived.Test.YtmcnjijeocmkgaaGreatDoorLh7
set_option linter.unusedSimpArgs false
set_option linter.unusedVariables false
set_option maxRecDepth 100000
set_option maxHeartbeats 4000000
namespace Go.Proofs.YtmcnjijeocmkgaaGreatDoor
open Go Go.RowKit Go.Ev
def KL (n:Nat)  : Option Int :=
 some (0)
def Ib (n:Nat) (q:List (ByteArray × Ex)):Nat→Int→Option Int
 | 0,_=>none
 | m+1,b =>
  if decide (b<(q.length:Int)) then
   (BJ q b).bind fun h =>
   (HM n h.2).bind fun g =>
   if !(decide (g=0)) then
    some (g)
   else
    if A9 (b+1) then
     (Ib n q m) (b+1)
    else none
  else
   KL n 
def Hj (n:Nat) (b:List (ByteArray × Ex)):Option Int :=
 Ib n b n 0
theorem KA (w0:World) (hE:JF w0) (hM:Jz w0) (hP:Pow10 w0) (hT:Lib.Utf8Tabs 2 3 w0) (n:Nat) (B:Aq) (Rw:Aw) (L:Av) (a0:List (ByteArray × Ex)) (r:Int) (h:Hj n a0=some r) :
  ACalls Tryz.prog w0 74 [.agg ([.list (a0.map A7) .none])] ⟨B,Rw,L⟩ fun x st=>x=Am r∧st=⟨B,Rw,L⟩:=by
 rw [Hj] at h
 refine hd [.tmp 2] Tryz.func74 Tryz.ntmps74 fun M0 W0 w k j b D d hs=>?_
 simp only [AB]
 refine rg [1] hs ?_
 refine AA (fun e st=>Ck e st B Rw L [] [[.list (a0.map A7) .none]] [] (KL n  = some r)) ?_ ?_
 ·intro K4 z
  refine rg [7,8,9] hs ?_
  apply Ar
  refine Az (fun m e st=>∃ (c:Int),Ck e st B Rw L [(7,true,.list (a0.map A7) .none),(8,true,Am (a0.length:Int)),(9,true,Am c)] [[.list (a0.map A7) .none]] [] (Ib n a0 m c=some r)) n ⟨0,([]),Rw,ef hs,ef hs,d,h⟩ ?_
  rintro ml6 e st ⟨c,Xl6,Rl6,rfl,rfl,d,h⟩ Ul6 Vl6
  cases ml6 with
  | zero=>cases h
  | succ ml6 =>
  rw [Ib] at h
  refine td w k j b d ?_
  refine rg [7,8,9,10] hs ?_
  apply An;intro K8 p
  refine BL h hs ?_ ?_<;>intro hs h
  rotate_left
  ·refine sx [] hs z ?_
   exact ⟨([]),Rl6,ef hs,ef hs,d,h⟩
  refine sk [7,8,9] hs p ?_
  clear p
  apply An;intro K10 q
  apply Ar
  obtain ⟨y,o,h⟩:=bind_some h
  obtain ⟨v,u,i⟩:=AY o
  have g:=AO (f:=A7) i
  have hs:=Ae g hs
  refine rg [4,7,8,9] hs ?_
  obtain ⟨C,l,h⟩:=bind_some h
  refine rc 2 [5,7,8,9] hs ?_;intro K13 t
  refine Ax _ (PY w0 hE hM hP hT n _ _ _ y.2 _ l) (hv hs) ?_
  exact go (tg (a:=([5,7,8,9,17],([2],()),[7,8,9],[7,8,9],()))) h hs w k j b d trivial (q3 t q (fun e s=>Vl6 ml6 e s (Nat.lt_succ_self _)))
 ·clear h;rintro e st ⟨Xk3,Rk3,rfl,rfl,d,h⟩
  rw [KL] at h
  refine td w k j b d ?_
  refine rg [2] hs ?_
  exact rt h hs b d
def Do (n:Nat) (h:List Part) (b:List Part):Option Bool :=
 (Dm n h b).bind fun g =>
 some (g)
theorem Md (w0:World) (n:Nat) (B:Aq) (Rw:Aw) (L:Av) (a0:List Part) (la1:Nat) (a1:List Part) (hla1:B[la1]? = some ([.list (a1.map AD) .none])) (r:Bool) (h:Do n a0 a1=some r) :
  ACalls Tryz.prog w0 304 [.list (a0.map AD) .none,.box la1 0] ⟨B,Rw,L⟩ fun x st=>x = .val (.bool r)∧st=⟨B,Rw,L⟩:=by
 rw [Do] at h
 refine hd [.tmp 3] Tryz.func304 Tryz.ntmps304 fun M0 W0 g e d b i f hs=>?_
 simp only [AB]
 have c:=(Ak.1 hla1).1
 have hs:=Ae (As hla1) hs
 exact go (tg (a:=([0,1],[3],()))) h hs g e d b f (q1 (DI w0 n)) trivial
def F6 (n:Nat) (q:Cps) (g:List Part):Option Bool :=
 (Ba n q.targets (fun (h:List Part)=>Do n h g)).bind fun b =>
 some (b)
theorem NG (w0:World) (n:Nat) (B:Aq) (Rw:Aw) (L:Av) (la0:Nat) (a0:Cps) (hla0:B[la0]? = some (.list (a0.rules.map A7) .none::(.list (a0.targets.map (CJ AD)) .none::(a0.mid.cs)))) (a1:List Part) (r:Bool) (h:F6 n a0 a1=some r) :
  ACalls Tryz.prog w0 243 [.box la0 0,.list (a1.map AD) .none] ⟨B,Rw,L⟩ fun x st=>x = .val (.bool r)∧st=⟨B,Rw,L⟩:=by
 rw [F6] at h
 refine hd [.tmp 4] Tryz.func243 Tryz.ntmps243 fun M0 W0 m k j a p g hs=>?_
 simp only [AB]
 have c:=(Ak.1 hla0).1
 have hs:=Ae (As hla0) hs
 refine rg [0,3] hs ?_
 obtain ⟨q,d,h⟩:=bind_some h
 refine rc 2 [4] hs ?_;intro K2 b
 refine Ax _ (E9 w0 n _ _ _ a0.targets 304 [.box B.length 0] (fun (f:List Part)=>Do n f a1) (fun f r i o rows' e l=>by exact Md w0 n _ _ _ f _ a1 (D7 e (ef hs)) _ i) _ d) (hv hs) ?_
 refine ne hs b ?_
 clear b
 exact rt h hs a g
def KO (n:Nat)  (b:Bool) (b0_k3:Ty) (b1_k3:Int × ByteArray × Int × Ty × List Vl):Option ((Int × ByteArray × Int × Ty × List Vl) × Bool) :=
 some ((b1_k3,b))
def Ik (n:Nat) (y:List Part):Nat→Bool→Int→Ty→(Int × ByteArray × Int × Ty × List Vl)→Option ((Int × ByteArray × Int × Ty × List Vl) × Bool)
 | 0,_,_,_,_=>none
 | m+1,h,b,b0_l6,b1_l6 =>
  if decide (b<(y.length:Int)) then
   (BJ y b).bind fun q =>
   if (!(decide (q.kind=1)))||(!(decide (b0_l6.kind=9))) then
    some (((0,(⟨#[]⟩:ByteArray),0,Ty.mk 0 0 0 0 ([]) ([]) ([]),[]),false))
   else
    (Jt n b0_l6 q.name).bind fun g =>
    if !g.2 then
     some (((0,(⟨#[]⟩:ByteArray),0,Ty.mk 0 0 0 0 ([]) ([]) ([]),[]),false))
    else
     if A9 (b+1) then
      (Ik n y m) g.2 (b+1) g.1.2.2.2.1 g.1
     else none
  else
   KO n h b0_l6 b1_l6
def I0 (n:Nat) (g:Ty) (b:List Part):Option ((Int × ByteArray × Int × Ty × List Vl) × Bool) :=
 Ik n b n false 0 g ((0,(⟨#[]⟩:ByteArray),0,Ty.mk 0 0 0 0 ([]) ([]) ([]),[]))
theorem Ox (w0:World) (n:Nat) (B:Aq) (Rw:Aw) (L:Av) (a0:Ty) (a1:List Part) (r:(Int × ByteArray × Int × Ty × List Vl) × Bool) (h:I0 n a0 a1=some r) :
  ACalls Tryz.prog w0 165 [.agg (a0.cs),.list (a1.map AD) .none] ⟨B,Rw,L⟩ fun x st=>x = .tup [.agg (Am r.1.1::(.val (.string r.1.2.1)::(Am r.1.2.2.1::((r.1.2.2.2.1.cs)++([.list (r.1.2.2.2.2.map Dw) .none]))))),.val (.bool r.2)]∧st=⟨B,Rw,L⟩:=by
 rw [I0] at h
 refine hd [.cell 4 95,.tmp 5] Tryz.func165 Tryz.ntmps165 fun M0 W0 Y N K g hu t hs=>?_
 simp only [AB]
 refine rg [1,2,4,5] hs ?_
 refine AA (fun e st=>∃ (k:Bool) (q:Ty) (b:Int × ByteArray × Int × Ty × List Vl) (j:List AV) (o:List AV),Ck e st B Rw L [(4,true,.box (B.length+1) 0),(5,true,.val (.bool k))] [j,o] [] (j.map AV.pubCell=q.cs∧o.map AV.pubCell=Am b.1::(.val (.string b.2.1)::(Am b.2.2.1::((b.2.2.2.1.cs)++([.list (b.2.2.2.2.map Dw) .none]))))∧KO n k q b=some r)) ?_ ?_
 ·intro K4 V
  refine rg [2,4,5,8,9,10] hs ?_
  apply Ar
  refine Az (fun m e st=>∃ (i:Bool) (c:Int) (d:Ty) (a:Int × ByteArray × Int × Ty × List Vl) (p:List AV) (l:List AV),Ck e st B Rw L [(2,true,.box B.length 0),(4,true,.box (B.length+1) 0),(5,true,.val (.bool i)),(8,true,.list (a1.map AD) .none),(9,true,Am (a1.length:Int)),(10,true,Am c)] [p,l] [] (p.map AV.pubCell=d.cs∧l.map AV.pubCell=Am a.1::(.val (.string a.2.1)::(Am a.2.2.1::((a.2.2.2.1.cs)++([.list (a.2.2.2.2.map Dw) .none]))))∧Ik n a1 m i c d a=some r)) n ⟨false,0,a0,((0,(⟨#[]⟩:ByteArray),0,Ty.mk 0 0 0 0 ([]) ([]) ([]),[])),_,_,([]),Rw,ef hs,ef hs,t,ef hs,ef hs,h⟩ ?_
  rintro ml6 e st ⟨i,c,d,a,p,l,Xl6,Rl6,rfl,rfl,t,G,E,h⟩ Ul6 Vl6
  cases ml6 with
  | zero=>cases h
  | succ ml6 =>
  rw [Ik] at h
  refine Gz B.length (by first | rfl | (simp only [E3,Dx,Eu,C7];rfl)) G ?_;simp +decide only [go_sem,Nat.reduceAdd]
  refine Gz (B.length+1) (by first | rfl | (simp only [E3,Dx,Eu,C7];rfl)) E ?_;simp +decide only [go_sem,Nat.reduceAdd]
  show Eb _ _ _ _ _ _ _ _ [(2,true,.box B.length 0),(4,true,.box (B.length+1) 0),(5,true,.val (.bool i)),(8,true,.list (a1.map AD) .none),(9,true,Am (a1.length:Int)),(10,true,Am c)] ⟨B++([d.cs,Am a.1::(.val (.string a.2.1)::(Am a.2.2.1::((a.2.2.2.1.cs)++([.list (a.2.2.2.2.map Dw) .none]))))]++Xl6),Rl6,L⟩
  refine td Y N K g t ?_
  refine rg [2,4,5,8,9,10,11] hs ?_
  apply An;intro K8 J
  refine BL h hs ?_ ?_<;>intro hs h
  rotate_left
  ·refine sx [4,5] hs V ?_
   exact ⟨i,d,a,_,_,([]),Rl6,ef hs,ef hs,t,ef hs,ef hs,h⟩
  refine sk [2,4,8,9,10] hs J ?_
  clear J
  apply An;intro K10 w
  apply Ar
  obtain ⟨u,H,h⟩:=bind_some h
  obtain ⟨U,Q,D⟩:=AY H
  have C:=AO (f:=AD) D
  have hs:=Ae C hs
  refine rg [2,4,7,8,9,10] hs ?_
  apply An;intro K13 y
  refine rg [2,4,7,8,9,10,21] hs ?_
  refine BL h hs ?_ ?_<;>intro hs h
  ·refine rg [4,5] hs ?_
   exact rt h hs g t
  refine sk [2,4,7,8,9,10] hs y ?_
  clear y
  apply An;intro K17 z
  obtain ⟨F,O,h⟩:=bind_some h
  refine rc 2 [2,4,5,8,9,10] hs ?_;intro K18 v
  refine Ax _ (QH w0 n _ _ _ d u.name _ O) (hv hs) ?_
  refine ne hs v ?_
  clear v
  refine rg [2,4,5,8,9,10,31] hs ?_
  refine BL h hs ?_ ?_<;>intro hs h
  ·refine rg [4,5] hs ?_
   exact rt h hs g t
  refine sk [2,4,5,8,9,10] hs z ?_
  clear z
  refine rl [2,4,5,8,9,10] hs w ?_
  clear w
  obtain ⟨Z,h⟩:=Au h
  refine rl [2,4,5,8,9,10] hs (fun e s=>Vl6 ml6 e s (Nat.lt_succ_self _)) ?_
  exact ⟨F.2,(c+1),F.1.2.2.2.1,F.1,_,_,([Am u.kind::(Am u.index::([.val (.string u.name)]))]),Rl6,ef hs,ef hs,t,ef hs,ef hs,h⟩
 ·clear h;rintro e st ⟨k,q,b,j,o,Xk3,Rk3,rfl,rfl,t,G,E,h⟩
  rw [KO] at h
  refine Gz B.length (by first | rfl | (simp only [E3,Dx,Eu,C7];rfl)) G ?_;simp +decide only [go_sem,Nat.reduceAdd]
  refine Gz (B.length+1) (by first | rfl | (simp only [E3,Dx,Eu,C7];rfl)) E ?_;simp +decide only [go_sem,Nat.reduceAdd]
  show Eb _ _ _ _ _ _ _ _ [(4,true,.box (B.length+1) 0),(5,true,.val (.bool k))] ⟨B++([q.cs,Am b.1::(.val (.string b.2.1)::(Am b.2.2.1::((b.2.2.2.1.cs)++([.list (b.2.2.2.2.map Dw) .none]))))]++Xk3),Rk3,L⟩
  refine td Y N K g t ?_
  refine rg [4,5] hs ?_
  exact rt h hs g t
def J1 (b:Part):Bool :=
 decide (b.kind=3)
theorem Yk (w0:World) (B:Aq) (Rw:Aw) (L:Av) (a0:Part) (r:Bool) (h:J1 a0=r) :
  ACalls Tryz.prog w0 341 [.agg (Am a0.kind::(Am a0.index::([.val (.string a0.name)])))] ⟨B,Rw,L⟩ fun x st=>x = .val (.bool r)∧st=⟨B,Rw,L⟩:=by
 rw [J1] at h
 refine hd [.tmp 2] Tryz.func341 Tryz.ntmps341 fun M0 W0 e d c a f b hs=>?_
 simp only [AB]
 refine rg [1] hs ?_
 refine rg [2] hs ?_
 exact rT h hs a b
theorem Ww (w0:World) (B:Aq) (Rw:Aw) (L:Av) (a0:Part) :
  ACalls Tryz.prog w0 341 [.agg (Am a0.kind::(Am a0.index::([.val (.string a0.name)])))] ⟨B,Rw,L⟩ fun x st=>x = .val (.bool (J1 a0))∧st=⟨B,Rw,L⟩:=Yk w0 B Rw L a0 _ rfl
def PD (n:Nat) (h:List Part):Option Bool :=
 (Bc n h (fun (g:Part)=>some (J1 g))).bind fun b =>
 some (b)
theorem V1 (w0:World) (n:Nat) (B:Aq) (Rw:Aw) (L:Av) (a0:List Part) (r:Bool) (h:PD n a0=some r) :
  ACalls Tryz.prog w0 306 [.list (a0.map AD) .none] ⟨B,Rw,L⟩ fun x st=>x = .val (.bool r)∧st=⟨B,Rw,L⟩:=by
 rw [PD] at h
 refine hd [.tmp 2] Tryz.func306 Tryz.ntmps306 fun M0 W0 i f e a k c hs=>?_
 simp only [AB]
 refine rg [0] hs ?_
 obtain ⟨l,hy3,h⟩:=bind_some h
 refine rc 2 [2] hs ?_;intro K2 b
 refine Ax _ (DT w0 n _ _ _ a0 341 [] (fun (x0:Part)=>some (J1 x0)) (fun x0 r hx j rows' d g=>by cases hx;exact Ww w0 _ _ _ x0) _ hy3) (hv hs) ?_
 refine ne hs b ?_
 clear b
 exact rt h hs a c
def HJ (g:Part) (b:Vl):Bool :=
 if decide (g.kind=1) then
  decide (b.kind=9)
 else
  if decide (g.kind=4) then
   (decide (b.kind=10))&&(decide ((b.list.length:Int)=1))
  else
   decide (b.kind=8)
theorem RI (w0:World) (B:Aq) (Rw:Aw) (L:Av) (a0:Part) (a1:Vl) (r:Bool) (h:HJ a0 a1=r) :
  ACalls Tryz.prog w0 339 [.agg (Am a0.kind::(Am a0.index::([.val (.string a0.name)]))),.agg (a1.cs)] ⟨B,Rw,L⟩ fun x st=>x = .val (.bool r)∧st=⟨B,Rw,L⟩:=by
 rw [HJ] at h
 refine hd [.tmp 4] Tryz.func339 Tryz.ntmps339 fun M0 W0 f d c b g e hs=>?_
 simp only [AB]
 exact go (tg (a:=([2,3],[3,6],[3,6,7],([4],()),[3,12],([4],()),[3],[4],()))) h hs f d c b e trivial trivial
theorem Qb (w0:World) (B:Aq) (Rw:Aw) (L:Av) (a0:Part) (a1:Vl) :
  ACalls Tryz.prog w0 339 [.agg (Am a0.kind::(Am a0.index::([.val (.string a0.name)]))),.agg (a1.cs)] ⟨B,Rw,L⟩ fun x st=>x = .val (.bool (HJ a0 a1))∧st=⟨B,Rw,L⟩:=RI w0 B Rw L a0 a1 _ rfl
def Kq (g:ByteArray × Vl) (b:ByteArray):Bool :=
 Fv g.1 b
theorem Yy (w0:World) (B:Aq) (Rw:Aw) (L:Av) (a0:ByteArray × Vl) (la1:Nat) (a1:ByteArray) (hla1:B[la1]? = some ([.val (.string a1)])) (r:Bool) (h:Kq a0 a1=r) :
  ACalls Tryz.prog w0 373 [.agg (.val (.string a0.1)::(a0.2.cs)),.box la1 0] ⟨B,Rw,L⟩ fun x st=>x = .val (.bool r)∧st=⟨B,Rw,L⟩:=by
 rw [Kq] at h
 refine hd [.tmp 3] Tryz.func373 Tryz.ntmps373 fun M0 W0 f e d a g c hs=>?_
 simp only [AB]
 have b:=(Ak.1 hla1).1
 have hs:=Ae (As hla1) hs
 refine rg [1,2] hs ?_
 refine rg [3] hs ?_
 exact rT h hs a c
theorem Wl (w0:World) (B:Aq) (Rw:Aw) (L:Av) (a0:ByteArray × Vl) (la1:Nat) (a1:ByteArray) (hla1:B[la1]? = some ([.val (.string a1)])) :
  ACalls Tryz.prog w0 373 [.agg (.val (.string a0.1)::(a0.2.cs)),.box la1 0] ⟨B,Rw,L⟩ fun x st=>x = .val (.bool (Kq a0 a1))∧st=⟨B,Rw,L⟩:=Yy w0 B Rw L a0 la1 a1 hla1 _ rfl
def SE (n:Nat) (q:Vl) (g:ByteArray):Option Int :=
 (DF n q.fields (fun (h:ByteArray × Vl)=>some (Kq h g))).bind fun b =>
 some (b)
theorem Zbw (w0:World) (n:Nat) (B:Aq) (Rw:Aw) (L:Av) (a0:Vl) (a1:ByteArray) (r:Int) (h:SE n a0 a1=some r) :
  ACalls Tryz.prog w0 363 [.agg (a0.cs),.val (.string a1)] ⟨B,Rw,L⟩ fun x st=>x=Am r∧st=⟨B,Rw,L⟩:=by
 rw [SE] at h
 refine hd [.tmp 4] Tryz.func363 Tryz.ntmps363 fun M0 W0 g e d a j c hs=>?_
 simp only [AB]
 refine rg [2,3] hs ?_
 obtain ⟨k,hy3,h⟩:=bind_some h
 refine rc 2 [4] hs ?_;intro K2 b
 refine Ax _ (Jp w0 n _ _ _ a0.fields 373 [.box (B.length+1) 0] (fun (x0:ByteArray × Vl)=>some (Kq x0 a1)) (fun x0 r hx i rows' hB' f=>by cases hx;exact Wl w0 _ _ _ x0 _ a1 (D7 hB' ev)) _ hy3) (hv hs) ?_
 refine ne hs b ?_
 clear b
 exact rt h hs a c
def Jh (n:Nat)  : Option ((List Vl)) :=
 some ([])
def Nj (n:Nat) (b:Part) (g:Vl):Option ((List Vl)) :=
 if decide (b.kind=1) then
  (SE n g b.name).bind fun q =>
  if decide (0≤q) then
   (BJ g.fields q).bind fun h =>
   some ([h.2])
  else
   Jh n 
 else
  if (decide (b.kind=3))||((decide (b.kind=4))&&(Fv g.text b.name)) then
   some (g.list)
  else
   if (decide (b.kind=2))&&(decide (b.index<(g.list.length:Int))) then
    if A9 (b.index+1) then
     if 0≤b.index∧b.index≤b.index+1∧b.index+1≤(g.list.length:Int) then
      some ((g.list.take (b.index+1).toNat).drop b.index.toNat)
     else none
    else none
   else
    Jh n 
theorem UU (w0:World) (n:Nat) (B:Aq) (Rw:Aw) (L:Av) (a0:Part) (a1:Vl) (r:(List Vl)) (h:Nj n a0 a1=some r) :
  ACalls Tryz.prog w0 340 [.agg (Am a0.kind::(Am a0.index::([.val (.string a0.name)]))),.agg (a1.cs)] ⟨B,Rw,L⟩ fun x st=>x = .list (r.map Dw) .none∧st=⟨B,Rw,L⟩:=by
 rw [Nj] at h
 refine hd [.tmp 4] Tryz.func340 Tryz.ntmps340 fun M0 W0 i d c b j f hs=>?_
 simp only [AB]
 refine rg [2,3] hs ?_
 refine AA (fun e st=>Ck e st B Rw L [] [Am a0.kind::(Am a0.index::([.val (.string a0.name)])),a1.cs] [] (Jh n  = some r)) ?_ ?_
 ·intro K4 g
  exact go (tg (a:=([2,3,6],([3,5],[3,5,15],([4],()),[],()),[2,3,23],([4],()),[2,3,41],([4],()),[],()))) h hs i d c b f (q1 (Zbw w0 n)) (q1 g)
 ·clear h;rintro e st ⟨Xk3,Rk3,rfl,rfl,f,h⟩
  rw [Jh] at h
  refine td i d c b f ?_
  refine rg [4] hs ?_
  exact rt h hs b f
def Qv (n:Nat) (g:(List Vl)→Int→Option ((List Vl) × Int)) (b:Int) (h:List Vl):Option ((List Vl) × Int) :=
 if A9 (b+1) then
  g h (b+1)
 else none
def Qh (n:Nat)  (b:List Vl):Option ((List Vl) × Int) :=
 some ((b,0))
def Qn (n:Nat)  (b:List Vl):Option ((List Vl) × Int) :=
 some ((b,0))
def QB (n:Nat) (b:(List Vl)→Int→Option ((List Vl) × Int)) (h:Int) (g:List Vl):Option ((List Vl) × Int) :=
 Qv n b h g
def NI (n:Nat) (q:List Vl):Nat→(List Vl)→(List Vl)→Int→Option ((List Vl) × Int)
 | 0,_,_,_=>none
 | m+1,b,h,g =>
  if decide (g<(q.length:Int)) then
   (BJ h g).bind fun y =>
   (DX n y).bind fun z =>
   if (b.length+1)*88≤140737488355328∧b.length+1≤4611686018427387904 then
    if A9 (g+1) then
     (NI n q m) (b++([z])) h (g+1)
    else none
   else none
  else
   Qh n b
def NY (n:Nat) (q:List Vl):Nat→(List Vl)→(List Vl)→Int→Option ((List Vl) × Int)
 | 0,_,_,_=>none
 | m+1,g,h,b =>
  if decide (b<(q.length:Int)) then
   (BJ h b).bind fun z =>
   (DX n z).bind fun y =>
   if (g.length+1)*88≤140737488355328∧g.length+1≤4611686018427387904 then
    if A9 (b+1) then
     (NY n q m) (g++([y])) h (b+1)
    else none
   else none
  else
   Qn n g
def N2 (n:Nat) (h:(List Vl)→Int→Option ((List Vl) × Int)) (z:List Vl) (q:Int) (x21:Part):Nat→(List Vl)→(List Vl)→Int→Option ((List Vl) × Int)
 | 0,_,_,_=>none
 | m+1,b,y,g =>
  if decide (g<(z.length:Int)) then
   (BJ y g).bind fun x33 =>
   if !(HJ x21 x33) then
    some (([],22))
   else
    (Nj n x21 x33).bind fun y38 =>
    if (b.length+y38.length)*88≤140737488355328∧b.length+y38.length≤4611686018427387904 then
     if A9 (g+1) then
      (N2 n h z q x21 m) (b++y38) y (g+1)
     else none
    else none
  else
   QB n h q b
def Qr (n:Nat) (h:List Part) (b:List Vl):Option ((List Vl) × Int) :=
 if decide ((b.length:Int)=0) then
  (PD n h).bind fun g =>
  if !g then
   some (([],19))
  else
   NI n b n ([]) b 0
 else
  NY n b n ([]) b 0
def IA (n:Nat) (h:List Part):Nat→(List Vl)→Int→Option ((List Vl) × Int)
 | 0,_,_=>none
 | m+1,g,b =>
  if decide (b<(h.length:Int)) then
   (BJ h b).bind fun q =>
   N2 n (IA n h m) g b q n ([]) g 0
  else
   Qr n h g
def VQ (n:Nat) (h:Vl) (g:List Part):Option ((List Vl) × Int) :=
 (JE n g).bind fun b =>
 if !(decide (b=0)) then
  some (([],b))
 else
  IA n g n ([h]) 0
theorem Zc1 (w0:World) (hP:Pow10 w0) (n:Nat) (B:Aq) (Rw:Aw) (L:Av) (a0:Vl) (a1:List Part) (r:(List Vl) × Int) (h:VQ n a0 a1=some r) :
  ACalls Tryz.prog w0 305 [.agg (a0.cs),.list (a1.map AD) .none] ⟨B,Rw,L⟩ fun x st=>x = .tup [.list (r.1.map Dw) .none,Am r.2]∧st=⟨B,Rw,L⟩:=by
 rw [VQ] at h
 refine hd [.tmp 4,.tmp 5] Tryz.func305 Tryz.ntmps305 fun M0 W0 hN ae af j hu l hs=>?_
 simp only [AB]
 refine rg [1,2] hs ?_
 apply An;intro K2 bn
 obtain ⟨y4,b5,h⟩:=bind_some h
 refine rc 2 [1,2,6] hs ?_;intro K3 be
 refine Ax _ (UC w0 hP n _ _ _ a1 _ b5) (hv hs) ?_
 refine ne hs be ?_
 clear be
 refine rg [1,2,6,19] hs ?_
 refine BL h hs ?_ ?_<;>intro hs h
 ·refine rg [4,5] hs ?_
  exact rt h hs j l
 refine sk [1,2] hs bn ?_
 clear bn
 refine rg [1,7] hs ?_
 refine AA (fun e st=>∃ (c:List Vl) (E:Ev.Own),Ck e st B Rw L [(1,true,.list (a1.map AD) .none),(7,true,.list (c.map Dw) E)] [a0.cs] [(6,c.length,E)] (Qr n a1 c=some r)) ?_ ?_
 ·intro K11 bo
  refine rg [1,7,23,24,25] hs ?_
  apply Ar
  refine Az (fun m e st=>∃ (k:List Vl) (b:Int) (D:Ev.Own),Ck e st B Rw L [(1,true,.list (a1.map AD) .none),(7,true,.list (k.map Dw) D),(23,true,.list (a1.map AD) .none),(24,true,Am (a1.length:Int)),(25,true,Am b)] [a0.cs] [(6,k.length,D)] (IA n a1 m k b=some r)) n ⟨([a0]),0,.full,([]),Rw,ef hs,ef hs,Owns.of_eq ((l).full 6 (([a0]).length)) Dk,h⟩ ?_
  rintro ml13 e st ⟨k,b,D,Xl13,Rl13,rfl,rfl,l,h⟩ Ul13 Vl13
  cases ml13 with
  | zero=>cases h
  | succ ml13 =>
  rw [IA] at h
  have hU:=l.unders
  simp only [List.mem_cons,List.not_mem_nil,or_false,forall_eq_or_imp,forall_eq] at hU
  refine td hN ae af j l ?_
  refine rg [1,7,23,24,25,26] hs ?_
  apply An;intro K15 am
  refine BL h hs ?_ ?_<;>intro hs h
  rotate_left
  ·refine sx [1,7] hs bo ?_
   exact ⟨k,D,([]),Rl13,ef hs,ef hs,Owns.of_eq (l) Dk,h⟩
  refine sk [1,7,23,24,25] hs am ?_
  clear am
  refine AA (fun e st=>∃ (aa:List Vl) (ab:Ev.Own),Ck e st B Rw L [(1,true,.list (a1.map AD) .none),(7,true,.list (aa.map Dw) ab),(23,true,.list (a1.map AD) .none),(24,true,Am (a1.length:Int)),(25,true,Am b)] [a0.cs] [(6,aa.length,ab)] (Qv n (IA n a1 ml13) b aa=some r)) ?_ ?_
  ·intro K19 br
   apply Ar
   obtain ⟨ad,bh,h⟩:=bind_some h
   obtain ⟨b7,b0,a3⟩:=AY bh
   have ba:=AO (f:=AD) a3
   have hs:=Ae ba hs
   refine rg [1,7,9,23,24,25] hs ?_
   refine rg [1,7,9,10,23,24,25] hs ?_
   refine AA (fun e st=>∃ (F:List Vl) (Q:Ev.Own),Ck e st B Rw L [(1,true,.list (a1.map AD) .none),(10,true,.list (F.map Dw) Q),(23,true,.list (a1.map AD) .none),(24,true,Am (a1.length:Int)),(25,true,Am b)] [a0.cs,Am ad.kind::(Am ad.index::([.val (.string ad.name)]))] [(6,F.length,Q)] (QB n (IA n a1 ml13) b F=some r)) ?_ ?_
   ·intro K25 bg
    refine rg [1,9,10,23,24,25,29,30,31] hs ?_
    apply Ar
    refine Az (fun m e st=>∃ (g:List Vl) (t:List Vl) (N:Int) (p:Ev.Own) (q:Ev.Own),Ck e st B Rw L [(1,true,.list (a1.map AD) .none),(9,true,.box (B.length+1) 0),(10,true,.list (g.map Dw) p),(23,true,.list (a1.map AD) .none),(24,true,Am (a1.length:Int)),(25,true,Am b),(29,true,.list (t.map Dw) q),(30,true,Am (k.length:Int)),(31,true,Am N)] [a0.cs,Am ad.kind::(Am ad.index::([.val (.string ad.name)]))] [(6,g.length,p),(6,t.length,q)] (N2 n (IA n a1 ml13) k b ad m g t N=some r)) n ⟨([]),k,0,.full,D,([]),Rl13,ef hs,ef hs,Owns.of_eq ((l).full 6 0) Dk,h⟩ ?_
    rintro ml27 e st ⟨g,t,N,p,q,Xl27,Rl27,rfl,rfl,l,h⟩ Ul27 Vl27
    cases ml27 with
    | zero=>cases h
    | succ ml27 =>
    rw [N2] at h
    have hU:=l.unders
    simp only [List.mem_cons,List.not_mem_nil,or_false,forall_eq_or_imp,forall_eq] at hU
    obtain ⟨bq,bp⟩:=hU
    refine td hN ae af j l ?_
    refine rg [1,9,10,23,24,25,29,30,31,32] hs ?_
    apply An;intro K29 ax
    refine BL h hs ?_ ?_<;>intro hs h
    rotate_left
    ·refine sx [1,10,23,24,25] hs bg ?_
     exact ⟨g,p,([]),Rl27,ef hs,ef hs,Owns.of_eq ((l).sub (List.sublist_append_left [(6,g.length,p)] [(6,t.length,q)])) Dk,h⟩
    refine sk [1,9,10,23,24,25,29,30,31] hs ax ?_
    clear ax
    apply An;intro K31 au
    apply Ar
    obtain ⟨a7,bd,h⟩:=bind_some h
    obtain ⟨b9,bx,a8⟩:=AY bd
    have a4:=AO (f:=Dw) a8
    have hs:=Ae a4 hs
    refine rg [1,9,10,12,23,24,25,29,30,31] hs ?_
    apply An;intro K34 ap
    refine rc 2 [1,9,10,12,23,24,25,29,30,31,38] hs ?_;intro K35 aw
    refine Ax _ (Qb w0 _ _ _ ad a7) (hv hs) ?_
    refine ne hs aw ?_
    clear aw
    refine BL h hs ?_ ?_<;>intro hs h
    ·refine rg [4,5] hs ?_
     exact rt h hs j l
    refine sk [1,9,10,12,23,24,25,29,30,31] hs ap ?_
    clear ap
    obtain ⟨bc,bl,h⟩:=bind_some h
    obtain ⟨ao,h⟩:=Au h
    obtain ⟨b6,ak,l,Y⟩:=l.append (P:=Tryz.prog) Nh (by rw [HV];rfl) (by decide) bc.length ao.1 ao.2
    replace Y:=fun (ys:List AV) B L o2=>Y (g.map Dw) ys B L o2 Dk
    replace Y:=fun B L o2=>Y (bc.map Dw) B L o2 Dk ev
    try simp only [List.mem_singleton,List.mem_cons,List.not_mem_nil,or_false,forall_eq_or_imp,forall_eq,List.map_append,List.map_cons,List.map_nil,Fb,Ft,Fp,Ec,Ed,Fj,CG,Dp,Fq,BX,BW,Du,Dv,Dq,E8,Dt,Fa] at Y
    have hs:=Ae Y hs
    refine rk 2 [1,9,10,23,24,25,29,30,31] hs ?_
    refine Ax _ (UU w0 n _ _ _ ad a7 _ bl) (hv hs) ?_
    refine ne hs au ?_
    clear au
    obtain ⟨cc,h⟩:=Au h
    refine rl [1,9,10,23,24,25,29,30,31] hs (fun e s=>Vl27 ml27 e s (Nat.lt_succ_self _)) ?_
    exact ⟨(g++bc),t,(N+1),b6,q,([a7.cs]),ak,ef hs,ef hs,Owns.of_eq (((l).swap (List.Perm.swap _ _ _)).swap (List.Perm.swap _ _ _)) Dk,h⟩
   ·clear h;rintro e st ⟨F,Q,Xk24,Rk24,rfl,rfl,l,h⟩
    rw [QB] at h
    exact go (tg (a:=([1,7,23,24,25],()))) h hs hN ae af j l trivial (q1 br)
  ·clear h;rintro e st ⟨aa,ab,Xk18,Rk18,rfl,rfl,l,h⟩
   rw [Qv] at h
   exact go (tg (a:=([1,7,23,24,25],()))) h hs hN ae af j l trivial (q1 (fun e s=>Vl13 ml13 e s (Nat.lt_succ_self _)))
 ·clear h;rintro e st ⟨c,E,Xk10,Rk10,rfl,rfl,l,h⟩
  rw [Qr] at h
  have hU:=l.unders
  simp only [List.mem_cons,List.not_mem_nil,or_false,forall_eq_or_imp,forall_eq] at hU
  refine td hN ae af j l ?_
  apply An;intro K45 ah
  apply An;intro K46 ag
  rcases Bool.eq_false_or_eq_true (decide ((c.length:Int)=0)) with hf47 | hf47
  ·replace h:=Be h hf47
   obtain ⟨ce,bu,h⟩:=bind_some h
   have hs:=Ae hf47 hs
   refine rk 2 [7,54] hs ?_
   refine Ax _ (V1 w0 n _ _ _ a1 _ bu) (hv hs) ?_
   refine ne hs ag ?_
   clear ag
   refine BL h hs ?_ ?_<;>intro hs h
   ·refine rg [4,5] hs ?_
    exact rt h hs j l
   refine sk [7] hs ah ?_
   clear ah
   refine rg [7,13] hs ?_
   refine AA (fun e st=>∃ (K:List Vl) (U:Ev.Own),Ck e st B Rw L [(13,true,.list (K.map Dw) U)] [a0.cs] [(6,K.length,U)] (Qh n K=some r)) ?_ ?_
   ·intro K54 bv
    refine rg [13,55,56,57] hs ?_
    apply Ar
    refine Az (fun m e st=>∃ (d:List Vl) (C:List Vl) (G:Int) (w:Ev.Own) (o:Ev.Own),Ck e st B Rw L [(13,true,.list (d.map Dw) w),(55,true,.list (C.map Dw) o),(56,true,Am (c.length:Int)),(57,true,Am G)] [a0.cs] [(6,d.length,w),(6,C.length,o)] (NI n c m d C G=some r)) n ⟨([]),c,0,.full,E,([]),Rk10,ef hs,ef hs,Owns.of_eq ((l).full 6 0) Dk,h⟩ ?_
    rintro ml56 e st ⟨d,C,G,w,o,Xl56,Rl56,rfl,rfl,l,h⟩ Ul56 Vl56
    cases ml56 with
    | zero=>cases h
    | succ ml56 =>
    rw [NI] at h
    have hU:=l.unders
    simp only [List.mem_cons,List.not_mem_nil,or_false,forall_eq_or_imp,forall_eq] at hU
    obtain ⟨bq,bp⟩:=hU
    refine td hN ae af j l ?_
    refine rg [13,55,56,57,58] hs ?_
    apply An;intro K58 ar
    refine BL h hs ?_ ?_<;>intro hs h
    rotate_left
    ·refine sx [13] hs bv ?_
     exact ⟨d,w,([]),Rl56,ef hs,ef hs,Owns.of_eq ((l).sub (List.sublist_append_left [(6,d.length,w)] [(6,C.length,o)])) Dk,h⟩
    refine sk [13,55,56,57] hs ar ?_
    clear ar
    apply An;intro K60 aq
    apply Ar
    obtain ⟨bi,bm,h⟩:=bind_some h
    obtain ⟨ca,b8,a6⟩:=AY bm
    have a5:=AO (f:=Dw) a6
    have hs:=Ae a5 hs
    refine rg [13,15,55,56,57] hs ?_
    obtain ⟨b3,bt,h⟩:=bind_some h
    obtain ⟨av,h⟩:=Au h
    obtain ⟨bw,ai,l,O⟩:=l.append (P:=Tryz.prog) Nh (by rw [HV];rfl) (by decide) 1 av.1 av.2
    replace O:=fun (ys:List AV) B L o2=>O (d.map Dw) ys B L o2 Dk
    replace O:=fun (y:AV) B L o2=>O [y] B L o2 Dk ev
    try simp only [List.mem_singleton,List.mem_cons,List.not_mem_nil,or_false,forall_eq_or_imp,forall_eq,List.map_append,List.map_cons,List.map_nil,Fb,Ft,Fp,Ec,Ed,Fj,CG,Dp,Fq,BX,BW,Du,Dv,Dq,E8,Dt,Fa] at O
    have hs:=Ae O hs
    refine rk 2 [13,55,56,57] hs ?_
    refine Ax _ (Ju w0 n _ _ _ bi _ bt) (hv hs) ?_
    refine ne hs aq ?_
    clear aq
    obtain ⟨cb,h⟩:=Au h
    refine rl [13,55,56,57] hs (fun e s=>Vl56 ml56 e s (Nat.lt_succ_self _)) ?_
    exact ⟨(d++([b3])),C,(G+1),bw,o,([bi.cs]),ai,ef hs,ef hs,Owns.of_eq (((l).swap (List.Perm.swap _ _ _)).swap (List.Perm.swap _ _ _)) Dk,h⟩
   ·clear h;rintro e st ⟨K,U,Xk53,Rk53,rfl,rfl,l,h⟩
    rw [Qh] at h
    exact go (tg (a:=([4,5],()))) h hs hN ae af j l trivial trivial
  ·replace h:=Bh h hf47
   have hs:=Ae hf47 hs
   refine rk 2 [7,54] hs ?_
   refine He ?_
   refine ne hs ag ?_
   clear ag
   refine AN false ev (ef hs) (fun hb70=>by cases hb70) (fun hb70=>?_)
   refine sk [7] hs ah ?_
   clear ah
   refine rg [7,13] hs ?_
   refine AA (fun e st=>∃ (J:List Vl) (Z:Ev.Own),Ck e st B Rw L [(13,true,.list (J.map Dw) Z)] [a0.cs] [(6,J.length,Z)] (Qn n J=some r)) ?_ ?_
   ·intro K74 bk
    refine rg [13,55,56,57] hs ?_
    apply Ar
    refine Az (fun m e st=>∃ (i:List Vl) (u:List Vl) (H:Int) (z:Ev.Own) (v:Ev.Own),Ck e st B Rw L [(13,true,.list (i.map Dw) z),(55,true,.list (u.map Dw) v),(56,true,Am (c.length:Int)),(57,true,Am H)] [a0.cs] [(6,i.length,z),(6,u.length,v)] (NY n c m i u H=some r)) n ⟨([]),c,0,.full,E,([]),Rk10,ef hs,ef hs,Owns.of_eq ((l).full 6 0) Dk,h⟩ ?_
    rintro ml76 e st ⟨i,u,H,z,v,Xl76,Rl76,rfl,rfl,l,h⟩ Ul76 Vl76
    cases ml76 with
    | zero=>cases h
    | succ ml76 =>
    rw [NY] at h
    have hU:=l.unders
    simp only [List.mem_cons,List.not_mem_nil,or_false,forall_eq_or_imp,forall_eq] at hU
    obtain ⟨bq,bp⟩:=hU
    refine td hN ae af j l ?_
    refine rg [13,55,56,57,58] hs ?_
    apply An;intro K78 az
    refine BL h hs ?_ ?_<;>intro hs h
    rotate_left
    ·refine sx [13] hs bk ?_
     exact ⟨i,z,([]),Rl76,ef hs,ef hs,Owns.of_eq ((l).sub (List.sublist_append_left [(6,i.length,z)] [(6,u.length,v)])) Dk,h⟩
    refine sk [13,55,56,57] hs az ?_
    clear az
    apply An;intro K80 ay
    apply Ar
    obtain ⟨bf,bs,h⟩:=bind_some h
    obtain ⟨b2,b1,bb⟩:=AY bs
    have a9:=AO (f:=Dw) bb
    have hs:=Ae a9 hs
    refine rg [13,15,55,56,57] hs ?_
    obtain ⟨bz,bj,h⟩:=bind_some h
    obtain ⟨a2,h⟩:=Au h
    obtain ⟨b4,aj,l,V⟩:=l.append (P:=Tryz.prog) Nh (by rw [HV];rfl) (by decide) 1 a2.1 a2.2
    replace V:=fun (ys:List AV) B L o2=>V (i.map Dw) ys B L o2 Dk
    replace V:=fun (y:AV) B L o2=>V [y] B L o2 Dk ev
    try simp only [List.mem_singleton,List.mem_cons,List.not_mem_nil,or_false,forall_eq_or_imp,forall_eq,List.map_append,List.map_cons,List.map_nil,Fb,Ft,Fp,Ec,Ed,Fj,CG,Dp,Fq,BX,BW,Du,Dv,Dq,E8,Dt,Fa] at V
    have hs:=Ae V hs
    refine rk 2 [13,55,56,57] hs ?_
    refine Ax _ (Ju w0 n _ _ _ bf _ bj) (hv hs) ?_
    refine ne hs ay ?_
    clear ay
    obtain ⟨cd,h⟩:=Au h
    refine rl [13,55,56,57] hs (fun e s=>Vl76 ml76 e s (Nat.lt_succ_self _)) ?_
    exact ⟨(i++([bz])),u,(H+1),b4,v,([bf.cs]),aj,ef hs,ef hs,Owns.of_eq (((l).swap (List.Perm.swap _ _ _)).swap (List.Perm.swap _ _ _)) Dk,h⟩
   ·clear h;rintro e st ⟨J,Z,Xk73,Rk73,rfl,rfl,l,h⟩
    rw [Qn] at h
    exact go (tg (a:=([4,5],()))) h hs hN ae af j l trivial trivial
def YD (n:Nat) (y:Vl) (h:List Part):Option (Vl × Int) :=
 (VQ n y h).bind fun b =>
 if !(decide (b.2=0)) then
  some ((Vl.mk 0 0 0 (⟨#[]⟩:ByteArray) ([]) ([]),b.2))
 else
  (PD n h).bind fun q =>
  if q then
   some ((Vl.mk 8 0 0 (⟨#[]⟩:ByteArray) b.1 ([]),0))
  else
   (BJ b.1 0).bind fun g =>
   some ((g,0))
theorem Zfr (w0:World) (hP:Pow10 w0) (n:Nat) (B:Aq) (Rw:Aw) (L:Av) (a0:Vl) (a1:List Part) (r:Vl × Int) (h:YD n a0 a1=some r) :
  ACalls Tryz.prog w0 244 [.agg (a0.cs),.list (a1.map AD) .none] ⟨B,Rw,L⟩ fun x st=>x = .tup [.agg (r.1.cs),Am r.2]∧st=⟨B,Rw,L⟩:=by
 rw [YD] at h
 refine hd [.cell 4 34,.tmp 5] Tryz.func244 Tryz.ntmps244 fun M0 W0 f d c b g e hs=>?_
 simp only [AB]
 exact go (tg (a:=([1,2,4],[1,4,6,7],[1,4,6,7,14],([4,5],()),[4,6,19],([4,5],()),[4,6],[4,5],()))) h hs f d c b e (q2 (Zc1 w0 hP n) (V1 w0 n)) trivial
def CW (n:Nat)  (b2_k31:Vl):Option (Ex × Bool × Bool) :=
 some ((Ex.mk 1 0 (⟨#[]⟩:ByteArray) ([b2_k31]) ([]),true,true))
def BV (n:Nat)  : Option (Ex × Bool × Bool) :=
 some ((Ex.mk 0 0 (⟨#[]⟩:ByteArray) ([]) ([]),false,false))
def CY (n:Nat) (a0:Cps) (g:List Part):Nat→Int→Option (Ex × Bool × Bool)
 | 0,_=>none
 | m+1,b =>
  if decide (b<(g.length:Int)) then
   if A9 (b+1) then
    if 0≤0∧0≤b+1∧b+1≤(g.length:Int) then
     if A9 (b+1) then
      if 0≤b+1∧b+1≤(g.length:Int)∧(g.length:Int)≤(g.length:Int) then
       (I0 n a0.mid (g.take (b+1).toNat)).bind fun h =>
       (F6 n a0 (g.take (b+1).toNat)).bind fun q =>
       if (!h.2)||((decide (h.1.2.2.1=2))&&(!q)) then
        BV n 
       else
        if (!(decide (h.1.2.2.1=3)))||q then
         if A9 (b+1) then
          (CY n a0 g m) (b+1)
         else none
        else
         (BJ h.1.2.2.2.2 0).bind fun y =>
         if decide (0<(((g.drop (b+1).toNat).length:Int))) then
          (YD n y (g.drop (b+1).toNat)).bind fun z =>
          if !(decide (z.2=0)) then
           BV n 
          else
           CW n z.1
         else
          CW n y
      else none
     else none
    else none
   else none
  else
   BV n 
def Ff (n:Nat) (g:Cps) (b:List Part):Option (Ex × Bool × Bool) :=
 CY n g b n 0
theorem Me (w0:World) (hP:Pow10 w0) (n:Nat) (B:Aq) (Rw:Aw) (L:Av) (la0:Nat) (a0:Cps) (hla0:B[la0]? = some (.list (a0.rules.map A7) .none::(.list (a0.targets.map (CJ AD)) .none::(a0.mid.cs)))) (a1:List Part) (r:Ex × Bool × Bool) (h:Ff n a0 a1=some r) :
  ACalls Tryz.prog w0 164 [.box la0 0,.list (a1.map AD) .none] ⟨B,Rw,L⟩ fun x st=>x = .tup [.agg (r.1.cs),.val (.bool r.2.1),.val (.bool r.2.2)]∧st=⟨B,Rw,L⟩:=by
 rw [Ff] at h
 refine hd [.cell 4 65,.tmp 5,.tmp 6] Tryz.func164 Tryz.ntmps164 fun M0 W0 E l k b hu j hs=>?_
 simp only [AB]
 have U:=(Ak.1 hla0).1
 have hs:=Ae (As hla0) hs
 refine rg [0,1,4] hs ?_
 refine AA (fun e st=>Ck e st B Rw L [(4,true,.box B.length 0)] [[Am 0,Am 0,.val (.string (⟨#[]⟩:ByteArray)),.list ([]) .full,.list ([]) .full]] [] (BV n  = some r)) ?_ ?_
 ·intro K4 D
  refine rg [0,1,4,17,18] hs ?_
  apply Ar
  refine Az (fun m e st=>∃ (c:Int),Ck e st B Rw L [(0,true,.box la0 0),(1,true,.list (a1.map AD) .none),(4,true,.box B.length 0),(17,true,Am (a1.length:Int)),(18,true,Am c)] [[Am 0,Am 0,.val (.string (⟨#[]⟩:ByteArray)),.list ([]) .full,.list ([]) .full]] [] (CY n a0 a1 m c=some r)) n ⟨0,([]),Rw,ef hs,ef hs,j,h⟩ ?_
  rintro ml6 e st ⟨c,Xl6,Rl6,rfl,rfl,j,h⟩ Ul6 Vl6
  cases ml6 with
  | zero=>cases h
  | succ ml6 =>
  rw [CY] at h
  refine td E l k b j ?_
  refine rg [0,1,4,17,18,19] hs ?_
  apply An;intro K8 G
  refine BL h hs ?_ ?_<;>intro hs h
  rotate_left
  ·refine sx [4] hs D ?_
   exact ⟨([]),Rl6,ef hs,ef hs,j,h⟩
  refine sk [0,1,4,17,18] hs G ?_
  clear G
  apply An;intro K10 J
  apply Ar
  refine rg [0,1,4,7,17,18] hs ?_
  obtain ⟨ab,h⟩:=Au h
  obtain ⟨aa,h⟩:=Au h
  obtain ⟨ad,h⟩:=Au h
  obtain ⟨ae,h⟩:=Au h
  refine dg 10 1 1 [0,1,4,8,9,17,18] hs QQ ?_
  obtain ⟨g,F,h⟩:=bind_some h
  refine rc 2 [0,1,4,8,9,10,11,17,18] hs ?_;intro K17 v
  refine Ax _ (Ox w0 n _ _ _ a0.mid (a1.take (c+1).toNat) _ F) (hv hs) ?_
  refine ne hs v ?_
  clear v
  obtain ⟨af,Q,h⟩:=bind_some h
  refine rc 2 [0,1,4,9,10,11,12,17,18] hs ?_;intro K19 t
  refine Ax _ (NG w0 n _ _ _ la0 a0 (ef hs) (a1.take (c+1).toNat) _ Q) (hv hs) ?_
  refine ne hs t ?_
  clear t
  apply An;intro K21 u
  refine rg [0,1,4,9,10,12,17,18,51] hs ?_
  refine BL h hs ?_ ?_<;>intro hs h
  ·exact go (tg (a:=([4],()))) h hs E l k b j trivial (q1 D)
  refine sk [0,1,4,9,10,12,17,18] hs u ?_
  clear u
  apply An;intro K24 w
  refine rg [0,1,4,9,10,17,18,57] hs ?_
  refine BL h hs ?_ ?_<;>intro hs h
  ·exact go (tg (a:=([0,1,4,17,18],[0,1,4,17,18],()))) h hs E l k b j trivial (q2 J (fun e s=>Vl6 ml6 e s (Nat.lt_succ_self _)))
  refine sk [4,9,10] hs w ?_
  clear w
  obtain ⟨H,O,h⟩:=bind_some h
  obtain ⟨Y,V,C⟩:=AY O
  have o:=AO (f:=Dw) C
  have z:(g.1.2.2.2.2.map Dw).getD 0 .junk=_:=o
  have hs:=Ae o hs
  have hs:=Ae z hs
  refine rg [4,9,13] hs ?_
  refine AA (fun e st=>∃ (d:Vl) (i:List AV),Ck e st B Rw L [(4,true,.box B.length 0),(13,true,.box (B.length+2) 0)] [[Am 0,Am 0,.val (.string (⟨#[]⟩:ByteArray)),.list ([]) .full,.list ([]) .full],Am g.1.1::(.val (.string g.1.2.1)::(Am g.1.2.2.1::((g.1.2.2.2.1.cs)++([.list (g.1.2.2.2.2.map Dw) .none])))),i] [] (i.map AV.pubCell=d.cs∧CW n d=some r)) ?_ ?_
  ·intro K32 p
   refine rg [4,9,13,64] hs ?_
   refine BL h hs ?_ ?_<;>intro hs h
   ·obtain ⟨K,N,h⟩:=bind_some h
    refine rc 2 [4,13,14,15] hs ?_;intro K35 q
    refine Ax _ (Zfr w0 hP n _ _ _ H (a1.drop (c+1).toNat) _ N) (hv hs) ?_
    refine ne hs q ?_
    clear q
    apply An;intro K37 y
    refine rg [4,13,14,72] hs ?_
    refine BL h hs ?_ ?_<;>intro hs h
    ·exact go (tg (a:=([4],()))) h hs E l k b j trivial (q1 D)
    refine sk [4,13,14] hs y ?_
    clear y
    refine rl [4,13] hs p ?_
    exact ⟨K.1,_,([K.1.cs]),Rl6,ef hs,ef hs,j,ef hs,h⟩
   refine sk [4,13] hs p ?_
   exact ⟨H,_,([]),Rl6,ef hs,ef hs,j,ef hs,h⟩
  ·clear h;rintro e st ⟨d,i,Xk31,Rk31,rfl,rfl,j,Z,h⟩
   rw [CW] at h
   refine Gz (B.length+2) (by first | rfl | (simp only [E3,Dx,Eu,C7];rfl)) Z ?_;simp +decide only [go_sem,Nat.reduceAdd]
   show Eb _ _ _ _ _ _ _ _ [(4,true,.box B.length 0),(13,true,.box (B.length+2) 0)] ⟨B++([[Am 0,Am 0,.val (.string (⟨#[]⟩:ByteArray)),.list ([]) .full,.list ([]) .full],Am g.1.1::(.val (.string g.1.2.1)::(Am g.1.2.2.1::((g.1.2.2.2.1.cs)++([.list (g.1.2.2.2.2.map Dw) .none])))),d.cs]++Xk31),Rk31,L⟩
   refine td E l k b j ?_
   refine rg [4,5,6] hs ?_
   exact rt h hs b j
 ·clear h;rintro e st ⟨Xk3,Rk3,rfl,rfl,j,h⟩
  rw [BV] at h
  refine td E l k b j ?_
  refine rg [4,5,6] hs ?_
  exact rt h hs b j
def Ce (n:Nat) (b:List Part) (h:List Part):Option Bool :=
 if decide (0<(b.length:Int)) then
  (Dm n h b).bind fun g =>
  some (g)
 else
  some (false)
theorem Ky (w0:World) (n:Nat) (B:Aq) (Rw:Aw) (L:Av) (a0:List Part) (la1:Nat) (a1:List Part) (hla1:B[la1]? = some ([.list (a1.map AD) .none])) (r:Bool) (h:Ce n a0 a1=some r) :
  ACalls Tryz.prog w0 163 [.list (a0.map AD) .none,.box la1 0] ⟨B,Rw,L⟩ fun x st=>x = .val (.bool r)∧st=⟨B,Rw,L⟩:=by
 rw [Ce] at h
 refine hd [.tmp 3] Tryz.func163 Tryz.ntmps163 fun M0 W0 g e d b i f hs=>?_
 simp only [AB]
 have c:=(Ak.1 hla1).1
 have hs:=Ae (As hla1) hs
 exact go (tg (a:=([0,1],([3],()),[3],()))) h hs g e d b f (q1 (DI w0 n)) trivial
def EY (rec:Ty→Option Bool) (b:Int × ByteArray × Int × Ty × List Vl):Option Bool :=
 if decide (b.2.2.1=3) then
  some (true)
 else
  (rec b.2.2.2.1).bind fun g =>
  some (g)
theorem OB (w0:World) (rec:Ty→Option Bool) (ih:∀ (B:Aq) (Rw:Aw) (L:Av) (a0:Ty) (r:Bool) (h:rec a0=some r),ACalls Tryz.prog w0 166 [.agg (a0.cs)] ⟨B,Rw,L⟩ fun x st=>x = .val (.bool r)∧st=⟨B,Rw,L⟩) (B:Aq) (Rw:Aw) (L:Av) (a0:Int × ByteArray × Int × Ty × List Vl) (r:Bool) (h:EY rec a0=some r) :
  ACalls Tryz.prog w0 246 [.agg (Am a0.1::(.val (.string a0.2.1)::(Am a0.2.2.1::((a0.2.2.2.1.cs)++([.list (a0.2.2.2.2.map Dw) .none])))))] ⟨B,Rw,L⟩ fun x st=>x = .val (.bool r)∧st=⟨B,Rw,L⟩:=by
 rw [EY] at h
 refine hd [.tmp 2] Tryz.func246 Tryz.ntmps246 fun M0 W0 f d c b g e hs=>?_
 simp only [AB]
 exact go (tg (a:=([1],([2],()),[2],()))) h hs f d c b e (q1 ih) trivial
def GV (n:Nat)  : Option Int :=
 some ((-1))
def EV (n:Nat) (h:List Ty) (y:Ty→Option Bool):Nat→Int→Option Int
 | 0,_=>none
 | m+1,b =>
  if decide (b<(h.length:Int)) then
   (BJ h b).bind fun q =>
   (y q).bind fun g =>
   if g then
    some (b)
   else
    if A9 (b+1) then
     (EV n h y m) (b+1)
    else none
  else
   GV n 
def HS (n:Nat) (g:List Ty) (b:Ty→Option Bool):Option Int :=
 EV n g b n 0
theorem OP (w0:World) (n:Nat) (B:Aq) (Rw:Aw) (L:Av) (a0:List Ty) (fa1:FuncId) (ca1:List AV) (a1:Ty→Option Bool) (ha1:∀ (x0:Ty) r,a1 x0=some r→∀ B' rows,B <+: B'→Rw <+: rows→ACalls Tryz.prog w0 fa1 ([.agg (x0.cs)]++ca1) ⟨B',rows,L⟩ fun v s=>v = .val (.bool r)∧s=⟨B',rows,L⟩) (r:Int) (h:HS n a0 a1=some r) :
  ACalls Tryz.prog w0 307 [.list (a0.map Dj) .none,.clo fa1 ca1] ⟨B,Rw,L⟩ fun x st=>x=Am r∧st=⟨B,Rw,L⟩:=by
 rw [HS] at h
 refine hd [.tmp 4] Tryz.func307 Tryz.ntmps307 fun M0 W0 j i g c l f hs=>?_
 simp only [AB]
 have b:=Cf (l (.clo fa1 ca1) (by simp))
 refine rg [0,1] hs ?_
 refine AA (fun e st=>Ck e st B Rw L [] [] [] (GV n  = some r)) ?_ ?_
 ·intro K4 k
  refine rg [0,1,7,8] hs ?_
  apply Ar
  refine Az (fun m e st=>∃ (d:Int),Ck e st B Rw L [(0,true,.list (a0.map Dj) .none),(1,true,.clo fa1 ca1),(7,true,Am (a0.length:Int)),(8,true,Am d)] [] [] (EV n a0 a1 m d=some r)) n ⟨0,([]),Rw,ef hs,ef hs,f,h⟩ ?_
  rintro ml6 e st ⟨d,Xl6,Rl6,rfl,rfl,f,h⟩ Ul6 Vl6
  cases ml6 with
  | zero=>cases h
  | succ ml6 =>
  rw [EV] at h
  refine A8 j i g rfl c f (P0 b f) (P0 b f) ?_
  exact go (tg (a:=([0,1,7,8,9],([0,1,7,8],[0,1,5,7,8],[0,1,5,7,8,16],([4],()),[0,1,7,8],[0,1,7,8],()),[],()))) h hs j i g c f (q1 ha1) (q2 k (fun e s=>Vl6 ml6 e s (Nat.lt_succ_self _)))
 ·clear h;rintro e st ⟨Xk3,Rk3,rfl,rfl,f,h⟩
  rw [GV] at h
  refine A8 j i g rfl c f (P0 b f) (P0 b f) ?_
  refine rg [4] hs ?_
  exact rt h hs c f
def F8 (n:Nat) (h:List Ty) (b:Ty→Option Bool):Option Bool :=
 (HS n h b).bind fun g =>
 some (decide (0≤g))
theorem IR (w0:World) (n:Nat) (B:Aq) (Rw:Aw) (L:Av) (a0:List Ty) (fa1:FuncId) (ca1:List AV) (a1:Ty→Option Bool) (ha1:∀ (x0:Ty) r,a1 x0=some r→∀ B' rows,B <+: B'→Rw <+: rows→ACalls Tryz.prog w0 fa1 ([.agg (x0.cs)]++ca1) ⟨B',rows,L⟩ fun v s=>v = .val (.bool r)∧s=⟨B',rows,L⟩) (r:Bool) (h:F8 n a0 a1=some r) :
  ACalls Tryz.prog w0 245 [.list (a0.map Dj) .none,.clo fa1 ca1] ⟨B,Rw,L⟩ fun x st=>x = .val (.bool r)∧st=⟨B,Rw,L⟩:=by
 rw [F8] at h
 refine hd [.tmp 4] Tryz.func245 Tryz.ntmps245 fun M0 W0 m l j b k g hs=>?_
 simp only [AB]
 have e:=Cf (k (.clo fa1 ca1) (by simp))
 refine rg [0,1] hs ?_
 obtain ⟨o,d,h⟩:=bind_some h
 refine rc 2 [4] hs ?_;intro K2 c
 refine Ax _ (OP w0 n _ _ _ a0 fa1 ca1 a1 (fun x0 r i f a q1 q2=>ha1 x0 r i f a (List.IsPrefix.trans px q1) (g.pre.trans q2)) _ d) (hv hs) ?_
 refine ne hs c ?_
 clear c
 exact rt h hs b g
def Iw (rec:Ty→Option Bool) (n:Nat) (g:Ty):Option Bool :=
 (F8 n g.elem (fun (b:Ty)=>rec b)).bind fun h =>
 if h then
  some (true)
 else
  (AZ n g.fields (fun (b:Int × ByteArray × Int × Ty × List Vl)=>EY rec b)).bind fun q =>
  some (q)
def F3:Nat→Ty→Option Bool
 | 0,_=>none
 | n+1,b=>Iw (F3 n) n b
def Iq (w0:World) (F:Ty→Option Bool):Prop:=∀ (B:Aq) (Rw:Aw) (L:Av) (b:Ty) (r:Bool),F b=some r→ACalls Tryz.prog w0 166 [.agg (b.cs)] ⟨B,Rw,L⟩ fun x st=>x = .val (.bool r)∧st=⟨B,Rw,L⟩
theorem OC (w0:World) (rec:Ty→Option Bool) (ih:Iq w0 rec) (n:Nat):Iq w0 (Iw rec n):=by
 intro B Rw L a0 r h
 rw [Iw] at h
 refine hd [.tmp 2] Tryz.func166 Tryz.ntmps166 fun M0 W0 p m l b q j hs=>?_
 simp only [AB]
 refine rg [1] hs ?_
 apply An;intro K2 c
 obtain ⟨o,d,h⟩:=bind_some h
 rcases Bool.eq_false_or_eq_true (o) with hf4 | hf4
 ·replace h:=Be h hf4
  have hs:=Ae hf4 hs
  refine rk 3 [2] hs ?_
  refine Ax _ (IR w0 n _ _ _ a0.elem 166 [] (fun (a:Ty)=>rec a) (fun a r e k rows' f g=>by exact ih _ _ _ a _ e) _ d) (hv hs) ?_
  refine nc hs ?_
  refine He ?_
  refine ne hs c ?_
  clear c
  exact rt h hs b j
 ·replace h:=Bh h hf4
  obtain ⟨s,i,h⟩:=bind_some h
  have hs:=Ae hf4 hs
  refine rk 3 [2] hs ?_
  refine Ax _ (IR w0 n _ _ _ a0.elem 166 [] (fun (a:Ty)=>rec a) (fun a r e k rows' f g=>by exact ih _ _ _ a _ e) _ d) (hv hs) ?_
  refine nc hs ?_
  refine Ax _ (D4 w0 n _ _ _ a0.fields 246 [] (fun (a:Int × ByteArray × Int × Ty × List Vl)=>EY rec a) (fun a r e k rows' f g=>by exact OB w0 rec ih _ _ _ a _ e) _ i) (hv hs) ?_
  refine ne hs c ?_
  clear c
  exact rt h hs b j
theorem KX (w0:World):∀ n:Nat,Iq w0 (F3 n)
 | 0=>fun _ _ _ _ _ h=>(nomatch h)
 | n+1=>OC w0 (F3 n) (KX w0 n) n
def LW (n:Nat)  (b:ByteArray):Option ByteArray :=
 some (b)
def Jd (n:Nat) (q:List Part):Nat→ByteArray→Int→Option ByteArray
 | 0,_,_=>none
 | m+1,h,g =>
  if decide (g<(q.length:Int)) then
   (BJ q g).bind fun y =>
   (Hi n ([Part.mk 1 0 ((⟨#[120]⟩:ByteArray)),y])).bind fun b =>
   if 0≤(if (b.1.size:Int)<1 then (b.1.size:Int) else 1)∧(if (b.1.size:Int)<1 then (b.1.size:Int) else 1)≤(b.1.size:Int)∧(b.1.size:Int)≤(b.1.size:Int) then
    if h.size+(b.1.extract ((if (b.1.size:Int)<1 then (b.1.size:Int) else 1)).toNat b.1.size).size≤9223372036854775807 then
     if A9 (g+1) then
      (Jd n q m) (h++(b.1.extract ((if (b.1.size:Int)<1 then (b.1.size:Int) else 1)).toNat b.1.size)) (g+1)
     else none
    else none
   else none
  else
   LW n h
def JR (n:Nat) (g:ByteArray) (b:List Part):Option ByteArray :=
 Jd n b n g 0
theorem O3 (w0:World) (hP:Pow10 w0) (n:Nat) (B:Aq) (Rw:Aw) (L:Av) (a0:ByteArray) (a1:List Part) (r:ByteArray) (h:JR n a0 a1=some r) :
  ACalls Tryz.prog w0 167 [.val (.string a0),.list (a1.map AD) .none] ⟨B,Rw,L⟩ fun x st=>x = .val (.string r)∧st=⟨B,Rw,L⟩:=by
 rw [JR] at h
 refine hd [.tmp 4] Tryz.func167 Tryz.ntmps167 fun M0 W0 D p o d J j hs=>?_
 simp only [AB]
 refine rg [0,1] hs ?_
 refine AA (fun e st=>∃ (g:ByteArray),Ck e st B Rw L [(0,true,.val (.string g))] [] [] (LW n g=some r)) ?_ ?_
 ·intro K4 F
  refine rg [0,9,10,11] hs ?_
  apply Ar
  refine Az (fun m e st=>∃ (c:ByteArray) (b:Int),Ck e st B Rw L [(0,true,.val (.string c)),(9,true,.list (a1.map AD) .none),(10,true,Am (a1.length:Int)),(11,true,Am b)] [] [] (Jd n a1 m c b=some r)) n ⟨a0,0,([]),Rw,ef hs,ef hs,j,h⟩ ?_
  rintro ml6 e st ⟨c,b,Xl6,Rl6,rfl,rfl,j,h⟩ Ul6 Vl6
  cases ml6 with
  | zero=>cases h
  | succ ml6 =>
  rw [Jd] at h
  refine td D p o d j ?_
  refine rg [0,9,10,11,12] hs ?_
  apply An;intro K8 v
  refine BL h hs ?_ ?_<;>intro hs h
  rotate_left
  ·refine sx [0] hs F ?_
   exact ⟨c,([]),Rl6,ef hs,ef hs,j,h⟩
  refine sk [0,9,10,11] hs v ?_
  clear v
  apply An;intro K10 w
  apply Ar
  obtain ⟨E,u,h⟩:=bind_some h
  obtain ⟨C,z,l⟩:=AY u
  have k:=AO (f:=AD) l
  have hs:=Ae k hs
  refine rg [0,6,9,10,11] hs ?_
  obtain ⟨H,t,h⟩:=bind_some h
  refine rc 2 [0,7,9,10,11] hs ?_;intro K13 i
  refine Ax _ (Nx w0 hP n _ _ _ ([Part.mk 1 0 ((⟨#[120]⟩:ByteArray)),E]) _ t) (hv hs) ?_
  refine ne hs i ?_
  clear i
  obtain ⟨G,h⟩:=Au h
  obtain ⟨y,h⟩:=Au h
  have q:=y
  try simp +decide only [go_sem] at q
  exact go (tg (a:=([0,9,10,11],[0,9,10,11],()))) h hs D p o d j trivial (q2 w (fun e s=>Vl6 ml6 e s (Nat.lt_succ_self _)))
 ·clear h;rintro e st ⟨g,Xk3,Rk3,rfl,rfl,j,h⟩
  rw [LW] at h
  refine td D p o d j ?_
  refine rg [4] hs ?_
  exact rt h hs d j
def Et (n:Nat) (a0:Cps) (a1:ByteArray):Option (Ex × Bool × Bool) :=
 (Df n a1).bind fun q =>
 if !(decide (q.2=0)) then
  some ((Ex.mk 0 0 (⟨#[]⟩:ByteArray) ([]) ([]),false,false))
 else
  (Dm n q.1 ([bodyP])).bind fun y9 =>
  if !y9 then
   some ((Ex.mk 0 0 (⟨#[]⟩:ByteArray) ([]) ([]),false,false))
  else
   if 0≤1∧1≤(q.1.length:Int)∧(q.1.length:Int)≤(q.1.length:Int) then
    (DD n a0.targets (fun (x0:List Part)=>Ce n x0 (q.1.drop 1))).bind fun z =>
    if decide (z<0) then
     (Ff n a0 (q.1.drop 1)).bind fun y =>
     some ((y.1,y.2.1,y.2.2))
    else
     (BJ a0.rules z).bind fun b =>
     (BJ a0.targets z).bind fun g =>
     (I0 n a0.mid g).bind fun h =>
     if 0≤(g.length:Int)∧(g.length:Int)≤((q.1.drop 1).length:Int)∧((q.1.drop 1).length:Int)≤((q.1.drop 1).length:Int) then
      if h.2 then
       (F3 n h.1.2.2.2.1).bind fun y31 =>
       if y31 then
        some ((Ex.mk 0 0 (⟨#[]⟩:ByteArray) ([]) ([]),false,false))
       else
        if (decide (((((q.1.drop 1).drop g.length).length:Int))=0))&&(decide (h.1.2.2.1=3)) then
         some ((Ex.mk 23 0 (⟨#[]⟩:ByteArray) ([]) ([b.2,Ex.mk 1 0 (⟨#[]⟩:ByteArray) h.1.2.2.2.2 ([])]),true,true))
        else
         if decide (((((q.1.drop 1).drop g.length).length:Int))=0) then
          some ((b.2,decide (b.2.op=1),true))
         else
          if (!(decide (b.2.op=2)))||(decide (h.1.2.2.1=3)) then
           some ((Ex.mk 0 0 (⟨#[]⟩:ByteArray) ([]) ([]),false,false))
          else
           (JR n b.2.text ((q.1.drop 1).drop g.length)).bind fun y44 =>
           some ((Ex.mk 2 0 y44 ([]) ([]),false,true))
      else
       if ((decide (((((q.1.drop 1).drop g.length).length:Int))=0))&&h.2)&&(decide (h.1.2.2.1=3)) then
        some ((Ex.mk 23 0 (⟨#[]⟩:ByteArray) ([]) ([b.2,Ex.mk 1 0 (⟨#[]⟩:ByteArray) h.1.2.2.2.2 ([])]),true,true))
       else
        if decide (((((q.1.drop 1).drop g.length).length:Int))=0) then
         some ((b.2,decide (b.2.op=1),true))
        else
         if !(decide (b.2.op=2)) then
          some ((Ex.mk 0 0 (⟨#[]⟩:ByteArray) ([]) ([]),false,false))
         else
          (JR n b.2.text ((q.1.drop 1).drop g.length)).bind fun y56 =>
          some ((Ex.mk 2 0 y56 ([]) ([]),false,true))
     else none
   else none
theorem Ll (w0:World) (hB:O7 w0) (hE:JF w0) (hM:Jz w0) (hP:Pow10 w0) (n:Nat) (B:Aq) (Rw:Aw) (L:Av) (la0:Nat) (a0:Cps) (hla0:B[la0]? = some (.list (a0.rules.map A7) .none::(.list (a0.targets.map (CJ AD)) .none::(a0.mid.cs)))) (a1:ByteArray) (r:Ex × Bool × Bool) (h:Et n a0 a1=some r) :
  ACalls Tryz.prog w0 76 [.box la0 0,.val (.string a1)] ⟨B,Rw,L⟩ fun x st=>x = .tup [.agg (r.1.cs),.val (.bool r.2.1),.val (.bool r.2.2)]∧st=⟨B,Rw,L⟩:=by
 rw [Et] at h
 refine hd [.cell 4 65,.tmp 5,.tmp 6] Tryz.func76 Tryz.ntmps76 fun M0 W0 hN be bf g hu q hs=>?_
 simp only [AB]
 have ay:=(Ak.1 hla0).1
 apply An;intro K1 ak
 apply Ap 1 [0,1,4]
 rw [Ao];simp +decide only [go_sem,Nat.reduceAdd,As hla0,or_true]
 (repeat' apply Ae)<;>first | refine ak _ _ ?_ | exact cl
 clear ak
 apply An;intro K2 ap
 obtain ⟨v,az,h⟩:=bind_some h
 apply Ap 2 [0,4,7,8]
 rw [Ao];simp +decide only [go_sem,Nat.reduceAdd,As hla0,or_true]
 (repeat' apply Ae)<;>first | refine Ax _ (F7 w0 hE hM hP n _ _ _ a1 _ az) (by first | rfl | (simp +decide only [go_sem,Nat.reduceAdd,As hla0,or_true];done) | (simp +decide only [go_sem,Nat.reduceAdd,Vl.cs,Ty.cs,As hla0,or_true];done)) ?_ | exact cl
 rw [Ao];simp +decide only [go_sem,Nat.reduceAdd,As hla0,or_true]
 (repeat' apply Ae)<;>first | refine ap _ _ ?_ | exact cl
 clear ap
 apply An;intro K4 ax
 apply An;intro K5 z
 refine Zan 0 (.list [.agg [Am bodyP.kind,Am bodyP.index,.val (.string bodyP.name)]] .none) (by decide) ?_
 rcases Bool.eq_false_or_eq_true (!(decide (v.2=0))) with hf6 | hf6
 ·replace h:=Be h hf6
  apply Ap 2 [0,4,7,28]
  rw [Ao];simp +decide only [go_sem,Nat.reduceAdd,As hla0,or_true,hf6,hB]
  (repeat' apply Ae)<;>first | refine He ?_ | exact cl
  rw [Ao];simp +decide only [go_sem,Nat.reduceAdd,As hla0,or_true,hf6,hB]
  (repeat' apply Ae)<;>first | refine z _ _ ?_ | exact cl
  clear z
  refine AN true ev (by simp +decide only [go_sem,Nat.reduceAdd,As hla0,or_true,hf6]) (fun hb7=>?_) (fun hb7=>by cases hb7)
  apply An;intro K8 au
  apply Ap 1 [4,5,6]
  rw [Ao];simp +decide only [go_sem,Nat.reduceAdd,As hla0,or_true,hf6]
  (repeat' apply Ae)<;>first | refine au _ _ ?_ | exact cl
  clear au
  apply AM;simp +decide only [go_sem,Nat.reduceAdd,As hla0,or_true,hf6]
  have hgt:=Option.some.inj h;subst hgt
  first | refine Dy g rfl q.pre ev ⟨?_,rfl⟩ | refine FD g rfl q.pre ev ⟨?_,rfl⟩
  first | rfl | (simp +decide only [go_sem,Nat.reduceAdd,As hla0,or_true,hf6];done) | (simp +decide only [go_sem,Nat.reduceAdd,Vl.cs,Ty.cs,As hla0,or_true,hf6];done)
 ·replace h:=Bh h hf6
  obtain ⟨y9,a7,h⟩:=bind_some h
  apply Ap 2 [0,4,7,28]
  rw [Ao];simp +decide only [go_sem,Nat.reduceAdd,As hla0,or_true,hf6,hB]
  (repeat' apply Ae)<;>first | refine Ax _ (DI w0 n _ _ _ v.1 ([bodyP]) _ a7) (by first | rfl | (simp +decide only [go_sem,Nat.reduceAdd,As hla0,or_true,hf6,hB];done) | (simp +decide only [go_sem,Nat.reduceAdd,Vl.cs,Ty.cs,As hla0,or_true,hf6,hB];done)) ?_ | exact cl
  rw [Ao];simp +decide only [go_sem,Nat.reduceAdd,As hla0,or_true,hf6,hB]
  (repeat' apply Ae)<;>first | refine z _ _ ?_ | exact cl
  clear z
  refine AN (!y9) ev (by first | (simp +decide only [go_sem,Nat.reduceAdd,As hla0,or_true,hf6];done) | (simp +decide only [go_sem,Nat.reduceAdd,As hla0,or_true,hf6];rfl)) (fun d=>?_) (fun d=>?_)
  ·replace h:=Be h d
   apply An;intro K11 ab
   apply Ap 1 [4,5,6]
   rw [Ao];simp +decide only [go_sem,Nat.reduceAdd,As hla0,or_true,hf6,d]
   (repeat' apply Ae)<;>first | refine ab _ _ ?_ | exact cl
   clear ab
   apply AM;simp +decide only [go_sem,Nat.reduceAdd,As hla0,or_true,hf6,d]
   have hgt:=Option.some.inj h;subst hgt
   first | refine Dy g rfl q.pre ev ⟨?_,rfl⟩ | refine FD g rfl q.pre ev ⟨?_,rfl⟩
   first | rfl | (simp +decide only [go_sem,Nat.reduceAdd,As hla0,or_true,hf6,d];done) | (simp +decide only [go_sem,Nat.reduceAdd,Vl.cs,Ty.cs,As hla0,or_true,hf6,d];done)
  replace h:=Bh h d
  refine sk [0,4,7] hs ax ?_
  clear ax
  apply An;intro K12 aa
  obtain ⟨bb,h⟩:=Au h
  apply Ap 1 [0,4,9]
  rw [Ao];simp +decide only [go_sem,Nat.reduceAdd,As hla0,or_true,hf6,d]
  (repeat' apply Ae)<;>first | refine aa _ _ ?_ | exact cl
  clear aa
  apply An;intro K14 ah
  obtain ⟨a5,aq,h⟩:=bind_some h
  apply Ap 2 [0,4,9,10]
  rw [Ao];simp +decide only [go_sem,Nat.reduceAdd,As hla0,or_true,hf6,d]
  (repeat' apply Ae)<;>first | refine Ax _ (Jm w0 n _ _ _ a0.targets 163 [.box (B.length+1) 0] (fun (x0:List Part)=>Ce n x0 (v.1.drop 1)) (fun x0 r hx B' rows' a9 bg=>by exact Ky w0 n _ _ _ x0 _ (v.1.drop 1) (D7 a9 (by simp +decide only [go_sem,Nat.reduceAdd,As hla0,or_true,hf6,d])) _ hx) _ aq) (by first | rfl | (simp +decide only [go_sem,Nat.reduceAdd,As hla0,or_true,hf6,d];done) | (simp +decide only [go_sem,Nat.reduceAdd,Vl.cs,Ty.cs,As hla0,or_true,hf6,d];done)) ?_ | exact cl
  rw [Ao];simp +decide only [go_sem,Nat.reduceAdd,As hla0,or_true,hf6,d]
  (repeat' apply Ae)<;>first | refine ah _ _ ?_ | exact cl
  clear ah
  apply An;intro K16 Y
  apply An;intro K17 J
  apply Ap 1 [0,4,9,10,39]
  rw [Ao];simp +decide only [go_sem,Nat.reduceAdd,As hla0,or_true,hf6,d]
  (repeat' apply Ae)<;>first | refine J _ _ ?_ | exact cl
  clear J
  refine AN (decide (a5<0)) ev (by first | (simp +decide only [go_sem,Nat.reduceAdd,As hla0,or_true,hf6,d];done) | (simp +decide only [go_sem,Nat.reduceAdd,As hla0,or_true,hf6,d];rfl)) (fun e=>?_) (fun e=>?_)
  ·replace h:=Be h e
   apply An;intro K19 af
   obtain ⟨bh,am,h⟩:=bind_some h
   apply Ap 2 [4,5,6]
   rw [Ao];simp +decide only [go_sem,Nat.reduceAdd,As hla0,or_true,hf6,d,e]
   (repeat' apply Ae)<;>first | refine Ax _ (Me w0 hP n _ _ _ la0 a0 (by simp +decide only [go_sem,Nat.reduceAdd,As hla0,or_true,hf6,d,e]) (v.1.drop 1) _ am) (by first | rfl | (simp +decide only [go_sem,Nat.reduceAdd,As hla0,or_true,hf6,d,e];done) | (simp +decide only [go_sem,Nat.reduceAdd,Vl.cs,Ty.cs,As hla0,or_true,hf6,d,e];done)) ?_ | exact cl
   rw [Ao];simp +decide only [go_sem,Nat.reduceAdd,As hla0,or_true,hf6,d,e]
   (repeat' apply Ae)<;>first | refine af _ _ ?_ | exact cl
   clear af
   apply AM;simp +decide only [go_sem,Nat.reduceAdd,As hla0,or_true,hf6,d,e]
   have hgt:=Option.some.inj h;subst hgt
   first | refine Dy g rfl q.pre ev ⟨?_,rfl⟩ | refine FD g rfl q.pre ev ⟨?_,rfl⟩
   first | rfl | (simp +decide only [go_sem,Nat.reduceAdd,As hla0,or_true,hf6,d,e];done) | (simp +decide only [go_sem,Nat.reduceAdd,Vl.cs,Ty.cs,As hla0,or_true,hf6,d,e];done)
  replace h:=Bh h e
  refine sk [0,4,9,10] hs Y ?_
  clear Y
  apply An;intro K21 H
  obtain ⟨y,a8,a2,b,h⟩:=ix A7 h
  obtain ⟨t,a3,a4,c,h⟩:=ix (CJ AD) h
  apply Lp QQ [15,16] [0,4,9,11,12] kr (fun s=>∃ (X:Aq) (rows:Aw),s=⟨B++([[Am 0,Am 0,.val (.string (⟨#[]⟩:ByteArray)),.list ([]) .full,.list ([]) .full],[.list ((v.1.drop 1).map AD) .none]]++X),rows,L⟩) 3 (B.length+2)
  ·simp +decide only [go_sem,Nat.reduceAdd]
  ·rintro s ⟨X,rows,rfl⟩
   refine ⟨1,?_⟩
   rw [Ao];simp +decide only [go_sem,Nat.reduceAdd,Eg,As hla0,or_true,hf6,d,e,b,c]
   (repeat' apply Ae)<;>first | rfl | exact cl
  ·exact gd (tg (a:=(15,16,[0,4,9,11,12]))) (Ae c (Ae b (Ae hf6 (Ae or_true (Ae (As hla0) hs)))))
  simp +decide only [go_sem,Nat.reduceAdd,As hla0,or_true,hf6,d,e,b,c]
  (repeat' apply Ae)<;>first | refine H _ _ ?_ | exact cl
  clear H
  apply An;intro K24 K
  obtain ⟨p,ao,h⟩:=bind_some h
  apply Ap 2 [4,9,11,12,13,14]
  rw [Ao];simp +decide only [go_sem,Nat.reduceAdd,As hla0,or_true,hf6,d,e,b,c]
  (repeat' apply Ae)<;>first | refine Ax _ (Ox w0 n _ _ _ a0.mid t _ ao) (by first | rfl | (simp +decide only [go_sem,Nat.reduceAdd,As hla0,or_true,hf6,d,e,b,c];done) | (simp +decide only [go_sem,Nat.reduceAdd,Vl.cs,Ty.cs,As hla0,or_true,hf6,d,e,b,c];done)) ?_ | exact cl
  rw [Ao];simp +decide only [go_sem,Nat.reduceAdd,As hla0,or_true,hf6,d,e,b,c]
  (repeat' apply Ae)<;>first | refine K _ _ ?_ | exact cl
  clear K
  apply An;intro K26 U
  obtain ⟨ba,h⟩:=Au h
  apply Ap 1 [4,11,13,14,15]
  rw [Ao];simp +decide only [go_sem,Nat.reduceAdd,As hla0,or_true,hf6,d,e,b,c]
  (repeat' apply Ae)<;>first | refine U _ _ ?_ | exact cl
  clear U
  apply An;intro K28 w
  apply Ar
  apply An;intro K29 u
  rcases Bool.eq_false_or_eq_true (p.2) with hf30 | hf30
  ·replace h:=Be h hf30
   obtain ⟨a6,ar,h⟩:=bind_some h
   apply Ap 2 [4,11,13,14,15,74]
   rw [Ao];simp +decide only [go_sem,Nat.reduceAdd,As hla0,or_true,hf6,d,e,b,c,hf30]
   (repeat' apply Ae)<;>first | refine Ax _ (KX w0 n _ _ _ p.1.2.2.2.1 _ ar) (by first | rfl | (simp +decide only [go_sem,Nat.reduceAdd,As hla0,or_true,hf6,d,e,b,c,hf30];done) | (simp +decide only [go_sem,Nat.reduceAdd,Vl.cs,Ty.cs,As hla0,or_true,hf6,d,e,b,c,hf30];done)) ?_ | exact cl
   rw [Ao];simp +decide only [go_sem,Nat.reduceAdd,As hla0,or_true,hf6,d,e,b,c,hf30]
   (repeat' apply Ae)<;>first | refine u _ _ ?_ | exact cl
   clear u
   refine AN (a6) ev (by first | (simp +decide only [go_sem,Nat.reduceAdd,As hla0,or_true,hf6,d,e,b,c,hf30];done) | (simp +decide only [go_sem,Nat.reduceAdd,As hla0,or_true,hf6,d,e,b,c,hf30];rfl)) (fun f=>?_) (fun f=>?_)
   ·replace h:=Be h f
    apply An;intro K33 V
    apply Ap 1 [4,5,6]
    rw [Ao];simp +decide only [go_sem,Nat.reduceAdd,As hla0,or_true,hf6,d,e,b,c,hf30,f]
    (repeat' apply Ae)<;>first | refine V _ _ ?_ | exact cl
    clear V
    apply AM;simp +decide only [go_sem,Nat.reduceAdd,As hla0,or_true,hf6,d,e,b,c,hf30,f]
    have hgt:=Option.some.inj h;subst hgt
    first | refine Dy g rfl q.pre ev ⟨?_,rfl⟩ | refine FD g rfl q.pre ev ⟨?_,rfl⟩
    first | rfl | (simp +decide only [go_sem,Nat.reduceAdd,As hla0,or_true,hf6,d,e,b,c,hf30,f];done) | (simp +decide only [go_sem,Nat.reduceAdd,Vl.cs,Ty.cs,As hla0,or_true,hf6,d,e,b,c,hf30,f];done)
   replace h:=Bh h f
   apply An;intro K34 G
   apply Ap 1 [4,11,13,14,15,82]
   rw [Ao];simp +decide only [go_sem,Nat.reduceAdd,As hla0,or_true,hf6,d,e,b,c,hf30,f]
   (repeat' apply Ae)<;>first | refine G _ _ ?_ | exact cl
   clear G
   refine AN ((decide (((((v.1.drop 1).drop t.length).length:Int))=0))&&(decide (p.1.2.2.1=3))) ev (by first | (simp +decide only [go_sem,Nat.reduceAdd,As hla0,or_true,hf6,d,e,b,c,hf30,f];done) | (simp +decide only [go_sem,Nat.reduceAdd,As hla0,or_true,hf6,d,e,b,c,hf30,f];rfl)) (fun j=>?_) (fun j=>?_)
   ·replace h:=Be h j
    apply An;intro K36 ad
    apply Ap 1 [4,5,6]
    rw [Ao];simp +decide only [go_sem,Nat.reduceAdd,As hla0,or_true,hf6,d,e,b,c,hf30,f,j]
    (repeat' apply Ae)<;>first | refine ad _ _ ?_ | exact cl
    clear ad
    apply AM;simp +decide only [go_sem,Nat.reduceAdd,As hla0,or_true,hf6,d,e,b,c,hf30,f,j]
    have hgt:=Option.some.inj h;subst hgt
    first | refine Dy g rfl q.pre ev ⟨?_,rfl⟩ | refine FD g rfl q.pre ev ⟨?_,rfl⟩
    first | rfl | (simp +decide only [go_sem,Nat.reduceAdd,As hla0,or_true,hf6,d,e,b,c,hf30,f,j];done) | (simp +decide only [go_sem,Nat.reduceAdd,Vl.cs,Ty.cs,As hla0,or_true,hf6,d,e,b,c,hf30,f,j];done)
   replace h:=Bh h j
   apply An;intro K37 N
   apply Ap 1 [4,11,13,14,15,100]
   rw [Ao];simp +decide only [go_sem,Nat.reduceAdd,As hla0,or_true,hf6,d,e,b,c,hf30,f,j]
   (repeat' apply Ae)<;>first | refine N _ _ ?_ | exact cl
   clear N
   refine AN (decide (((((v.1.drop 1).drop t.length).length:Int))=0)) ev (by first | (simp +decide only [go_sem,Nat.reduceAdd,As hla0,or_true,hf6,d,e,b,c,hf30,f,j];done) | (simp +decide only [go_sem,Nat.reduceAdd,As hla0,or_true,hf6,d,e,b,c,hf30,f,j];rfl)) (fun k=>?_) (fun k=>?_)
   ·replace h:=Be h k
    apply An;intro K39 ai
    apply Lp QQ [4] [4,5,6] kr (fun s=>∃ (X:Aq) (rows:Aw) (c0:List AV),s=⟨B++([c0,[.list ((v.1.drop 1).map AD) .none],y.2.cs,Am p.1.1::(.val (.string p.1.2.1)::(Am p.1.2.2.1::((p.1.2.2.2.1.cs)++([.list (p.1.2.2.2.2.map Dw) .none]))))]++X),rows,L⟩) 2 (B.length+4)
    ·simp +decide only [go_sem,Nat.reduceAdd]
    ·rintro s ⟨X,rows,c0,rfl⟩
     refine ⟨1,?_⟩
     rw [Ao];simp +decide only [go_sem,Nat.reduceAdd,Eg,As hla0,or_true,hf6,d,e,b,c,hf30,f,j,k]
     (repeat' apply Ae)<;>first | rfl | exact cl
    ·exact gd (tg (a:=(4,[4,5,6]))) (Ae hf30 (Ae c (Ae b (Ae hf6 (Ae or_true (Ae (As hla0) hs))))))
    simp +decide only [go_sem,Nat.reduceAdd,As hla0,or_true,hf6,d,e,b,c,hf30,f,j,k]
    (repeat' apply Ae)<;>first | refine ai _ _ ?_ | exact cl
    clear ai
    apply AM;simp +decide only [go_sem,Nat.reduceAdd,As hla0,or_true,hf6,d,e,b,c,hf30,f,j,k]
    have hgt:=Option.some.inj h;subst hgt
    first | refine Dy g rfl q.pre ev ⟨?_,rfl⟩ | refine FD g rfl q.pre ev ⟨?_,rfl⟩
    first | rfl | (simp +decide only [go_sem,Nat.reduceAdd,As hla0,or_true,hf6,d,e,b,c,hf30,f,j,k];done) | (simp +decide only [go_sem,Nat.reduceAdd,Vl.cs,Ty.cs,As hla0,or_true,hf6,d,e,b,c,hf30,f,j,k];done)
   replace h:=Bh h k
   apply An;intro K40 Z
   apply Ap 1 [4,11,15,108]
   rw [Ao];simp +decide only [go_sem,Nat.reduceAdd,As hla0,or_true,hf6,d,e,b,c,hf30,f,j,k]
   (repeat' apply Ae)<;>first | refine Z _ _ ?_ | exact cl
   clear Z
   refine AN ((!(decide (y.2.op=2)))||(decide (p.1.2.2.1=3))) ev (by first | (simp +decide only [go_sem,Nat.reduceAdd,As hla0,or_true,hf6,d,e,b,c,hf30,f,j,k];done) | (simp +decide only [go_sem,Nat.reduceAdd,As hla0,or_true,hf6,d,e,b,c,hf30,f,j,k];rfl)) (fun o=>?_) (fun o=>?_)
   ·replace h:=Be h o
    apply An;intro K42 O
    apply Ap 1 [4,5,6]
    rw [Ao];simp +decide only [go_sem,Nat.reduceAdd,As hla0,or_true,hf6,d,e,b,c,hf30,f,j,k,o]
    (repeat' apply Ae)<;>first | refine O _ _ ?_ | exact cl
    clear O
    apply AM;simp +decide only [go_sem,Nat.reduceAdd,As hla0,or_true,hf6,d,e,b,c,hf30,f,j,k,o]
    have hgt:=Option.some.inj h;subst hgt
    first | refine Dy g rfl q.pre ev ⟨?_,rfl⟩ | refine FD g rfl q.pre ev ⟨?_,rfl⟩
    first | rfl | (simp +decide only [go_sem,Nat.reduceAdd,As hla0,or_true,hf6,d,e,b,c,hf30,f,j,k,o];done) | (simp +decide only [go_sem,Nat.reduceAdd,Vl.cs,Ty.cs,As hla0,or_true,hf6,d,e,b,c,hf30,f,j,k,o];done)
   replace h:=Bh h o
   refine sk [4,11,15] hs w ?_
   clear w
   apply An;intro K43 F
   obtain ⟨bd,av,h⟩:=bind_some h
   apply Ap 2 [4,5,6]
   rw [Ao];simp +decide only [go_sem,Nat.reduceAdd,As hla0,or_true,hf6,d,e,b,c,hf30,f,j,k,o]
   (repeat' apply Ae)<;>first | refine Ax _ (O3 w0 hP n _ _ _ y.2.text ((v.1.drop 1).drop t.length) _ av) (by first | rfl | (simp +decide only [go_sem,Nat.reduceAdd,As hla0,or_true,hf6,d,e,b,c,hf30,f,j,k,o];done) | (simp +decide only [go_sem,Nat.reduceAdd,Vl.cs,Ty.cs,As hla0,or_true,hf6,d,e,b,c,hf30,f,j,k,o];done)) ?_ | exact cl
   rw [Ao];simp +decide only [go_sem,Nat.reduceAdd,As hla0,or_true,hf6,d,e,b,c,hf30,f,j,k,o]
   (repeat' apply Ae)<;>first | refine F _ _ ?_ | exact cl
   clear F
   apply AM;simp +decide only [go_sem,Nat.reduceAdd,As hla0,or_true,hf6,d,e,b,c,hf30,f,j,k,o]
   have hgt:=Option.some.inj h;subst hgt
   first | refine Dy g rfl q.pre ev ⟨?_,rfl⟩ | refine FD g rfl q.pre ev ⟨?_,rfl⟩
   first | rfl | (simp +decide only [go_sem,Nat.reduceAdd,As hla0,or_true,hf6,d,e,b,c,hf30,f,j,k,o];done) | (simp +decide only [go_sem,Nat.reduceAdd,Vl.cs,Ty.cs,As hla0,or_true,hf6,d,e,b,c,hf30,f,j,k,o];done)
  ·replace h:=Bh h hf30
   apply Ap 2 [4,11,13,14,15,74]
   rw [Ao];simp +decide only [go_sem,Nat.reduceAdd,As hla0,or_true,hf6,d,e,b,c,hf30]
   (repeat' apply Ae)<;>first | refine He ?_ | exact cl
   rw [Ao];simp +decide only [go_sem,Nat.reduceAdd,As hla0,or_true,hf6,d,e,b,c,hf30]
   (repeat' apply Ae)<;>first | refine u _ _ ?_ | exact cl
   clear u
   refine AN false ev (by simp +decide only [go_sem,Nat.reduceAdd,As hla0,or_true,hf6,d,e,b,c,hf30]) (fun hb45=>by cases hb45) (fun hb45=>?_)
   apply An;intro K46 ag
   apply Ap 1 [4,11,13,14,15,82]
   rw [Ao];simp +decide only [go_sem,Nat.reduceAdd,As hla0,or_true,hf6,d,e,b,c,hf30]
   (repeat' apply Ae)<;>first | refine ag _ _ ?_ | exact cl
   clear ag
   refine AN (((decide (((((v.1.drop 1).drop t.length).length:Int))=0))&&p.2)&&(decide (p.1.2.2.1=3))) ev (by first | (simp +decide only [go_sem,Nat.reduceAdd,As hla0,or_true,hf6,d,e,b,c,hf30];done) | (simp +decide only [go_sem,Nat.reduceAdd,As hla0,or_true,hf6,d,e,b,c,hf30];rfl)) (fun i=>?_) (fun i=>?_)
   ·replace h:=Be h i
    apply An;intro K48 D
    apply Ap 1 [4,5,6]
    rw [Ao];simp +decide only [go_sem,Nat.reduceAdd,As hla0,or_true,hf6,d,e,b,c,hf30,i]
    (repeat' apply Ae)<;>first | refine D _ _ ?_ | exact cl
    clear D
    apply AM;simp +decide only [go_sem,Nat.reduceAdd,As hla0,or_true,hf6,d,e,b,c,hf30,i]
    have hgt:=Option.some.inj h;subst hgt
    first | refine Dy g rfl q.pre ev ⟨?_,rfl⟩ | refine FD g rfl q.pre ev ⟨?_,rfl⟩
    first | rfl | (simp +decide only [go_sem,Nat.reduceAdd,As hla0,or_true,hf6,d,e,b,c,hf30,i];done) | (simp +decide only [go_sem,Nat.reduceAdd,Vl.cs,Ty.cs,As hla0,or_true,hf6,d,e,b,c,hf30,i];done)
   replace h:=Bh h i
   apply An;intro K49 ae
   apply Ap 1 [4,11,13,14,15,100]
   rw [Ao];simp +decide only [go_sem,Nat.reduceAdd,As hla0,or_true,hf6,d,e,b,c,hf30,i]
   (repeat' apply Ae)<;>first | refine ae _ _ ?_ | exact cl
   clear ae
   refine AN (decide (((((v.1.drop 1).drop t.length).length:Int))=0)) ev (by first | (simp +decide only [go_sem,Nat.reduceAdd,As hla0,or_true,hf6,d,e,b,c,hf30,i];done) | (simp +decide only [go_sem,Nat.reduceAdd,As hla0,or_true,hf6,d,e,b,c,hf30,i];rfl)) (fun l=>?_) (fun l=>?_)
   ·replace h:=Be h l
    apply An;intro K51 E
    apply Lp QQ [4] [4,5,6] kr (fun s=>∃ (X:Aq) (rows:Aw) (c0:List AV),s=⟨B++([c0,[.list ((v.1.drop 1).map AD) .none],y.2.cs,Am p.1.1::(.val (.string p.1.2.1)::(Am p.1.2.2.1::((p.1.2.2.2.1.cs)++([.list (p.1.2.2.2.2.map Dw) .none]))))]++X),rows,L⟩) 2 (B.length+4)
    ·simp +decide only [go_sem,Nat.reduceAdd]
    ·rintro s ⟨X,rows,c0,rfl⟩
     refine ⟨1,?_⟩
     rw [Ao];simp +decide only [go_sem,Nat.reduceAdd,Eg,As hla0,or_true,hf6,d,e,b,c,hf30,i,l]
     (repeat' apply Ae)<;>first | rfl | exact cl
    ·exact gd (tg (a:=(4,[4,5,6]))) (Ae hf30 (Ae c (Ae b (Ae hf6 (Ae or_true (Ae (As hla0) hs))))))
    simp +decide only [go_sem,Nat.reduceAdd,As hla0,or_true,hf6,d,e,b,c,hf30,i,l]
    (repeat' apply Ae)<;>first | refine E _ _ ?_ | exact cl
    clear E
    apply AM;simp +decide only [go_sem,Nat.reduceAdd,As hla0,or_true,hf6,d,e,b,c,hf30,i,l]
    have hgt:=Option.some.inj h;subst hgt
    first | refine Dy g rfl q.pre ev ⟨?_,rfl⟩ | refine FD g rfl q.pre ev ⟨?_,rfl⟩
    first | rfl | (simp +decide only [go_sem,Nat.reduceAdd,As hla0,or_true,hf6,d,e,b,c,hf30,i,l];done) | (simp +decide only [go_sem,Nat.reduceAdd,Vl.cs,Ty.cs,As hla0,or_true,hf6,d,e,b,c,hf30,i,l];done)
   replace h:=Bh h l
   apply An;intro K52 C
   apply Ap 1 [4,11,15,108]
   rw [Ao];simp +decide only [go_sem,Nat.reduceAdd,As hla0,or_true,hf6,d,e,b,c,hf30,i,l]
   (repeat' apply Ae)<;>first | refine C _ _ ?_ | exact cl
   clear C
   refine AN (!(decide (y.2.op=2))) ev (by first | (simp +decide only [go_sem,Nat.reduceAdd,As hla0,or_true,hf6,d,e,b,c,hf30,i,l];done) | (simp +decide only [go_sem,Nat.reduceAdd,As hla0,or_true,hf6,d,e,b,c,hf30,i,l];rfl)) (fun m=>?_) (fun m=>?_)
   ·replace h:=Be h m
    apply An;intro K54 aj
    apply Ap 1 [4,5,6]
    rw [Ao];simp +decide only [go_sem,Nat.reduceAdd,As hla0,or_true,hf6,d,e,b,c,hf30,i,l,m]
    (repeat' apply Ae)<;>first | refine aj _ _ ?_ | exact cl
    clear aj
    apply AM;simp +decide only [go_sem,Nat.reduceAdd,As hla0,or_true,hf6,d,e,b,c,hf30,i,l,m]
    have hgt:=Option.some.inj h;subst hgt
    first | refine Dy g rfl q.pre ev ⟨?_,rfl⟩ | refine FD g rfl q.pre ev ⟨?_,rfl⟩
    first | rfl | (simp +decide only [go_sem,Nat.reduceAdd,As hla0,or_true,hf6,d,e,b,c,hf30,i,l,m];done) | (simp +decide only [go_sem,Nat.reduceAdd,Vl.cs,Ty.cs,As hla0,or_true,hf6,d,e,b,c,hf30,i,l,m];done)
   replace h:=Bh h m
   refine sk [4,11,15] hs w ?_
   clear w
   apply An;intro K55 Q
   obtain ⟨bc,aw,h⟩:=bind_some h
   apply Ap 2 [4,5,6]
   rw [Ao];simp +decide only [go_sem,Nat.reduceAdd,As hla0,or_true,hf6,d,e,b,c,hf30,i,l,m]
   (repeat' apply Ae)<;>first | refine Ax _ (O3 w0 hP n _ _ _ y.2.text ((v.1.drop 1).drop t.length) _ aw) (by first | rfl | (simp +decide only [go_sem,Nat.reduceAdd,As hla0,or_true,hf6,d,e,b,c,hf30,i,l,m];done) | (simp +decide only [go_sem,Nat.reduceAdd,Vl.cs,Ty.cs,As hla0,or_true,hf6,d,e,b,c,hf30,i,l,m];done)) ?_ | exact cl
   rw [Ao];simp +decide only [go_sem,Nat.reduceAdd,As hla0,or_true,hf6,d,e,b,c,hf30,i,l,m]
   (repeat' apply Ae)<;>first | refine Q _ _ ?_ | exact cl
   clear Q
   apply AM;simp +decide only [go_sem,Nat.reduceAdd,As hla0,or_true,hf6,d,e,b,c,hf30,i,l,m]
   have hgt:=Option.some.inj h;subst hgt
   first | refine Dy g rfl q.pre ev ⟨?_,rfl⟩ | refine FD g rfl q.pre ev ⟨?_,rfl⟩
   first | rfl | (simp +decide only [go_sem,Nat.reduceAdd,As hla0,or_true,hf6,d,e,b,c,hf30,i,l,m];done) | (simp +decide only [go_sem,Nat.reduceAdd,Vl.cs,Ty.cs,As hla0,or_true,hf6,d,e,b,c,hf30,i,l,m];done)
def EX (n:Nat)  (b0_k5:Ex) (pla2_k5:Bool):Option (Ex × Bool) :=
 some ((b0_k5,pla2_k5))
def JJ (n:Nat) (b:Ex) (q:Cps) (h:Bool):Option (Ex × Bool) :=
 (Et n q b.text).bind fun g =>
 if !g.2.2 then
  EX n b false
 else
  if decide (b.op=2) then
   some ((g.1,h))
  else
   if decide (g.1.op=2) then
    EX n (Ex.mk b.op b.int g.1.text b.value b.args) h
   else
    if (decide (b.op=22))&&g.2.1 then
     some ((Ex.mk 1 0 (⟨#[]⟩:ByteArray) ([Vl.mk 1 1 0 (⟨#[]⟩:ByteArray) ([]) ([])]) ([]),h))
    else
     EX n b false
theorem Rh (w0:World) (hB:O7 w0) (hE:JF w0) (hM:Jz w0) (hP:Pow10 w0) (n:Nat) (B:Aq) (Rw:Aw) (L:Av) (a0:Ex) (la1 la1p:Nat) (a1:Cps) (hla1:B[la1]? = some [.box la1p 0]) (hla1p:B[la1p]? = some (.list (a1.rules.map A7) .none::(.list (a1.targets.map (CJ AD)) .none::(a1.mid.cs)))) (la2:Nat) (a2:Bool) (hla2:B[la2]? = some ([.val (.bool a2)])) (r:Ex × Bool) (h:JJ n a0 a1 a2=some r) :
  ACalls Tryz.prog w0 75 [.agg (a0.cs),.box la1 0,.box la2 0] ⟨B,Rw,L⟩ fun x st=>x = .agg (r.1.cs)∧st=⟨(B.set la2 [.val (.bool r.2)]),Rw,L⟩:=by
 rw [JJ] at h
 refine hd [.cell 4 65] Tryz.func75 Tryz.ntmps75 fun M0 W0 u m l f v g hs=>?_
 simp only [AB]
 have o:=(Ak.1 hla1).1
 have j:=(Ak.1 hla1p).1
 have p:=(Ak.1 hla2).1
 have hs:=Ae (As hla1) hs
 have hs:=Ae (As hla1p) hs
 have hs:=Ae (As hla2) hs
 refine rg [1,2,3,4] hs ?_
 obtain ⟨q,s,h⟩:=bind_some h
 refine rc 2 [2,3,4,5,6,7] hs ?_;intro K2 k
 refine Ax _ (Ll w0 hB hE hM hP n _ _ _ la1p a1 (ef hs) a0.text _ s) (hv hs) ?_
 refine ne hs k ?_
 clear k
 refine AA (fun e st=>∃ (d:Ex) (b:Bool) (c:List AV) (Xk5:Aq) (Rk5:Aw),e=[(3,true,.box B.length 0),(4,true,.box (B.length+1) 0)]∧st=⟨(B.set la2 ([.val (.bool b)]))++([c,[Am 0,Am 0,.val (.string (⟨#[]⟩:ByteArray)),.list ([]) .full,.list ([]) .full],q.1.cs]++Xk5),Rk5,L⟩∧Owns Rw Rk5 []∧c.map AV.pubCell=d.cs∧EX n d b=some r) ?_ ?_
 ·intro K6 i
  apply Ar
  refine rg [2,3,4,5,6,16] hs ?_
  refine BL h hs ?_ ?_<;>intro hs h
  ·refine rl [3,4] hs i ?_
   exact ⟨a0,false,_,([]),Rw,ef hs,ef hs,g,ef hs,h⟩
  refine rg [2,3,4,5,6,19] hs ?_
  refine BL h hs ?_ ?_<;>intro hs h
  ·refine rg [4] hs ?_
   exact rt h hs f g
  refine rg [2,3,4,5,6,24] hs ?_
  refine BL h hs ?_ ?_<;>intro hs h
  ·have hs:=Ae (Ex.cs_eqs a0) hs
   refine rl [3,4] hs i ?_
   exact ⟨(Ex.mk a0.op a0.int q.1.text a0.value a0.args),a2,([Am a0.op,Am a0.int,.val (.string q.1.text),.list (a0.value.map Dw) .none,.list (a0.args.map Qq) .none]),([]),Rw,ef (cm hs),ef (cm hs),g,ef (cm hs),h⟩
  refine rg [2,3,4,31] hs ?_
  refine BL h hs ?_ ?_<;>intro hs h
  ·refine rg [4] hs ?_
   exact rt h hs f g
  refine rl [3,4] hs i ?_
  exact ⟨a0,false,_,([]),Rw,ef hs,ef hs,g,ef hs,h⟩
 ·clear h;rintro e st ⟨d,b,c,Xk5,Rk5,rfl,rfl,g,t,h⟩
  rw [EX] at h
  refine Gz B.length (by first | rfl | (simp only [E3,Dx,Eu,C7];rfl)) t ?_;simp +decide only [go_sem,Nat.reduceAdd]
  show Eb _ _ _ _ _ _ _ _ [(3,true,.box B.length 0),(4,true,.box (B.length+1) 0)] ⟨(B.set la2 ([.val (.bool b)]))++([d.cs,[Am 0,Am 0,.val (.string (⟨#[]⟩:ByteArray)),.list ([]) .full,.list ([]) .full],q.1.cs]++Xk5),Rk5,L⟩
  refine A8 u m l ls_ (C6 f ev) g ow ow ?_
  exact go (tg (a:=([4],()))) h hs u m l f g trivial trivial
def JA (rec:Ex→Cps→Bool→Option (Ex × Bool)) (n:Nat) (g:Ex) (b:List Ex) (plc1_k16:Bool):Option (Ex × Bool) :=
 some ((Ex.mk g.op g.int g.text g.value b,plc1_k16))
def HB (rec:Ex→Cps→Bool→Option (Ex × Bool)) (n:Nat) (q:Ex) (c1_0:Cps):Nat→(List Ex)→Int→Bool→Option (Ex × Bool)
 | 0,_,_,_=>none
 | m+1,g,b,plc1_l19 =>
  if decide (b<(q.args.length:Int)) then
   (BJ q.args b).bind fun y =>
   (rec y c1_0 plc1_l19).bind fun h =>
   if (g.length+1)*80≤140737488355328∧g.length+1≤4611686018427387904 then
    if A9 (b+1) then
     (HB rec n q c1_0 m) (g++([h.1])) (b+1) h.2
    else none
   else none
  else
   JA rec n q g plc1_l19
def Gx (rec:Ex→Cps→Bool→Option (Ex × Bool)) (n:Nat) (h:Ex) (c1_0:Cps) (c1_1:Bool) (b:Bool):Option (Ex × Bool) :=
 if b then
  (JJ n h c1_0 c1_1).bind fun g =>
  some ((g.1,g.2))
 else
  HB rec n h c1_0 n ([]) 0 c1_1
def LU (rec:Ex→Cps→Bool→Option (Ex × Bool)) (n:Nat) (b:Ex) (c1_0:Cps) (c1_1:Bool):Option (Ex × Bool) :=
 if decide (b.op=2) then
  Gx rec n b c1_0 c1_1 true
 else
  if decide (b.op=22) then
   Gx rec n b c1_0 c1_1 true
  else
   Gx rec n b c1_0 c1_1 (decide (b.op=26))
def I4:Nat→Ex→Cps→Bool→Option (Ex × Bool)
 | 0,_,_,_=>none
 | n+1,b,c1_0,c1_1=>LU (I4 n) n b c1_0 c1_1
def LQ (w0:World) (F:Ex→Cps→Bool→Option (Ex × Bool)):Prop:=∀ (B:Aq) (Rw:Aw) (L:Av) (b:Ex) (lc0 lc0p:Nat) (c1_0:Cps) (hlc0:B[lc0]? = some [.box lc0p 0]) (hlc0p:B[lc0p]? = some (.list (c1_0.rules.map A7) .none::(.list (c1_0.targets.map (CJ AD)) .none::(c1_0.mid.cs)))) (lc1:Nat) (c1_1:Bool) (hlc1:B[lc1]? = some ([.val (.bool c1_1)])) (hne_lc1_lc0:lc1≠lc0) (hne_lc1_lc0p:lc1≠lc0p) (r:Ex × Bool),F b c1_0 c1_1=some r→ACalls Tryz.prog w0 77 [.agg (b.cs),.clo 75 [.box lc0 0,.box lc1 0]] ⟨B,Rw,L⟩ fun x st=>x = .agg (r.1.cs)∧st=⟨(B.set lc1 [.val (.bool r.2)]),Rw,L⟩
theorem Rz (w0:World) (hB:O7 w0) (hE:JF w0) (hM:Jz w0) (hP:Pow10 w0) (rec:Ex→Cps→Bool→Option (Ex × Bool)) (ih:LQ w0 rec) (n:Nat):LQ w0 (LU rec n):=by
 intro B Rw L a0 J O F g d G H l c b r h
 rw [LU] at h
 refine hd [.cell 4 65] Tryz.func77 Tryz.ntmps77 fun M0 W0 V E D i hu C hs=>?_
 simp only [AB]
 have ah:=(Ak.1 g).1
 have ad:=(Ak.1 d).1
 have ai:=(Ak.1 l).1
 have hs:=Ae (As g) hs
 have hs:=Ae (As d) hs
 have hs:=Ae (As l) hs
 have hs:=Ae (A6 g c) hs
 have hs:=Ae (A6 d b) hs
 refine rg [1,2,4] hs ?_
 apply An;intro K2 Z
 refine rg [1,2,4,9] hs ?_
 apply Ar
 refine AA (fun e st=>∃ (x:Bool),Ck e st B Rw L [(1,true,.clo 75 [.box J 0,.box G 0]),(2,true,.box B.length 0),(4,true,.box (B.length+1) 0),(10,true,.val (.bool x))] [a0.cs,[Am 0,Am 0,.val (.string (⟨#[]⟩:ByteArray)),.list ([]) .full,.list ([]) .full]] [] (Gx rec n a0 F H x=some r)) ?_ ?_
 ·intro K6 am
  exact go (tg (a:=([1,2,4,9,10],([1,2,4,10],()),[1,2,4,9,10],([1,2,4,10],()),[1,2,4,10],()))) h hs V E D i C trivial (q1 am)
 ·clear h;rintro e st ⟨x,Xk5,Rk5,rfl,rfl,C,h⟩
  rw [Gx] at h
  refine td V E D i C ?_
  refine BL h hs ?_ ?_<;>intro hs h
  ·have w:=hs.1
   obtain ⟨ar,aa,h⟩:=bind_some h
   refine rc 2 [4] hs ?_;intro K12 ae
   refine DL _ (Rh w0 hB hE hM hP n _ _ _ a0 J O F (ef hs) (ef hs) G H (ef hs) _ aa) (hv hs) ?_;rintro _ _ ⟨rfl,rfl⟩
   exact go (tg (a:=((),()))) h hs V E D i C trivial (q1 ae)
  have w:=hs.1
  refine sk [1,2,4] hs Z ?_
  clear Z
  refine rg [1,2,4,5] hs ?_
  refine AA (fun e st=>∃ (q:List Ex) (o:Bool) (u:Ev.Own) (Xk16:Aq) (Rk16:Aw),e=[(2,true,.box B.length 0),(4,true,.box (B.length+1) 0),(5,true,.list (q.map Qq) u)]∧st=⟨(B.set G ([.val (.bool o)]))++([a0.cs,[Am 0,Am 0,.val (.string (⟨#[]⟩:ByteArray)),.list ([]) .full,.list ([]) .full]]++Xk16),Rk16,L⟩∧Owns Rw Rk16 [(5,q.length,u)]∧JA rec n a0 q o=some r) ?_ ?_
  ·intro K17 af
   refine rg [1,2,4,5,18,19,20] hs ?_
   apply Ar
   refine Az (fun m e st=>∃ (k:List Ex) (t:Int) (j:Bool) (v:Ev.Own) (Xl19:Aq) (Rl19:Aw),e=[(1,true,.clo 75 [.box J 0,.box G 0]),(2,true,.box B.length 0),(4,true,.box (B.length+1) 0),(5,true,.list (k.map Qq) v),(18,true,.list (a0.args.map Qq) .none),(19,true,Am (a0.args.length:Int)),(20,true,Am t)]∧st=⟨(B.set G ([.val (.bool j)]))++([a0.cs,[Am 0,Am 0,.val (.string (⟨#[]⟩:ByteArray)),.list ([]) .full,.list ([]) .full]]++Xl19),Rl19,L⟩∧Owns Rw Rl19 [(5,k.length,v)]∧HB rec n a0 F m k t j=some r) n ⟨([]),0,H,.full,([]),Rk5,ef hs,ef hs,Owns.of_eq ((C).full 5 0) Dk,h⟩ ?_
   rintro ml19 e st ⟨k,t,j,v,Xl19,Rl19,rfl,rfl,C,h⟩ Ul19 Vl19
   cases ml19 with
   | zero=>cases h
   | succ ml19 =>
   rw [HB] at h
   have hU:=C.unders
   simp only [List.mem_cons,List.not_mem_nil,or_false,forall_eq_or_imp,forall_eq] at hU
   refine A8 V E D ls_ (C6 i ev) C ow ow ?_
   refine rg [1,2,4,5,18,19,20,21] hs ?_
   apply An;intro K21 N
   refine BL h hs ?_ ?_<;>intro hs h
   rotate_left
   ·exact go (tg (a:=([2,4,5],()))) h hs V E D i C trivial (q1 af)
   refine sk [1,2,4,5,18,19,20] hs N ?_
   clear N
   apply An;intro K23 ag
   apply Ar
   obtain ⟨ap,ab,h⟩:=bind_some h
   obtain ⟨ao,ak,Q⟩:=AY ab
   have U:=AO (f:=Qq) Q
   have hs:=Ae U hs
   refine rg [1,2,4,5,7,18,19,20] hs ?_
   obtain ⟨au,Y,h⟩:=bind_some h
   obtain ⟨K,h⟩:=Au h
   obtain ⟨aq,aj,C,p⟩:=C.append (P:=Tryz.prog) Zby (by rw [Va];rfl) (by decide) 1 K.1 K.2
   replace p:=fun (ys:List AV) B L o2=>p (k.map Qq) ys B L o2 Dk
   replace p:=fun (y:AV) B L o2=>p [y] B L o2 Dk ev
   try simp only [List.mem_singleton,List.mem_cons,List.not_mem_nil,or_false,forall_eq_or_imp,forall_eq,List.map_append,List.map_cons,List.map_nil,Fb,Ft,Fp,Ec,Ed,Fj,CG,Dp,Fq,BX,BW,Du,Dv,Dq,E8,Dt,Fa] at p
   have hs:=Ae p hs
   refine rk 2 [1,2,4,5,18,19,20] hs ?_
   refine DL _ (ih _ _ _ ap J O F (ef hs) (ef hs) G j (ef hs) nq nq _ Y) (hv hs) ?_;rintro _ _ ⟨rfl,rfl⟩
   exact go (tg (a:=([1,2,4,5,18,19,20],()))) h hs V E D i C trivial (q2 ag (fun e s=>Vl19 ml19 e s (Nat.lt_succ_self _)))
  ·clear h;rintro e st ⟨q,o,u,Xk16,Rk16,rfl,rfl,C,h⟩
   rw [JA] at h
   have hU:=C.unders
   simp only [List.mem_cons,List.not_mem_nil,or_false,forall_eq_or_imp,forall_eq] at hU
   refine A8 V E D ls_ (C6 i ev) C ow ow ?_
   have hs:=Ae (Ex.cs_eqs a0) hs
   refine rg [2,4] hs ?_
   refine rg [4] hs ?_
   apply AM;simp +decide only [go_sem,Nat.reduceAdd,As g,As d,As l,A6 g c,A6 d b,w,Ex.cs_eqs a0]
   have hgt:=Option.some.inj h;subst hgt
   first | refine Dy (C6 i ev) ls_ C.pre ev ⟨?_,(by first | rfl | exact congrArg (fun z=>St.mk z Rw L) (Nr g).symm | exact congrArg (fun z=>St.mk z Rw L) (Nr d).symm | exact congrArg (fun z=>St.mk z Rw L) (Nr l).symm | (simp +decide only [go_sem,Nat.reduceAdd,As g,As d,As l,A6 g c,A6 d b,w,Ex.cs_eqs a0];done))⟩ | refine FD (C6 i ev) ls_ C.pre ev ⟨?_,(by first | rfl | exact congrArg (fun z=>St.mk z Rw L) (Nr g).symm | exact congrArg (fun z=>St.mk z Rw L) (Nr d).symm | exact congrArg (fun z=>St.mk z Rw L) (Nr l).symm | (simp +decide only [go_sem,Nat.reduceAdd,As g,As d,As l,A6 g c,A6 d b,w,Ex.cs_eqs a0];done))⟩
   first | rfl | (simp +decide only [go_sem,Nat.reduceAdd,As g,As d,As l,A6 g c,A6 d b,w,Ex.cs_eqs a0];done) | (simp +decide only [go_sem,Nat.reduceAdd,Vl.cs,Ty.cs,As g,As d,As l,A6 g c,A6 d b,w,Ex.cs_eqs a0];done)
theorem KF (w0:World) (hB:O7 w0) (hE:JF w0) (hM:Jz w0) (hP:Pow10 w0):∀ n:Nat,LQ w0 (I4 n)
 | 0=>fun _ _ _ _ _ _ _ _ _ _ _ _ _ _ _ h=>(nomatch h)
 | n+1=>Rz w0 hB hE hM hP (I4 n) (KF w0 hB hE hM hP n) n
def LO (rec:Ex→Option Ex) (n:Nat) (b:Ex) (b2_k21_3:List Vl) (b2_k21_4:List Ex):Option Ex :=
 some (Ex.mk b.op b.int b.text b2_k21_3 b2_k21_4)
def IV (rec:Ex→Option Ex) (n:Nat) (g:Ex):Nat→Int→(List Vl)→(List Ex)→Option Ex
 | 0,_,_,_=>none
 | m+1,b,b2_l24_3,b2_l24_4 =>
  if decide (b<(g.args.length:Int)) then
   (BJ g.args b).bind fun q =>
   (rec q).bind fun h =>
   if (b2_l24_4.length+1)*80≤140737488355328∧b2_l24_4.length+1≤4611686018427387904 then
    if A9 (b+1) then
     (IV rec n g m) (b+1) b2_l24_3 (b2_l24_4++([h]))
    else none
   else none
  else
   LO rec n g b2_l24_3 b2_l24_4
def MZ (rec:Ex→Option Ex) (n:Nat) (b:Ex) (b2_k4_3:List Vl):Option Ex :=
 IV rec n b n 0 b2_k4_3 ([])
def JY (rec:Ex→Option Ex) (n:Nat) (g:Ex):Nat→Int→(List Vl)→Option Ex
 | 0,_,_=>none
 | m+1,b,b2_l7_3 =>
  if decide (b<(g.value.length:Int)) then
   (BJ g.value b).bind fun q =>
   (DX n q).bind fun h =>
   if (b2_l7_3.length+1)*88≤140737488355328∧b2_l7_3.length+1≤4611686018427387904 then
    if A9 (b+1) then
     (JY rec n g m) (b+1) (b2_l7_3++([h]))
    else none
   else none
  else
   MZ rec n g b2_l7_3
def NV (rec:Ex→Option Ex) (n:Nat) (b:Ex):Option Ex :=
 JY rec n b n 0 ([])
def Ln:Nat→Ex→Option Ex
 | 0,_=>none
 | n+1,b=>NV (Ln n) n b
def N4 (w0:World) (F:Ex→Option Ex):Prop:=∀ (B:Aq) (Rw:Aw) (L:Av) (b:Ex) (r:Ex),F b=some r→ACalls Tryz.prog w0 168 [.agg (b.cs)] ⟨B,Rw,L⟩ fun x st=>x = .agg (r.cs)∧st=⟨B,Rw,L⟩
theorem Ui (w0:World) (rec:Ex→Option Ex) (ih:N4 w0 rec) (n:Nat):N4 w0 (NV rec n):=by
 intro B Rw L a0 r h
 rw [NV] at h
 refine hd [.cell 2 65] Tryz.func168 Tryz.ntmps168 fun M0 W0 C y x u J w hs=>?_
 simp only [AB]
 refine rg [1,2] hs ?_
 refine rg [1,2,3] hs ?_
 refine AA (fun e st=>∃ (g:List Vl) (j:Ev.Own),Ck e st B Rw L [(1,true,.box B.length 0),(2,true,.box (B.length+1) 0),(3,true,.box (B.length+2) 0)] [a0.cs,[Am 0,Am 0,.val (.string (⟨#[]⟩:ByteArray)),.list ([]) .full,.list ([]) .full],[Am a0.op,Am a0.int,.val (.string a0.text),.list (g.map Dw) j,.list ([]) .full]] [(6,g.length,j)] (MZ rec n a0 g=some r)) ?_ ?_
 ·intro K5 F
  refine rg [1,2,3,16,17,18] hs ?_
  apply Ar
  refine Az (fun m e st=>∃ (v:Int) (p:List Vl) (q:Ev.Own),Ck e st B Rw L [(1,true,.box B.length 0),(2,true,.box (B.length+1) 0),(3,true,.box (B.length+2) 0),(16,true,.list (a0.value.map Dw) .none),(17,true,Am (a0.value.length:Int)),(18,true,Am v)] [a0.cs,[Am 0,Am 0,.val (.string (⟨#[]⟩:ByteArray)),.list ([]) .full,.list ([]) .full],[Am a0.op,Am a0.int,.val (.string a0.text),.list (p.map Dw) q,.list ([]) .full]] [(6,p.length,q)] (JY rec n a0 m v p=some r)) n ⟨0,([]),.full,([]),Rw,ef hs,ef hs,Owns.of_eq ((w).full 6 0) Dk,h⟩ ?_
  rintro ml7 e st ⟨v,p,q,Xl7,Rl7,rfl,rfl,w,h⟩ Ul7 Vl7
  cases ml7 with
  | zero=>cases h
  | succ ml7 =>
  rw [JY] at h
  exact go (tg (a:=([1,2,3,16,17,18,19],([1,2,3,16,17,18],[1,2,3,5,16,17,18],[5,1,2,3,16,17,18],[1,2,3,16,17,18],()),[1,2,3],()))) h hs C y x u w (q2 (ae Nh HV) (Ju w0 n)) (q2 F (fun e s=>Vl7 ml7 e s (Nat.lt_succ_self _)))
 ·clear h;rintro e st ⟨g,j,Xk4,Rk4,rfl,rfl,w,h⟩
  rw [MZ] at h
  have E:=w.unders
  simp only [List.mem_cons,List.not_mem_nil,or_false,forall_eq_or_imp,forall_eq] at E
  refine td C y x u w ?_
  refine AA (fun e st=>∃ (k:List Vl) (i:List Ex) (l:Ev.Own) (o:Ev.Own),Ck e st B Rw L [(2,true,.box (B.length+1) 0),(3,true,.box (B.length+2) 0)] [a0.cs,[Am 0,Am 0,.val (.string (⟨#[]⟩:ByteArray)),.list ([]) .full,.list ([]) .full],[Am a0.op,Am a0.int,.val (.string a0.text),.list (k.map Dw) l,.list (i.map Qq) o]] [(6,k.length,l),(5,i.length,o)] (LO rec n a0 k i=some r)) ?_ ?_
  ·intro K22 z
   refine rg [2,3,31,32,33] hs ?_
   apply Ar
   refine Az (fun m e st=>∃ (t:Int) (b:List Vl) (c:List Ex) (f:Ev.Own) (d:Ev.Own),Ck e st B Rw L [(2,true,.box (B.length+1) 0),(3,true,.box (B.length+2) 0),(31,true,.list (a0.args.map Qq) .none),(32,true,Am (a0.args.length:Int)),(33,true,Am t)] [a0.cs,[Am 0,Am 0,.val (.string (⟨#[]⟩:ByteArray)),.list ([]) .full,.list ([]) .full],[Am a0.op,Am a0.int,.val (.string a0.text),.list (b.map Dw) f,.list (c.map Qq) d]] [(6,b.length,f),(5,c.length,d)] (IV rec n a0 m t b c=some r)) n ⟨0,g,([]),j,.full,([]),Rk4,ef hs,ef hs,Owns.of_eq (((w).full 5 0).swap (List.Perm.swap _ _ _)) Dk,h⟩ ?_
   rintro ml24 e st ⟨t,b,c,f,d,Xl24,Rl24,rfl,rfl,w,h⟩ Ul24 Vl24
   cases ml24 with
   | zero=>cases h
   | succ ml24 =>
   rw [IV] at h
   have E:=w.unders
   simp only [List.mem_cons,List.not_mem_nil,or_false,forall_eq_or_imp,forall_eq] at E
   obtain ⟨H,G⟩:=E
   refine td C y x u w ?_
   refine rg [2,3,31,32,33,34] hs ?_
   apply An;intro K26 D
   refine BL h hs ?_ ?_<;>intro hs h
   rotate_left
   ·refine sx [2,3] hs z ?_
    exact ⟨b,c,f,d,([]),Rl24,ef hs,ef hs,Owns.of_eq (((w).swap (List.Perm.swap _ _ _)).swap (List.Perm.swap _ _ _)) Dk,h⟩
   exact go (tg (a:=([2,3,31,32,33],[2,3,7,31,32,33],[5,2,3,31,32,33],[2,3,31,32,33],()))) h hs C y x u w (q2 (ae Zby Va) ih) (q2 D (fun e s=>Vl24 ml24 e s (Nat.lt_succ_self _)))
  ·clear h;rintro e st ⟨k,i,l,o,Xk21,Rk21,rfl,rfl,w,h⟩
   rw [LO] at h
   exact go (tg (a:=([2],()))) h hs C y x u w trivial trivial
theorem P4 (w0:World):∀ n:Nat,N4 w0 (Ln n)
 | 0=>fun _ _ _ _ _ h=>(nomatch h)
 | n+1=>Ui w0 (Ln n) (P4 w0 n) n
def Jr (n:Nat)  (b:List (ByteArray × Ex)):Option ((List (ByteArray × Ex))) :=
 some (b)
def HG (n:Nat) (q:List (ByteArray × Ex)):Nat→(List (ByteArray × Ex))→Int→Option ((List (ByteArray × Ex)))
 | 0,_,_=>none
 | m+1,g,b =>
  if decide (b<(q.length:Int)) then
   (BJ q b).bind fun h =>
   (Ln n h.2).bind fun y =>
   if (g.length+1)*96≤140737488355328∧g.length+1≤4611686018427387904 then
    if A9 (b+1) then
     (HG n q m) (g++([(h.1,y)])) (b+1)
    else none
   else none
  else
   Jr n g
def KP (n:Nat) (b:List (ByteArray × Ex)):Option ((List (ByteArray × Ex))) :=
 if 0≤(b.length:Int)∧(b.length:Int)*96≤140737488355328∧(b.length:Int)≤4611686018427387904 then
  HG n b n ([]) 0
 else none
theorem RN (w0:World) (n:Nat) (B:Aq) (Rw:Aw) (L:Av) (a0:List (ByteArray × Ex)) (r:(List (ByteArray × Ex))) (h:KP n a0=some r) :
  ACalls Tryz.prog w0 78 [.agg ([.list (a0.map A7) .none])] ⟨B,Rw,L⟩ fun x st=>x = .agg ([.list (r.map A7) .none])∧st=⟨B,Rw,L⟩:=by
 rw [KP] at h
 refine hd [.cell 2 49] Tryz.func78 Tryz.ntmps78 fun M0 W0 p l k i t j hs=>?_
 simp only [AB]
 refine rg [1,2] hs ?_
 obtain ⟨q,h⟩:=Au h
 have j:=j.make 6 0
 refine rg [1,2,3] hs ?_
 refine AA (fun e st=>∃ (g:List (ByteArray × Ex)) (d:Ev.Own),Ck e st B Rw L [(2,true,.box (B.length+1) 0),(3,true,.list (g.map A7) d)] [[.list (a0.map A7) .none],[.list ([]) .full]] [(6,g.length,d)] (Jr n g=some r)) ?_ ?_
 ·intro K7 o
  refine rg [2,3,11,12,13] hs ?_
  apply Ar
  refine Az (fun m e st=>∃ (b:List (ByteArray × Ex)) (f:Int) (c:Ev.Own),Ck e st B Rw L [(2,true,.box (B.length+1) 0),(3,true,.list (b.map A7) c),(11,true,.list (a0.map A7) .none),(12,true,Am (a0.length:Int)),(13,true,Am f)] [[.list (a0.map A7) .none],[.list ([]) .full]] [(6,b.length,c)] (HG n a0 m b f=some r)) n ⟨([]),0,((.row Rw.length)),([]),((Rw++[.grow 0 6])),ef hs,ef hs,Owns.of_eq (j) Dk,h⟩ ?_
  rintro ml9 e st ⟨b,f,c,Xl9,Rl9,rfl,rfl,j,h⟩ Ul9 Vl9
  cases ml9 with
  | zero=>cases h
  | succ ml9 =>
  rw [HG] at h
  exact go (tg (a:=([2,3,11,12,13,14],([2,3,11,12,13],[2,3,5,11,12,13],[8,2,3,11,12,13],[2,3,11,12,13],()),[2,3],()))) h hs p l k i j (q2 (ae ZaO V5) (P4 w0 n)) (q2 o (fun e s=>Vl9 ml9 e s (Nat.lt_succ_self _)))
 ·clear h;rintro e st ⟨g,d,Xk6,Rk6,rfl,rfl,j,h⟩
  rw [Jr] at h
  exact go (tg (a:=([2],()))) h hs p l k i j trivial trivial
def JH (n:Nat)  (b4_k36_1:List (List Part)) (b6_k36:Bool) (b7_k36_0:List (ByteArray × Ex)):Option ((List (ByteArray × Ex)) × Int) :=
 if !b6_k36 then
  some (([],22))
 else
  (Hj n b7_k36_0).bind fun b =>
  if !(decide (b=0)) then
   some (([],b))
  else
   (KP n b7_k36_0).bind fun g =>
   some ((g,0))
def HF (n:Nat) (z:List (ByteArray × Ex)) (q:List (ByteArray × Ex)) (y:Ty):Nat→Int→(List (List Part))→Bool→(List (ByteArray × Ex))→Option ((List (ByteArray × Ex)) × Int)
 | 0,_,_,_,_=>none
 | m+1,b,b4_l39_1,b6_l39,b7_l39_0 =>
  if decide (b<(q.length:Int)) then
   (BJ q b).bind fun h =>
   (I4 n h.2 (Cps.mk z b4_l39_1 y) b6_l39).bind fun g =>
   if (b7_l39_0.length+1)*96≤140737488355328∧b7_l39_0.length+1≤4611686018427387904 then
    if A9 (b+1) then
     (HF n z q y m) (b+1) b4_l39_1 g.2 (b7_l39_0++([(h.1,g.1)]))
    else none
   else none
  else
   JH n b4_l39_1 b6_l39 b7_l39_0
def JD (n:Nat) (h:List (ByteArray × Ex)) (g:List (ByteArray × Ex)) (b:Ty) (b4_k15_1:List (List Part)):Option ((List (ByteArray × Ex)) × Int) :=
 HF n h g b n 0 b4_k15_1 true ([])
def Hn (n:Nat) (g:List (ByteArray × Ex)) (z:List (ByteArray × Ex)) (y:Ty):Nat→Int→(List (List Part))→Option ((List (ByteArray × Ex)) × Int)
 | 0,_,_=>none
 | m+1,b,b4_l18_1 =>
  if decide (b<(g.length:Int)) then
   (BJ g b).bind fun q =>
   (Df n q.1).bind fun h =>
   if (b4_l18_1.length+1)*24≤140737488355328∧b4_l18_1.length+1≤4611686018427387904 then
    if A9 (b+1) then
     (Hn n g z y m) (b+1) (b4_l18_1++([h.1]))
    else none
   else none
  else
   JD n g z y b4_l18_1
def L9 (n:Nat) (g:List (ByteArray × Ex)) (b:List (ByteArray × Ex)) (h:Ty):Option ((List (ByteArray × Ex)) × Int) :=
 (CS n g).bind fun y4 =>
 (CS n b).bind fun y5 =>
 (EB n h).bind fun z =>
 (Hj n g).bind fun y7 =>
 (Hj n b).bind fun y =>
 (Lt n ([y4,y5,z,y7,y])).bind fun q =>
 if !(decide (q=0)) then
  some (([],q))
 else
  Hn n g b h n 0 ([])
theorem Uc (w0:World) (hB:O7 w0) (hE:JF w0) (hM:Jz w0) (hP:Pow10 w0) (hT:Lib.Utf8Tabs 2 3 w0) (n:Nat) (B:Aq) (Rw:Aw) (L:Av) (a0:List (ByteArray × Ex)) (a1:List (ByteArray × Ex)) (a2:Ty) (r:(List (ByteArray × Ex)) × Int) (h:L9 n a0 a1 a2=some r) :
  ACalls Tryz.prog w0 26 [.agg ([.list (a0.map A7) .none]),.agg ([.list (a1.map A7) .none]),.agg (a2.cs)] ⟨B,Rw,L⟩ fun x st=>x = .tup [.agg ([.list (r.1.map A7) .none]),Am r.2]∧st=⟨B,Rw,L⟩:=by
 rw [L9] at h
 refine hd [.cell 6 49,.tmp 7] Tryz.func26 Tryz.ntmps26 fun M0 W0 hN V Y E hu J hs=>?_
 simp only [AB]
 refine rg [3,4,5,6] hs ?_
 apply An;intro K2 ay
 obtain ⟨y4,bc,h⟩:=bind_some h
 obtain ⟨y5,bf,h⟩:=bind_some h
 obtain ⟨y6,a8,h⟩:=bind_some h
 obtain ⟨y7,a7,h⟩:=bind_some h
 obtain ⟨y8,bb,h⟩:=bind_some h
 obtain ⟨y9,be,h⟩:=bind_some h
 apply An;intro K3 aq
 refine dk 13 7 1 [3,4,5,6,8] hs QQ ?_
 refine Ax _ (Gw w0 hE hM hP n _ _ _ a0 _ bc) (hv hs) ?_
 refine nc hs ?_
 refine Ax _ (Gw w0 hE hM hP n _ _ _ a1 _ bf) (hv hs) ?_
 refine nc hs ?_
 refine Ax _ (KT w0 hT n _ _ _ a2 _ a8) (hv hs) ?_
 refine nc hs ?_
 refine Ax _ (KA w0 hE hM hP hT n _ _ _ a0 _ a7) (hv hs) ?_
 refine nc hs ?_
 refine Ax _ (KA w0 hE hM hP hT n _ _ _ a1 _ bb) (hv hs) ?_
 refine nc hs ?_
 refine Ax _ (P5 w0 n _ _ _ ([y4,y5,y6,y7,y8]) _ be) (hv hs) ?_
 refine dn hs aq ?_
 clear aq
 refine rg [3,4,5,6,8,33] hs ?_
 refine BL h hs ?_ ?_<;>intro hs h
 ·have j:=hs.1
  refine rg [6,7] hs ?_
  exact rt h hs E J
 have j:=hs.1
 refine sk [3,4,5,6] hs ay ?_
 clear ay
 have hs:=Ae (Ty.cs_eqs a2) hs
 refine rg [3,4,6,9] hs ?_
 refine AA (fun e st=>∃ (k:List (List Part)) (v:Ev.Own),Ck e st B Rw L [(4,true,.box (B.length+1) 0),(6,true,.box (B.length+3) 0),(9,true,.box (B.length+5) 0)] [[.list (a0.map A7) .none],[.list (a1.map A7) .none],a2.cs,[.list ([]) .full],[.list (a0.map A7) .none,.list (k.map (CJ AD)) v,Am a2.kind,Am a2.min,Am a2.max,Am a2.scale,.list (a2.words.map BE) .none,.list (a2.elem.map Dj) .none,.list (a2.fields.map CH) .none],[.box (B.length+4) 0]] [(1,k.length,v)] (JD n a0 a1 a2 k=some r)) ?_ ?_
 ·intro K16 ax
  refine rg [4,6,9,42,43,44] hs ?_
  apply Ar
  refine Az (fun m e st=>∃ (N:Int) (p:List (List Part)) (w:Ev.Own),Ck e st B Rw L [(4,true,.box (B.length+1) 0),(6,true,.box (B.length+3) 0),(9,true,.box (B.length+5) 0),(42,true,.list (a0.map A7) .none),(43,true,Am (a0.length:Int)),(44,true,Am N)] [[.list (a0.map A7) .none],[.list (a1.map A7) .none],a2.cs,[.list ([]) .full],[.list (a0.map A7) .none,.list (p.map (CJ AD)) w,Am a2.kind,Am a2.min,Am a2.max,Am a2.scale,.list (a2.words.map BE) .none,.list (a2.elem.map Dj) .none,.list (a2.fields.map CH) .none],[.box (B.length+4) 0]] [(1,p.length,w)] (Hn n a0 a1 a2 m N p=some r)) n ⟨0,([]),.full,([]),Rw,ef hs,ef hs,Owns.of_eq ((J).full 1 0) Dk,h⟩ ?_
  rintro ml18 e st ⟨N,p,w,Xl18,Rl18,rfl,rfl,J,h⟩ Ul18 Vl18
  cases ml18 with
  | zero=>cases h
  | succ ml18 =>
  rw [Hn] at h
  have hU:=J.unders
  simp only [List.mem_cons,List.not_mem_nil,or_false,forall_eq_or_imp,forall_eq] at hU
  refine td hN V Y E J ?_
  refine rg [4,6,9,42,43,44,45] hs ?_
  apply An;intro K20 ah
  refine BL h hs ?_ ?_<;>intro hs h
  rotate_left
  ·have U:=hs.1
   refine sx [4,6,9] hs ax ?_
   exact ⟨p,w,([]),Rl18,ef hs,ef hs,Owns.of_eq (J) Dk,h⟩
  have U:=hs.1
  refine sk [4,6,9,42,43,44] hs ah ?_
  clear ah
  apply An;intro K22 ai
  apply Ar
  obtain ⟨ak,a3,h⟩:=bind_some h
  obtain ⟨bd,a6,ap⟩:=AY a3
  have O:=AO (f:=A7) ap
  have hs:=Ae O hs
  refine rg [4,6,9,11,42,43,44] hs ?_
  obtain ⟨bk,au,h⟩:=bind_some h
  refine rc 2 [4,6,9,12,42,43,44] hs ?_;intro K25 ad
  refine Ax _ (F7 w0 hE hM hP n _ _ _ ak.1 _ au) (hv hs) ?_
  refine ne hs ad ?_
  clear ad
  obtain ⟨ae,h⟩:=Au h
  obtain ⟨bj,a5,J,u⟩:=J.append (P:=Tryz.prog) SA (by rw [LA];rfl) (by decide) 1 ae.1 ae.2
  replace u:=fun (ys:List AV) B L o2=>u (p.map (CJ AD)) ys B L o2 Dk
  replace u:=fun (y:AV) B L o2=>u [y] B L o2 Dk ev
  try simp only [List.mem_singleton,List.mem_cons,List.not_mem_nil,or_false,forall_eq_or_imp,forall_eq,List.map_append,List.map_cons,List.map_nil,Fb,Ft,Fp,Ec,Ed,Fj,CG,Dp,Fq,BX,BW,Du,Dv,Dq,E8,Dt,Fa] at u
  apply ZX QQ [7,10] [4] [4,6,9,42,43,44] kr (fun s=>∃ (X:Aq) (rows:Aw) (c4:List AV),s=⟨B++([[.list (a0.map A7) .none],[.list (a1.map A7) .none],[Am a2.kind,Am a2.min,Am a2.max,Am a2.scale,.list (a2.words.map BE) .none,.list (a2.elem.map Dj) .none,.list (a2.fields.map CH) .none],[.list ([]) .full],c4,[.box (B.length+4) 0],.val (.string ak.1)::(ak.2.cs)]++X),rows,L⟩) 3 (B.length+7)
  ·simp +decide only [go_sem,Nat.reduceAdd]
  ·refine ⟨1,?_⟩
   rw [Ao];simp +decide only [go_sem,Nat.reduceAdd,Eg,j,Ty.cs_eqs a2,U,O,u]
   (repeat' apply Ae)<;>first | rfl | exact cl
  ·rintro s ⟨X,rows,c4,rfl⟩
   refine ⟨1,?_⟩
   rw [Ao];simp +decide only [go_sem,Nat.reduceAdd,Eg,List.append_eq,List.cons_append,List.nil_append,j,Ty.cs_eqs a2,U,O,u]
   have hs:=Ae u hs
   (repeat' apply Ae)<;>first | rfl | ((repeat (first | exact .nil | refine .cons (ef hs) ?_));done) | exact cl
  ·exact gd (tg (a:=(7,10,[4,6,9,42,43,44]))) (Ae u (Ae O (Ae (Ty.cs_eqs a2) hs)))
  simp +decide only [go_sem,Nat.reduceAdd,j,Ty.cs_eqs a2,U,O,u]
  (repeat' apply Ae)<;>first | refine ai _ _ ?_ | exact cl
  clear ai
  exact go (tg (a:=([4,6,9,42,43,44],()))) h (Ae u hs) hN V Y E J trivial (q1 (fun e s=>Vl18 ml18 e s (Nat.lt_succ_self _)))
 ·clear h;rintro e st ⟨k,v,Xk15,Rk15,rfl,rfl,J,h⟩
  rw [JD] at h
  have hU:=J.unders
  simp only [List.mem_cons,List.not_mem_nil,or_false,forall_eq_or_imp,forall_eq] at hU
  refine td hN V Y E J ?_
  refine rg [4,6,9,14] hs ?_
  refine rg [4,6,14,15] hs ?_
  refine rg [4,6,14,15,16] hs ?_
  refine AA (fun e st=>∃ (F:List (List Part)) (K:Bool) (q:List (ByteArray × Ex)) (G:AV) (z:Ev.Own),Ck e st B Rw L [(6,true,.box (B.length+3) 0),(14,true,.box (B.length+6) 0),(16,true,.box (B.length+7) 0)] [[.list (a0.map A7) .none],[.list (a1.map A7) .none],a2.cs,[.list ([]) .full],[.list (a0.map A7) .none,G,Am a2.kind,Am a2.min,Am a2.max,Am a2.scale,.list (a2.words.map BE) .none,.list (a2.elem.map Dj) .none,.list (a2.fields.map CH) .none],[.box (B.length+4) 0],[.val (.bool K)],[.list (q.map A7) z]] [(6,q.length,z)] (G.pub = .list (F.map (CJ AD)) .none∧JH n F K q=some r)) ?_ ?_
  ·intro K37 ar
   refine rg [6,14,15,16,67,68,69] hs ?_
   apply Ar
   refine Az (fun m e st=>∃ (D:Int) (d:List (List Part)) (C:Bool) (g:List (ByteArray × Ex)) (H:AV) (t:Ev.Own),Ck e st B Rw L [(6,true,.box (B.length+3) 0),(14,true,.box (B.length+6) 0),(15,true,.clo 75 [.box (B.length+5) 0,.box (B.length+6) 0]),(16,true,.box (B.length+7) 0),(67,true,.list (a1.map A7) .none),(68,true,Am (a1.length:Int)),(69,true,Am D)] [[.list (a0.map A7) .none],[.list (a1.map A7) .none],a2.cs,[.list ([]) .full],[.list (a0.map A7) .none,H,Am a2.kind,Am a2.min,Am a2.max,Am a2.scale,.list (a2.words.map BE) .none,.list (a2.elem.map Dj) .none,.list (a2.fields.map CH) .none],[.box (B.length+4) 0],[.val (.bool C)],[.list (g.map A7) t]] [(6,g.length,t)] (H.pub = .list (d.map (CJ AD)) .none∧HF n a0 a1 a2 m D d C g=some r)) n ⟨0,k,true,([]),(.list (k.map (CJ AD)) v),.full,([]),Rk15,ef hs,ef hs,Owns.of_eq (((J).full 6 0).sub (List.sublist_append_left [(6,0,Own.full)] [(1,k.length,v)])) Dk,ef hs,h⟩ ?_
   rintro ml39 e st ⟨D,d,C,g,H,t,Xl39,Rl39,rfl,rfl,J,am,h⟩ Ul39 Vl39
   cases ml39 with
   | zero=>cases h
   | succ ml39 =>
   rw [HF] at h
   refine HE (B.length+4) 1 (by first | rfl | (simp only [E3,Dx,Eu,C7];rfl)) rfl am ?_;simp +decide only [go_sem,Nat.reduceAdd]
   show Eb _ _ _ _ _ _ _ _ [(6,true,.box (B.length+3) 0),(14,true,.box (B.length+6) 0),(15,true,.clo 75 [.box (B.length+5) 0,.box (B.length+6) 0]),(16,true,.box (B.length+7) 0),(67,true,.list (a1.map A7) .none),(68,true,Am (a1.length:Int)),(69,true,Am D)] ⟨B++([[.list (a0.map A7) .none],[.list (a1.map A7) .none],a2.cs,[.list ([]) .full],[.list (a0.map A7) .none,.list (d.map (CJ AD)) .none,Am a2.kind,Am a2.min,Am a2.max,Am a2.scale,.list (a2.words.map BE) .none,.list (a2.elem.map Dj) .none,.list (a2.fields.map CH) .none],[.box (B.length+4) 0],[.val (.bool C)],[.list (g.map A7) t]]++Xl39),Rl39,L⟩
   have hU:=J.unders
   simp only [List.mem_cons,List.not_mem_nil,or_false,forall_eq_or_imp,forall_eq] at hU
   refine td hN V Y E J ?_
   refine rg [6,14,15,16,67,68,69,70] hs ?_
   apply An;intro K41 aj
   refine BL h hs ?_ ?_<;>intro hs h
   rotate_left
   ·have l:=hs.1
    refine sx [6,14,16] hs ar ?_
    exact ⟨d,C,g,(.list (d.map (CJ AD)) .none),t,([]),Rl39,ef hs,ef hs,Owns.of_eq (J) Dk,ef hs,h⟩
   have l:=hs.1
   refine sk [6,14,15,16,67,68,69] hs aj ?_
   clear aj
   apply An;intro K43 ab
   apply Ar
   obtain ⟨Q,aw,h⟩:=bind_some h
   obtain ⟨ba,bg,ao⟩:=AY aw
   have c:=AO (f:=A7) ao
   have hs:=Ae c hs
   refine rg [6,14,15,16,18,67,68,69] hs ?_
   obtain ⟨o,ag,h⟩:=bind_some h
   obtain ⟨af,h⟩:=Au h
   obtain ⟨a9,Z,J,b⟩:=J.append (P:=Tryz.prog) ZaO (by rw [V5];rfl) (by decide) 1 af.1 af.2
   replace b:=fun (ys:List AV) B L o2=>b (g.map A7) ys B L o2 Dk
   replace b:=fun (y:AV) B L o2=>b [y] B L o2 Dk ev
   try simp only [List.mem_singleton,List.mem_cons,List.not_mem_nil,or_false,forall_eq_or_imp,forall_eq,List.map_append,List.map_cons,List.map_nil,Fb,Ft,Fp,Ec,Ed,Fj,CG,Dp,Fq,BX,BW,Du,Dv,Dq,E8,Dt,Fa] at b
   apply Lp QQ [1,7,8,9,10,12] [6,14,15,16,67,68,69] kr (fun s=>∃ (X:Aq) (rows:Aw) (c6:List AV) (c7:List AV),s=⟨B++([[.list (a0.map A7) .none],[.list (a1.map A7) .none],[Am a2.kind,Am a2.min,Am a2.max,Am a2.scale,.list (a2.words.map BE) .none,.list (a2.elem.map Dj) .none,.list (a2.fields.map CH) .none],[.list ([]) .full],[.list (a0.map A7) .none,.list (d.map (CJ AD)) .none,Am a2.kind,Am a2.min,Am a2.max,Am a2.scale,.list (a2.words.map BE) .none,.list (a2.elem.map Dj) .none,.list (a2.fields.map CH) .none],[.box (B.length+4) 0],c6,c7,.val (.string Q.1)::(Q.2.cs)]++X),rows,L⟩) 7 (B.length+9)
   ·simp +decide only [go_sem,Nat.reduceAdd]
   ·rintro s ⟨X,rows,c6,c7,rfl⟩
    refine ⟨1,?_⟩
    rw [Ao];simp +decide only [go_sem,Nat.reduceAdd,Eg,j,Ty.cs_eqs a2,l,c,Ex.cs_eqs o.1,b]
    (repeat' apply Ae)<;>first | rfl | exact cl
   ·refine Good.mk [1,7] kr ⟨[],_,_,_,by first | rfl | simp only [List.append_nil,List.nil_append]⟩ ?_ ?_
    ·intro h;exact absurd h (by decide)
    ·intro i hi;simp only [List.mem_cons,List.not_mem_nil,or_false] at hi
     rcases hi with rfl | rfl
     ·apply ET rfl rfl ev
      ·simp +decide only [go_sem,Nat.reduceAdd,F9,j,Ty.cs_eqs a2,l,c,Ex.cs_eqs o.1,b]
       (repeat' apply Ae)<;>first | rfl | exact cl
      ·simp +decide only [go_sem,Nat.reduceAdd,j,Ty.cs_eqs a2,l,c,Ex.cs_eqs o.1,b]
       refine Good.mk [7] kr ⟨[],_,_,_,by first | rfl | simp only [List.append_nil,List.nil_append]⟩ ?_ ?_
       ·intro h;exact absurd h (by decide)
       ·intro i hi;simp only [List.mem_cons,List.not_mem_nil,or_false] at hi
        subst hi
        ·apply ET rfl rfl ev
         ·simp +decide only [go_sem,Nat.reduceAdd,F9,j,Ty.cs_eqs a2,l,c,Ex.cs_eqs o.1,b]
          have hs:=Ae (Ex.cs_eqs o.1) hs
          have hs:=Ae b hs
          (repeat' with_reducible apply Ae)<;>first | exact RP (KF w0 hB hE hM hP n _ _ _ Q.2 (B.length+5) (B.length+4) (Cps.mk a0 d a2) (ef hs) (ef hs) (B.length+6) C (ef hs) nq nq _ ag) (hv hs) | rfl | exact cl
         ·simp +decide only [go_sem,Nat.reduceAdd,j,Ty.cs_eqs a2,l,c,Ex.cs_eqs o.1,b]
          exact gd (tg (a:=(8,9,10,12,[6,14,15,16,67,68,69]))) (Ae b (Ae (Ex.cs_eqs o.1) (Ae c (Ae (Ty.cs_eqs a2) hs))))
     ·apply ET rfl rfl ev
      ·simp +decide only [go_sem,Nat.reduceAdd,F9,j,Ty.cs_eqs a2,l,c,Ex.cs_eqs o.1,b]
       have hs:=Ae (Ex.cs_eqs o.1) hs
       have hs:=Ae b hs
       (repeat' with_reducible apply Ae)<;>first | exact RP (KF w0 hB hE hM hP n _ _ _ Q.2 (B.length+5) (B.length+4) (Cps.mk a0 d a2) (ef hs) (ef hs) (B.length+6) C (ef hs) nq nq _ ag) (hv hs) | rfl | exact cl
      ·simp +decide only [go_sem,Nat.reduceAdd,j,Ty.cs_eqs a2,l,c,Ex.cs_eqs o.1,b]
       refine Good.mk [1,8] kr ⟨[],_,_,_,by first | rfl | simp only [List.append_nil,List.nil_append]⟩ ?_ ?_
       ·intro h;exact absurd h (by decide)
       ·intro i hi;simp only [List.mem_cons,List.not_mem_nil,or_false] at hi
        rcases hi with rfl | rfl
        ·apply ET rfl rfl ev
         ·simp +decide only [go_sem,Nat.reduceAdd,F9,j,Ty.cs_eqs a2,l,c,Ex.cs_eqs o.1,b]
          (repeat' apply Ae)<;>first | rfl | exact cl
         ·simp +decide only [go_sem,Nat.reduceAdd,j,Ty.cs_eqs a2,l,c,Ex.cs_eqs o.1,b]
          exact gd (tg (a:=(8,9,10,12,[6,14,15,16,67,68,69]))) (Ae b (Ae (Ex.cs_eqs o.1) (Ae c (Ae (Ty.cs_eqs a2) hs))))
        ·apply ET rfl rfl ev
         ·simp +decide only [go_sem,Nat.reduceAdd,F9,j,Ty.cs_eqs a2,l,c,Ex.cs_eqs o.1,b]
          (repeat' apply Ae)<;>first | rfl | exact cl
         ·simp +decide only [go_sem,Nat.reduceAdd,j,Ty.cs_eqs a2,l,c,Ex.cs_eqs o.1,b]
          refine Good.mk [1,9] kr ⟨[],_,_,_,by first | rfl | simp only [List.append_nil,List.nil_append]⟩ ?_ ?_
          ·intro h;exact absurd h (by decide)
          ·intro i hi;simp only [List.mem_cons,List.not_mem_nil,or_false] at hi
           rcases hi with rfl | rfl
           ·apply ET rfl rfl ev
            ·simp +decide only [go_sem,Nat.reduceAdd,F9,j,Ty.cs_eqs a2,l,c,Ex.cs_eqs o.1,b]
             (repeat' apply Ae)<;>first | rfl | exact cl
            ·simp +decide only [go_sem,Nat.reduceAdd,j,Ty.cs_eqs a2,l,c,Ex.cs_eqs o.1,b]
             exact gd (tg (a:=(9,10,12,[6,14,15,16,67,68,69]))) (Ae b (Ae (Ex.cs_eqs o.1) (Ae c (Ae (Ty.cs_eqs a2) hs))))
           ·apply ET rfl rfl ev
            ·simp +decide only [go_sem,Nat.reduceAdd,F9,j,Ty.cs_eqs a2,l,c,Ex.cs_eqs o.1,b]
             (repeat' apply Ae)<;>first | rfl | exact cl
            ·simp +decide only [go_sem,Nat.reduceAdd,j,Ty.cs_eqs a2,l,c,Ex.cs_eqs o.1,b]
             exact gd (tg (a:=(1,10,12,[6,14,15,16,67,68,69]))) (Ae b (Ae (Ex.cs_eqs o.1) (Ae c (Ae (Ty.cs_eqs a2) hs))))
   simp +decide only [go_sem,Nat.reduceAdd,j,Ty.cs_eqs a2,l,c,Ex.cs_eqs o.1,b]
   (repeat' apply Ae)<;>first | refine ab _ _ ?_ | exact cl
   clear ab
   obtain ⟨bh,h⟩:=Au h
   have hs:=Ae (Ex.cs_eqs o.1) hs
   have hs:=Ae b hs
   refine rl [6,14,15,16,67,68,69] hs (fun e s=>Vl39 ml39 e s (Nat.lt_succ_self _)) ?_
   exact ⟨(D+1),d,o.2,(g++([(Q.1,o.1)])),(.list (d.map (CJ AD)) .none),a9,([.val (.string Q.1)::(Q.2.cs)]),Z,ef hs,ef hs,Owns.of_eq (J) Dk,ef hs,h⟩
  ·clear h;rintro e st ⟨F,K,q,G,z,Xk36,Rk36,rfl,rfl,J,am,h⟩
   rw [JH] at h
   refine HE (B.length+4) 1 (by first | rfl | (simp only [E3,Dx,Eu,C7];rfl)) rfl am ?_;simp +decide only [go_sem,Nat.reduceAdd]
   show Eb _ _ _ _ _ _ _ _ [(6,true,.box (B.length+3) 0),(14,true,.box (B.length+6) 0),(16,true,.box (B.length+7) 0)] ⟨B++([[.list (a0.map A7) .none],[.list (a1.map A7) .none],a2.cs,[.list ([]) .full],[.list (a0.map A7) .none,.list (F.map (CJ AD)) .none,Am a2.kind,Am a2.min,Am a2.max,Am a2.scale,.list (a2.words.map BE) .none,.list (a2.elem.map Dj) .none,.list (a2.fields.map CH) .none],[.box (B.length+4) 0],[.val (.bool K)],[.list (q.map A7) z]]++Xk36),Rk36,L⟩
   have hU:=J.unders
   simp only [List.mem_cons,List.not_mem_nil,or_false,forall_eq_or_imp,forall_eq] at hU
   refine td hN V Y E J ?_
   apply An;intro K52 aa
   refine rg [6,16,87] hs ?_
   refine BL h hs ?_ ?_<;>intro hs h
   ·refine rg [6,7] hs ?_
    exact rt h hs E J
   refine sk [6,16] hs aa ?_
   clear aa
   apply An;intro K56 a4
   obtain ⟨bi,av,h⟩:=bind_some h
   refine rc 2 [6,16,19] hs ?_;intro K57 az
   refine Ax _ (KA w0 hE hM hP hT n _ _ _ q _ av) (hv hs) ?_
   exact go (tg (a:=([6,16,19,92],([6,7],()),[6,16],[6,7],()))) h hs hN V Y E J (q1 (RN w0 n)) (q2 az a4)
def O9 (n:Nat) (q:List (ByteArray × Ex)) (h:Ty) (g:ByteArray):Option ((List ByteArray) × Int) :=
 (Nc n q h g).bind fun b =>
 some ((b.2.1,b.2.2))
theorem Zd (w0:World) (hE:JF w0) (hM:Jz w0) (hP:Pow10 w0) (hT:Lib.Utf8Tabs 2 3 w0) (n:Nat) (B:Aq) (Rw:Aw) (L:Av) (a0:List (ByteArray × Ex)) (a1:Ty) (a2:ByteArray) (r:(List ByteArray) × Int) (h:O9 n a0 a1 a2=some r) :
  ACalls Tryz.prog w0 21 [.agg ([.list (a0.map A7) .none]),.agg (a1.cs),.val (.string a2)] ⟨B,Rw,L⟩ fun x st=>x = .tup [.list (r.1.map BE) .none,Am r.2]∧st=⟨B,Rw,L⟩:=by
 rw [O9] at h
 refine hd [.tmp 6,.tmp 7] Tryz.func21 Tryz.ntmps21 fun M0 W0 g f e a i d hs=>?_
 simp only [AB]
 refine rg [2,3,4] hs ?_
 obtain ⟨j,c,h⟩:=bind_some h
 refine rc 2 [9,10] hs ?_;intro K2 b
 refine Ax _ (Vv w0 hE hM hP hT n _ _ _ a0 a1 a2 _ c) (hv hs) ?_
 refine ne hs b ?_
 clear b
 refine rg [6,7] hs ?_
 exact rt h hs a d
def J3 (n:Nat)  : Option Bool :=
 (L1 n ([(⟨#[105,100]⟩:ByteArray),(⟨#[97,109,111,117,110,116]⟩:ByteArray)]) (Ty.mk 2 0 99 0 ([]) ([]) ([]))).bind fun g =>
 (JU n ([(⟨#[115,107,117]⟩:ByteArray),(⟨#[113,116,121]⟩:ByteArray)]) (Ty.mk 2 0 99 0 ([]) ([]) ([]))).bind fun y =>
 if (g.fields.length+1)*160≤140737488355328∧g.fields.length+1≤4611686018427387904 then
  (O9 n ([BZ ((⟨#[105,100]⟩:ByteArray)) (BU ((⟨#[98,111,100,121,46,105,100]⟩:ByteArray))),BZ ((⟨#[116,111,116,97,108]⟩:ByteArray)) (Ex.mk 26 0 ((⟨#[98,111,100,121,46,105,116,101,109,115,91,42,93,46,113,116,121]⟩:ByteArray)) ([]) ([]))]) (Ty.mk g.kind g.min g.max g.scale g.words g.elem (g.fields++[(3,(⟨#[105,116,101,109,115]⟩:ByteArray),1,Ty.mk 8 0 9 0 ([]) ([y]) ([]),[])])) ((⟨#[98,111,100,121]⟩:ByteArray))).bind fun b =>
  if (!(decide (b.2=0)))||(!(decide ((b.1.length:Int)=2))) then
   some (false)
  else
   (BJ b.1 0).bind fun x24 =>
   if !(Fv x24 ((⟨#[97,109,111,117,110,116]⟩:ByteArray))) then
    some (false)
   else
    (BJ b.1 1).bind fun x28 =>
    if !(Fv x28 ((⟨#[105,116,101,109,115,91,42,93,46,115,107,117]⟩:ByteArray))) then
     some (false)
    else
     (JU n ([(⟨#[110]⟩:ByteArray)]) (Ty.mk 2 0 99 0 ([]) ([]) ([]))).bind fun y34 =>
     (L9 n ([BZ ((⟨#[110]⟩:ByteArray)) (Ex.mk 12 0 (⟨#[]⟩:ByteArray) ([]) ([BU ((⟨#[98,111,100,121,46,97]⟩:ByteArray)),BU ((⟨#[98,111,100,121,46,98]⟩:ByteArray))]))]) ([BZ ((⟨#[116,119,105,99,101]⟩:ByteArray)) (Ex.mk 14 0 (⟨#[]⟩:ByteArray) ([]) ([BU ((⟨#[98,111,100,121,46,110]⟩:ByteArray)),Ex.mk 1 0 (⟨#[]⟩:ByteArray) ([Vl.mk 2 2 0 (⟨#[]⟩:ByteArray) ([]) ([])]) ([])]))]) y34).bind fun h =>
     if (decide (h.2=0))&&(decide ((h.1.length:Int)=1)) then
      (BJ h.1 0).bind fun q =>
      if Fv q.1 ((⟨#[116,119,105,99,101]⟩:ByteArray)) then
       if decide ((q.2.args.length:Int)=2) then
        (BJ q.2.args 0).bind fun z =>
        some (decide (z.op=12))
       else
        some (false)
      else
       some (false)
     else
      some (false)
 else none
theorem QV (w0:World) (hB:O7 w0) (hE:JF w0) (hM:Jz w0) (hP:Pow10 w0) (hT:Lib.Utf8Tabs 2 3 w0) (n:Nat) (B:Aq) (Rw:Aw) (L:Av)  (r:Bool) (h:J3 n  = some r) :
  ACalls Tryz.prog w0 24 [] ⟨B,Rw,L⟩ fun x st=>x = .val (.bool r)∧st=⟨B,Rw,L⟩:=by
 rw [J3] at h
 refine hd [.tmp 0] Tryz.func24 Tryz.ntmps24 fun M0 W0 hN a1 a0 j hu t hs=>?_
 simp only [AB]
 apply An;intro K1 ae
 apply Ap 1 []
 rw [Ao];simp +decide only [go_sem,Nat.reduceAdd,Vl.cs_mks,Ty.cs_mks,List.map_nil]
 (repeat' apply Ae)<;>first | refine ae _ _ ?_ | exact cl
 clear ae
 apply An;intro K2 Y
 apply Ap 1 [1]
 rw [Ao];simp +decide only [go_sem,Nat.reduceAdd,Vl.cs_mks,Ty.cs_mks,List.map_nil]
 (repeat' apply Ae)<;>first | refine Y _ _ ?_ | exact cl
 clear Y
 apply An;intro K3 Z
 apply Ap 1 [2]
 rw [Ao];simp +decide only [go_sem,Nat.reduceAdd,Vl.cs_mks,Ty.cs_mks,List.map_nil]
 (repeat' apply Ae)<;>first | refine Z _ _ ?_ | exact cl
 clear Z
 apply An;intro K4 af
 refine HE B.length 4 (by first | rfl | (simp only [E3,Dx,Eu,C7];rfl)) rfl rfl ?_;simp +decide only [go_sem,Nat.reduceAdd]
 refine HE B.length 5 (by first | rfl | (simp only [E3,Dx,Eu,C7];rfl)) rfl rfl ?_;simp +decide only [go_sem,Nat.reduceAdd]
 refine HE B.length 6 (by first | rfl | (simp only [E3,Dx,Eu,C7];rfl)) rfl rfl ?_;simp +decide only [go_sem,Nat.reduceAdd]
 obtain ⟨v,ao,h⟩:=bind_some h
 apply Ap 2 [2,3]
 rw [Ao];simp +decide only [go_sem,Nat.reduceAdd,Vl.cs_mks,Ty.cs_mks,List.map_nil]
 (repeat' apply Ae)<;>first | (refine DL _ (Uf w0 n _ _ _ ([(⟨#[105,100]⟩:ByteArray),(⟨#[97,109,111,117,110,116]⟩:ByteArray)]) B.length (Ty.mk 2 0 99 0 ([]) ([]) ([])) (by simp +decide only [go_sem,Nat.reduceAdd,Vl.cs_mks,Ty.cs_mks,List.map_nil]) _ ao) (by first | rfl | (simp +decide only [go_sem,Nat.reduceAdd,Vl.cs_mks,Ty.cs_mks,List.map_nil];done) | (simp +decide only [go_sem,Nat.reduceAdd,Vl.cs,Ty.cs,Vl.cs_mks,Ty.cs_mks,List.map_nil];done)) ?_;rintro _ _ ⟨o7,Rv8,rfl,rfl,O⟩) | exact cl
 have t:=t.callV O
 rw [Ao];simp +decide only [go_sem,Nat.reduceAdd,Vl.cs_mks,Ty.cs_mks,List.map_nil]
 (repeat' apply Ae)<;>first | refine af _ _ ?_ | exact cl
 clear af
 apply An;intro K9 ab
 obtain ⟨w,aa,h⟩:=bind_some h
 obtain ⟨F,h⟩:=Au h
 obtain ⟨az,ah,t,a⟩:=t.appendV (P:=Tryz.prog) (n:=v.fields.length) (m:=1) VM (by rw [OQ];rfl) (by decide) ((Gt (f:=CH) (sz:=11) (fun _=>by simp +decide only [go_sem]) _)) F.1 F.2 [CH ((3,(⟨#[105,116,101,109,115]⟩:ByteArray),1,Ty.mk 8 0 9 0 ([]) ([w]) ([]),[]))] rfl ((v.fields++[(3,(⟨#[105,116,101,109,115]⟩:ByteArray),1,Ty.mk 8 0 9 0 ([]) ([w]) ([]),[])]).flatMap fun x=>(CH x).cells) (by simp only [List.flatMap_append,List.flatMap_cons,List.flatMap_nil,List.append_nil,List.nil_append,Xk])
 simp only [List.mem_singleton,forall_eq,Fb,Ft,Fp,Ec,Ed,Fj,CG,Dp,Fq,BX,BW,Du,Dv,Dq,E8,Dt,Fa,Ty.cs_mks,List.cons_append,List.nil_append,List.map_nil,List.map_cons] at a
 apply V4 QQ 9 2 1 [2,3] kr
 rw [Ao];simp +decide only [go_sem,Nat.reduceAdd,Vl.cs_mks,Ty.cs_mks,List.map_nil,a]
 (repeat' apply Ae)<;>first | refine Ax _ (O2 w0 n _ _ _ ([(⟨#[115,107,117]⟩:ByteArray),(⟨#[113,116,121]⟩:ByteArray)]) B.length (Ty.mk 2 0 99 0 ([]) ([]) ([])) (by simp +decide only [go_sem,Nat.reduceAdd,Vl.cs_mks,Ty.cs_mks,List.map_nil]) _ aa) (by first | rfl | (simp +decide only [go_sem,Nat.reduceAdd,Vl.cs_mks,Ty.cs_mks,List.map_nil,a];done) | (simp +decide only [go_sem,Nat.reduceAdd,Vl.cs,Ty.cs,Vl.cs_mks,Ty.cs_mks,List.map_nil,a];done)) ?_ | exact cl
 rw [Ao];simp +decide only [go_sem,Nat.reduceAdd,Vl.cs_mks,Ty.cs_mks,List.map_nil,a]
 (repeat' with_reducible apply Ae)<;>first | (rw [Ao];simp +decide only [go_sem,Nat.reduceAdd,Vl.cs_mks,Ty.cs_mks,List.map_nil,a]) | exact cl
 (repeat' apply Ae)<;>first | refine ab _ _ ?_ | exact cl
 clear ab
 apply An;intro K15 D
 apply Ap 4 [2,3,4]
 rw [Ao];simp +decide only [go_sem,Nat.reduceAdd,Vl.cs_mks,Ty.cs_mks,List.map_nil,a]
 (repeat' apply Ae)<;>first | refine Ax _ (MH w0 _ _ _ ((⟨#[98,111,100,121,46,105,100]⟩:ByteArray))) (by first | rfl | (simp +decide only [go_sem,Nat.reduceAdd,Vl.cs_mks,Ty.cs_mks,List.map_nil,a];done) | (simp +decide only [go_sem,Nat.reduceAdd,Vl.cs,Ty.cs,Vl.cs_mks,Ty.cs_mks,List.map_nil,a];done)) ?_ | exact cl
 rw [Ao];simp +decide only [go_sem,Nat.reduceAdd,Vl.cs_mks,Ty.cs_mks,List.map_nil,a]
 (repeat' apply Ae)<;>first | refine Ax _ (Lo w0 _ _ _ ((⟨#[105,100]⟩:ByteArray)) (BU ((⟨#[98,111,100,121,46,105,100]⟩:ByteArray)))) (by first | rfl | (simp +decide only [go_sem,Nat.reduceAdd,Vl.cs_mks,Ty.cs_mks,List.map_nil,a];done) | (simp +decide only [go_sem,Nat.reduceAdd,Vl.cs,Ty.cs,Vl.cs_mks,Ty.cs_mks,List.map_nil,a];done)) ?_ | exact cl
 rw [Ao];simp +decide only [go_sem,Nat.reduceAdd,Vl.cs_mks,Ty.cs_mks,List.map_nil,a]
 (repeat' apply Ae)<;>first | refine Ax _ (Lo w0 _ _ _ ((⟨#[116,111,116,97,108]⟩:ByteArray)) (Ex.mk 26 0 ((⟨#[98,111,100,121,46,105,116,101,109,115,91,42,93,46,113,116,121]⟩:ByteArray)) ([]) ([]))) (by first | rfl | (simp +decide only [go_sem,Nat.reduceAdd,Vl.cs_mks,Ty.cs_mks,List.map_nil,a];done) | (simp +decide only [go_sem,Nat.reduceAdd,Vl.cs,Ty.cs,Vl.cs_mks,Ty.cs_mks,List.map_nil,a];done)) ?_ | exact cl
 rw [Ao];simp +decide only [go_sem,Nat.reduceAdd,Vl.cs_mks,Ty.cs_mks,List.map_nil,a]
 (repeat' apply Ae)<;>first | refine D _ _ ?_ | exact cl
 clear D
 apply An;intro K16 K
 refine TJ (B.length+1) 6 (by first | rfl | (simp only [E3,Dx];rfl) | (simp +decide only [go_sem,Nat.reduceAdd,Vl.cs_mks,Ty.cs_mks,List.map_nil,a])) (by first | rfl | (simp only [PS,List.length_set];rfl) | (simp only [List.length_append,List.length_cons,List.length_nil,Nat.zero_add];rfl)) t true (.inl rfl) (by decide) ((Gt (f:=CH) (sz:=11) (fun _=>by simp +decide only [go_sem]) _)) (Zh5 (f:=CH) 11 (fun _=>rfl) (fun _=>by simp +decide only [go_sem]) _) (fun ai t=>?_)
 simp +decide only [go_sem,Nat.reduceAdd,List.set_cons_zero,List.set_cons_succ]
 obtain ⟨y,V,h⟩:=bind_some h
 apply Ap 2 [2,5,6]
 rw [Ao];simp +decide only [go_sem,Nat.reduceAdd,Vl.cs_mks,Ty.cs_mks,List.map_nil,a]
 (repeat' apply Ae)<;>first | refine Ax _ (Zd w0 hE hM hP hT n _ _ _ ([BZ ((⟨#[105,100]⟩:ByteArray)) (BU ((⟨#[98,111,100,121,46,105,100]⟩:ByteArray))),BZ ((⟨#[116,111,116,97,108]⟩:ByteArray)) (Ex.mk 26 0 ((⟨#[98,111,100,121,46,105,116,101,109,115,91,42,93,46,113,116,121]⟩:ByteArray)) ([]) ([]))]) (Ty.mk v.kind v.min v.max v.scale v.words v.elem (v.fields++[(3,(⟨#[105,116,101,109,115]⟩:ByteArray),1,Ty.mk 8 0 9 0 ([]) ([w]) ([]),[])])) ((⟨#[98,111,100,121]⟩:ByteArray)) _ V) (by first | rfl | (simp +decide only [go_sem,Nat.reduceAdd,Vl.cs_mks,Ty.cs_mks,List.map_nil,a];done) | (simp +decide only [go_sem,Nat.reduceAdd,Vl.cs,Ty.cs,Vl.cs_mks,Ty.cs_mks,List.map_nil,a];done)) ?_ | exact cl
 rw [Ao];simp +decide only [go_sem,Nat.reduceAdd,Vl.cs_mks,Ty.cs_mks,List.map_nil,a]
 (repeat' apply Ae)<;>first | refine K _ _ ?_ | exact cl
 clear K
 apply An;intro K19 C
 apply An;intro K20 q
 rcases Bool.eq_false_or_eq_true ((!(decide (y.2=0)))||(!(decide ((y.1.length:Int)=2)))) with hf21 | hf21
 ·replace h:=Be h hf21
  apply Ap 1 [2,57]
  rw [Ao];simp +decide only [go_sem,Nat.reduceAdd,Vl.cs_mks,Ty.cs_mks,List.map_nil,a,hf21]
  (repeat' apply Ae)<;>first | refine q _ _ ?_ | exact cl
  clear q
  refine AN true ev (by simp +decide only [go_sem,Nat.reduceAdd,Vl.cs_mks,Ty.cs_mks,List.map_nil,a,hf21]) (fun hb22=>?_) (fun hb22=>by cases hb22)
  apply An;intro K23 H
  apply Ap 1 [0]
  rw [Ao];simp +decide only [go_sem,Nat.reduceAdd,Vl.cs_mks,Ty.cs_mks,List.map_nil,a,hf21]
  (repeat' apply Ae)<;>first | refine H _ _ ?_ | exact cl
  clear H
  apply AM;simp +decide only [go_sem,Nat.reduceAdd,Vl.cs_mks,Ty.cs_mks,List.map_nil,a,hf21]
  have hgt:=Option.some.inj h;subst hgt
  first | refine Dy j rfl t.pre ev ⟨?_,rfl⟩ | refine FD j rfl t.pre ev ⟨?_,rfl⟩
  first | rfl | (simp +decide only [go_sem,Nat.reduceAdd,Vl.cs_mks,Ty.cs_mks,List.map_nil,a,hf21];done) | (simp +decide only [go_sem,Nat.reduceAdd,Vl.cs,Ty.cs,Vl.cs_mks,Ty.cs_mks,List.map_nil,a,hf21];done)
 ·replace h:=Bh h hf21
  obtain ⟨ar,ap,aj,b,h⟩:=ix BE h
  have c:(y.1.map BE).getD 0 .junk=_:=b
  rcases Bool.eq_false_or_eq_true (!(Fv ar ((⟨#[97,109,111,117,110,116]⟩:ByteArray)))) with hf25 | hf25
  ·replace h:=Be h hf25
   apply Ap 1 [2,57]
   rw [Ao];simp +decide only [go_sem,Nat.reduceAdd,Vl.cs_mks,Ty.cs_mks,List.map_nil,a,hf21,b,c,hf25]
   (repeat' apply Ae)<;>first | refine q _ _ ?_ | exact cl
   clear q
   refine AN true ev (by simp +decide only [go_sem,Nat.reduceAdd,Vl.cs_mks,Ty.cs_mks,List.map_nil,a,hf21,b,c,hf25]) (fun hb26=>?_) (fun hb26=>by cases hb26)
   apply An;intro K27 E
   apply Ap 1 [0]
   rw [Ao];simp +decide only [go_sem,Nat.reduceAdd,Vl.cs_mks,Ty.cs_mks,List.map_nil,a,hf21,b,c,hf25]
   (repeat' apply Ae)<;>first | refine E _ _ ?_ | exact cl
   clear E
   apply AM;simp +decide only [go_sem,Nat.reduceAdd,Vl.cs_mks,Ty.cs_mks,List.map_nil,a,hf21,b,c,hf25]
   have hgt:=Option.some.inj h;subst hgt
   first | refine Dy j rfl t.pre ev ⟨?_,rfl⟩ | refine FD j rfl t.pre ev ⟨?_,rfl⟩
   first | rfl | (simp +decide only [go_sem,Nat.reduceAdd,Vl.cs_mks,Ty.cs_mks,List.map_nil,a,hf21,b,c,hf25];done) | (simp +decide only [go_sem,Nat.reduceAdd,Vl.cs,Ty.cs,Vl.cs_mks,Ty.cs_mks,List.map_nil,a,hf21,b,c,hf25];done)
  ·replace h:=Bh h hf25
   obtain ⟨aq,ay,ax,d,h⟩:=ix BE h
   have e:(y.1.map BE).getD 1 .junk=_:=d
   apply Ap 1 [2,57]
   rw [Ao];simp +decide only [go_sem,Nat.reduceAdd,Vl.cs_mks,Ty.cs_mks,List.map_nil,a,hf21,b,c,hf25,d,e]
   (repeat' apply Ae)<;>first | refine q _ _ ?_ | exact cl
   clear q
   refine AN (!(Fv aq ((⟨#[105,116,101,109,115,91,42,93,46,115,107,117]⟩:ByteArray)))) ev (by first | (simp +decide only [go_sem,Nat.reduceAdd,Vl.cs_mks,Ty.cs_mks,List.map_nil,a,hf21,b,c,hf25,d,e];done) | (simp +decide only [go_sem,Nat.reduceAdd,Vl.cs_mks,Ty.cs_mks,List.map_nil,a,hf21,b,c,hf25,d,e];rfl)) (fun g=>?_) (fun g=>?_)
   ·replace h:=Be h g
    apply An;intro K30 G
    apply Ap 1 [0]
    rw [Ao];simp +decide only [go_sem,Nat.reduceAdd,Vl.cs_mks,Ty.cs_mks,List.map_nil,a,hf21,b,c,hf25,d,e,g]
    (repeat' apply Ae)<;>first | refine G _ _ ?_ | exact cl
    clear G
    apply AM;simp +decide only [go_sem,Nat.reduceAdd,Vl.cs_mks,Ty.cs_mks,List.map_nil,a,hf21,b,c,hf25,d,e,g]
    have hgt:=Option.some.inj h;subst hgt
    first | refine Dy j rfl t.pre ev ⟨?_,rfl⟩ | refine FD j rfl t.pre ev ⟨?_,rfl⟩
    first | rfl | (simp +decide only [go_sem,Nat.reduceAdd,Vl.cs_mks,Ty.cs_mks,List.map_nil,a,hf21,b,c,hf25,d,e,g];done) | (simp +decide only [go_sem,Nat.reduceAdd,Vl.cs,Ty.cs,Vl.cs_mks,Ty.cs_mks,List.map_nil,a,hf21,b,c,hf25,d,e,g];done)
   replace h:=Bh h g
   refine sk [2] hs C ?_
   clear C
   apply An;intro K31 N
   apply Ap 4 [2,7]
   rw [Ao];simp +decide only [go_sem,Nat.reduceAdd,Vl.cs_mks,Ty.cs_mks,List.map_nil,a,hf21,b,c,hf25,d,e,g]
   (repeat' apply Ae)<;>first | refine Ax _ (MH w0 _ _ _ ((⟨#[98,111,100,121,46,97]⟩:ByteArray))) (by first | rfl | (simp +decide only [go_sem,Nat.reduceAdd,Vl.cs_mks,Ty.cs_mks,List.map_nil,a,hf21,b,c,hf25,d,e,g];done) | (simp +decide only [go_sem,Nat.reduceAdd,Vl.cs,Ty.cs,Vl.cs_mks,Ty.cs_mks,List.map_nil,a,hf21,b,c,hf25,d,e,g];done)) ?_ | exact cl
   rw [Ao];simp +decide only [go_sem,Nat.reduceAdd,Vl.cs_mks,Ty.cs_mks,List.map_nil,a,hf21,b,c,hf25,d,e,g]
   (repeat' apply Ae)<;>first | refine Ax _ (MH w0 _ _ _ ((⟨#[98,111,100,121,46,98]⟩:ByteArray))) (by first | rfl | (simp +decide only [go_sem,Nat.reduceAdd,Vl.cs_mks,Ty.cs_mks,List.map_nil,a,hf21,b,c,hf25,d,e,g];done) | (simp +decide only [go_sem,Nat.reduceAdd,Vl.cs,Ty.cs,Vl.cs_mks,Ty.cs_mks,List.map_nil,a,hf21,b,c,hf25,d,e,g];done)) ?_ | exact cl
   rw [Ao];simp +decide only [go_sem,Nat.reduceAdd,Vl.cs_mks,Ty.cs_mks,List.map_nil,a,hf21,b,c,hf25,d,e,g]
   (repeat' apply Ae)<;>first | refine Ax _ (Lo w0 _ _ _ ((⟨#[110]⟩:ByteArray)) (Ex.mk 12 0 (⟨#[]⟩:ByteArray) ([]) ([BU ((⟨#[98,111,100,121,46,97]⟩:ByteArray)),BU ((⟨#[98,111,100,121,46,98]⟩:ByteArray))]))) (by first | rfl | (simp +decide only [go_sem,Nat.reduceAdd,Vl.cs_mks,Ty.cs_mks,List.map_nil,a,hf21,b,c,hf25,d,e,g];done) | (simp +decide only [go_sem,Nat.reduceAdd,Vl.cs,Ty.cs,Vl.cs_mks,Ty.cs_mks,List.map_nil,a,hf21,b,c,hf25,d,e,g];done)) ?_ | exact cl
   rw [Ao];simp +decide only [go_sem,Nat.reduceAdd,Vl.cs_mks,Ty.cs_mks,List.map_nil,a,hf21,b,c,hf25,d,e,g]
   (repeat' apply Ae)<;>first | refine N _ _ ?_ | exact cl
   clear N
   apply An;intro K32 z
   apply Ap 3 [2,7,8]
   rw [Ao];simp +decide only [go_sem,Nat.reduceAdd,Vl.cs_mks,Ty.cs_mks,List.map_nil,a,hf21,b,c,hf25,d,e,g]
   (repeat' apply Ae)<;>first | refine Ax _ (MH w0 _ _ _ ((⟨#[98,111,100,121,46,110]⟩:ByteArray))) (by first | rfl | (simp +decide only [go_sem,Nat.reduceAdd,Vl.cs_mks,Ty.cs_mks,List.map_nil,a,hf21,b,c,hf25,d,e,g];done) | (simp +decide only [go_sem,Nat.reduceAdd,Vl.cs,Ty.cs,Vl.cs_mks,Ty.cs_mks,List.map_nil,a,hf21,b,c,hf25,d,e,g];done)) ?_ | exact cl
   rw [Ao];simp +decide only [go_sem,Nat.reduceAdd,Vl.cs_mks,Ty.cs_mks,List.map_nil,a,hf21,b,c,hf25,d,e,g]
   (repeat' apply Ae)<;>first | refine Ax _ (Lo w0 _ _ _ ((⟨#[116,119,105,99,101]⟩:ByteArray)) (Ex.mk 14 0 (⟨#[]⟩:ByteArray) ([]) ([BU ((⟨#[98,111,100,121,46,110]⟩:ByteArray)),Ex.mk 1 0 (⟨#[]⟩:ByteArray) ([Vl.mk 2 2 0 (⟨#[]⟩:ByteArray) ([]) ([])]) ([])]))) (by first | rfl | (simp +decide only [go_sem,Nat.reduceAdd,Vl.cs_mks,Ty.cs_mks,List.map_nil,a,hf21,b,c,hf25,d,e,g];done) | (simp +decide only [go_sem,Nat.reduceAdd,Vl.cs,Ty.cs,Vl.cs_mks,Ty.cs_mks,List.map_nil,a,hf21,b,c,hf25,d,e,g];done)) ?_ | exact cl
   rw [Ao];simp +decide only [go_sem,Nat.reduceAdd,Vl.cs_mks,Ty.cs_mks,List.map_nil,a,hf21,b,c,hf25,d,e,g]
   (repeat' apply Ae)<;>first | refine z _ _ ?_ | exact cl
   clear z
   apply An;intro K33 J
   obtain ⟨aw,ag,h⟩:=bind_some h
   obtain ⟨U,ad,h⟩:=bind_some h
   apply Lp QQ [9,10] [9,10] kr (fun s=>∃ (X:Aq) (rows:Aw),s=⟨B++([[Am 2,Am 0,Am 99,Am 0,.list ([]) .none,.list ([]) .none,.list ([]) .none],[Am v.kind,Am v.min,Am v.max,Am v.scale,.list (v.words.map BE) .none,.list (v.elem.map Dj) .none,.list ((v.fields++[(3,(⟨#[105,116,101,109,115]⟩:ByteArray),1,Ty.mk 8 0 9 0 ([]) ([w]) ([]),[])]).map CH) .none],[.list (([BZ ((⟨#[105,100]⟩:ByteArray)) (BU ((⟨#[98,111,100,121,46,105,100]⟩:ByteArray))),BZ ((⟨#[116,111,116,97,108]⟩:ByteArray)) (Ex.mk 26 0 ((⟨#[98,111,100,121,46,105,116,101,109,115,91,42,93,46,113,116,121]⟩:ByteArray)) ([]) ([]))]).map A7) .full],[.list (([BZ ((⟨#[110]⟩:ByteArray)) (Ex.mk 12 0 (⟨#[]⟩:ByteArray) ([]) ([BU ((⟨#[98,111,100,121,46,97]⟩:ByteArray)),BU ((⟨#[98,111,100,121,46,98]⟩:ByteArray))]))]).map A7) .full],[.list (([BZ ((⟨#[116,119,105,99,101]⟩:ByteArray)) (Ex.mk 14 0 (⟨#[]⟩:ByteArray) ([]) ([BU ((⟨#[98,111,100,121,46,110]⟩:ByteArray)),Ex.mk 1 0 (⟨#[]⟩:ByteArray) ([Vl.mk 2 2 0 (⟨#[]⟩:ByteArray) ([]) ([])]) ([])]))]).map A7) .full]]++X),rows,L⟩) 3 (B.length+5)
   ·simp +decide only [go_sem,Nat.reduceAdd]
   ·rintro s ⟨X,rows,rfl⟩
    refine ⟨3,?_⟩
    rw [Ao];simp +decide only [go_sem,Nat.reduceAdd,Eg,Vl.cs_mks,Ty.cs_mks,List.map_nil,a,hf21,b,c,hf25,d,e,g]
    (repeat' apply Ae)<;>first | refine Ax _ (O2 w0 n _ _ _ ([(⟨#[110]⟩:ByteArray)]) B.length (Ty.mk 2 0 99 0 ([]) ([]) ([])) (by simp +decide only [go_sem,Nat.reduceAdd,Vl.cs_mks,Ty.cs_mks,List.map_nil,a,hf21,b,c,hf25,d,e,g]) _ ag) (by first | rfl | (simp +decide only [go_sem,Nat.reduceAdd,Vl.cs_mks,Ty.cs_mks,List.map_nil,a,hf21,b,c,hf25,d,e,g];done) | (simp +decide only [go_sem,Nat.reduceAdd,Vl.cs,Ty.cs,Vl.cs_mks,Ty.cs_mks,List.map_nil,a,hf21,b,c,hf25,d,e,g];done)) ?_ | exact cl
    rw [Ao];simp +decide only [go_sem,Nat.reduceAdd,Vl.cs_mks,Ty.cs_mks,List.map_nil,a,hf21,b,c,hf25,d,e,g]
    (repeat' apply Ae)<;>first | refine Ax _ (Uc w0 hB hE hM hP hT n _ _ _ ([BZ ((⟨#[110]⟩:ByteArray)) (Ex.mk 12 0 (⟨#[]⟩:ByteArray) ([]) ([BU ((⟨#[98,111,100,121,46,97]⟩:ByteArray)),BU ((⟨#[98,111,100,121,46,98]⟩:ByteArray))]))]) ([BZ ((⟨#[116,119,105,99,101]⟩:ByteArray)) (Ex.mk 14 0 (⟨#[]⟩:ByteArray) ([]) ([BU ((⟨#[98,111,100,121,46,110]⟩:ByteArray)),Ex.mk 1 0 (⟨#[]⟩:ByteArray) ([Vl.mk 2 2 0 (⟨#[]⟩:ByteArray) ([]) ([])]) ([])]))]) aw _ ad) (by first | rfl | (simp +decide only [go_sem,Nat.reduceAdd,Vl.cs_mks,Ty.cs_mks,List.map_nil,a,hf21,b,c,hf25,d,e,g];done) | (simp +decide only [go_sem,Nat.reduceAdd,Vl.cs,Ty.cs,Vl.cs_mks,Ty.cs_mks,List.map_nil,a,hf21,b,c,hf25,d,e,g];done)) ?_ | exact cl
    rw [Ao];simp +decide only [go_sem,Nat.reduceAdd,Vl.cs_mks,Ty.cs_mks,List.map_nil,a,hf21,b,c,hf25,d,e,g]
    (repeat' apply Ae)<;>first | rfl | exact cl
   ·refine Good.mk [9] kr ⟨[],_,by first | rfl | (simp only [List.append_nil,List.nil_append,List.map_append,List.map_cons,List.map_nil,CG,Ed,Ec,Ty.cs_mks,List.cons_append];first | done | rfl)⟩ ?_ ?_
    ·intro h;exact absurd h (by decide)
    ·intro i hi;simp only [List.mem_cons,List.not_mem_nil,or_false] at hi
     subst hi
     ·apply ET rfl rfl ev
      ·simp +decide only [go_sem,Nat.reduceAdd,F9,Vl.cs_mks,Ty.cs_mks,List.map_nil,a,hf21,b,c,hf25,d,e,g]
       (repeat' apply Ae)<;>first | rfl | exact cl
      ·simp +decide only [go_sem,Nat.reduceAdd,Vl.cs_mks,Ty.cs_mks,List.map_nil,a,hf21,b,c,hf25,d,e,g]
       refine Good.mk [10] kr ⟨_,_,by first | rfl | (simp only [List.append_nil,List.nil_append,List.map_append,List.map_cons,List.map_nil,CG,Ed,Ec,Ty.cs_mks,List.cons_append];first | done | rfl)⟩ ?_ ?_
       ·intro h;exact absurd h (by decide)
       ·intro i hi;simp only [List.mem_cons,List.not_mem_nil,or_false] at hi
        subst hi
        ·apply ET rfl rfl ev
         ·simp +decide only [go_sem,Nat.reduceAdd,F9,Vl.cs_mks,Ty.cs_mks,List.map_nil,a,hf21,b,c,hf25,d,e,g]
          (repeat' apply Ae)<;>first | rfl | exact cl
         ·simp +decide only [go_sem,Nat.reduceAdd,Vl.cs_mks,Ty.cs_mks,List.map_nil,a,hf21,b,c,hf25,d,e,g]
          refine Good.mk [] kr ⟨_,_,by first | rfl | (simp only [List.append_nil,List.nil_append,List.map_append,List.map_cons,List.map_nil,CG,Ed,Ec,Ty.cs_mks,List.cons_append];first | done | rfl)⟩ ?_ ?_
          ·intro _;apply RU [9,10];first | (simp +decide only [go_sem,Nat.reduceAdd,Vl.cs_mks,Ty.cs_mks,List.map_nil,a,hf21,b,c,hf25,d,e,g];done) | (simp +decide only [go_sem,Nat.reduceAdd,Vl.cs_mks,Ty.cs_mks,List.map_nil,a,hf21,b,c,hf25,d,e,g];rfl)
          ·intro i hi;cases hi
   simp +decide only [go_sem,Nat.reduceAdd,Vl.cs_mks,Ty.cs_mks,List.map_nil,a,hf21,b,c,hf25,d,e,g]
   (repeat' apply Ae)<;>first | refine J _ _ ?_ | exact cl
   clear J
   apply An;intro K36 o
   rcases Bool.eq_false_or_eq_true ((decide (U.2=0))&&(decide ((U.1.length:Int)=1))) with hf37 | hf37
   ·replace h:=Be h hf37
    obtain ⟨Q,am,ak,k,h⟩:=ix A7 h
    have l:(U.1.map A7).getD 0 .junk=_:=k
    rcases Bool.eq_false_or_eq_true (Fv Q.1 ((⟨#[116,119,105,99,101]⟩:ByteArray))) with hf39 | hf39
    ·replace h:=Be h hf39
     rcases Bool.eq_false_or_eq_true (decide ((Q.2.args.length:Int)=2)) with hf40 | hf40
     ·replace h:=Be h hf40
      obtain ⟨a2,au,av,p,h⟩:=ix Qq h
      have u:(Q.2.args.map Qq).getD 0 .junk=_:=p
      apply Ap 1 [0]
      rw [Ao];simp +decide only [go_sem,Nat.reduceAdd,Vl.cs_mks,Ty.cs_mks,List.map_nil,a,hf21,b,c,hf25,d,e,g,hf37,k,l,hf39,hf40,p,u,List.append_eq,List.cons_append,List.nil_append]
      (repeat' apply Ae)<;>first | refine o _ _ ?_ | exact cl
      clear o
      apply AM;simp +decide only [go_sem,Nat.reduceAdd,Vl.cs_mks,Ty.cs_mks,List.map_nil,a,hf21,b,c,hf25,d,e,g,hf37,k,l,hf39,hf40,p,u]
      have hgt:=Option.some.inj h;subst hgt
      first | refine Dy j rfl t.pre ev ⟨?_,rfl⟩ | refine FD j rfl t.pre ev ⟨?_,rfl⟩
      first | rfl | (simp +decide only [go_sem,Nat.reduceAdd,Vl.cs_mks,Ty.cs_mks,List.map_nil,a,hf21,b,c,hf25,d,e,g,hf37,k,l,hf39,hf40,p,u];done) | (simp +decide only [go_sem,Nat.reduceAdd,Vl.cs,Ty.cs,Vl.cs_mks,Ty.cs_mks,List.map_nil,a,hf21,b,c,hf25,d,e,g,hf37,k,l,hf39,hf40,p,u];done)
     ·replace h:=Bh h hf40
      apply Ap 1 [0]
      rw [Ao];simp +decide only [go_sem,Nat.reduceAdd,Vl.cs_mks,Ty.cs_mks,List.map_nil,a,hf21,b,c,hf25,d,e,g,hf37,k,l,hf39,hf40,List.append_eq,List.cons_append,List.nil_append]
      (repeat' apply Ae)<;>first | refine o _ _ ?_ | exact cl
      clear o
      apply AM;simp +decide only [go_sem,Nat.reduceAdd,Vl.cs_mks,Ty.cs_mks,List.map_nil,a,hf21,b,c,hf25,d,e,g,hf37,k,l,hf39,hf40]
      have hgt:=Option.some.inj h;subst hgt
      first | refine Dy j rfl t.pre ev ⟨?_,rfl⟩ | refine FD j rfl t.pre ev ⟨?_,rfl⟩
      first | rfl | (simp +decide only [go_sem,Nat.reduceAdd,Vl.cs_mks,Ty.cs_mks,List.map_nil,a,hf21,b,c,hf25,d,e,g,hf37,k,l,hf39,hf40];done) | (simp +decide only [go_sem,Nat.reduceAdd,Vl.cs,Ty.cs,Vl.cs_mks,Ty.cs_mks,List.map_nil,a,hf21,b,c,hf25,d,e,g,hf37,k,l,hf39,hf40];done)
    ·replace h:=Bh h hf39
     apply Ap 1 [0]
     rw [Ao];simp +decide only [go_sem,Nat.reduceAdd,Vl.cs_mks,Ty.cs_mks,List.map_nil,a,hf21,b,c,hf25,d,e,g,hf37,k,l,hf39,List.append_eq,List.cons_append,List.nil_append]
     (repeat' apply Ae)<;>first | refine o _ _ ?_ | exact cl
     clear o
     apply AM;simp +decide only [go_sem,Nat.reduceAdd,Vl.cs_mks,Ty.cs_mks,List.map_nil,a,hf21,b,c,hf25,d,e,g,hf37,k,l,hf39]
     have hgt:=Option.some.inj h;subst hgt
     first | refine Dy j rfl t.pre ev ⟨?_,rfl⟩ | refine FD j rfl t.pre ev ⟨?_,rfl⟩
     first | rfl | (simp +decide only [go_sem,Nat.reduceAdd,Vl.cs_mks,Ty.cs_mks,List.map_nil,a,hf21,b,c,hf25,d,e,g,hf37,k,l,hf39];done) | (simp +decide only [go_sem,Nat.reduceAdd,Vl.cs,Ty.cs,Vl.cs_mks,Ty.cs_mks,List.map_nil,a,hf21,b,c,hf25,d,e,g,hf37,k,l,hf39];done)
   ·replace h:=Bh h hf37
    apply Ap 1 [0]
    rw [Ao];simp +decide only [go_sem,Nat.reduceAdd,Vl.cs_mks,Ty.cs_mks,List.map_nil,a,hf21,b,c,hf25,d,e,g,hf37,List.append_eq,List.cons_append,List.nil_append]
    (repeat' apply Ae)<;>first | refine o _ _ ?_ | exact cl
    clear o
    apply AM;simp +decide only [go_sem,Nat.reduceAdd,Vl.cs_mks,Ty.cs_mks,List.map_nil,a,hf21,b,c,hf25,d,e,g,hf37]
    have hgt:=Option.some.inj h;subst hgt
    first | refine Dy j rfl t.pre ev ⟨?_,rfl⟩ | refine FD j rfl t.pre ev ⟨?_,rfl⟩
    first | rfl | (simp +decide only [go_sem,Nat.reduceAdd,Vl.cs_mks,Ty.cs_mks,List.map_nil,a,hf21,b,c,hf25,d,e,g,hf37];done) | (simp +decide only [go_sem,Nat.reduceAdd,Vl.cs,Ty.cs,Vl.cs_mks,Ty.cs_mks,List.map_nil,a,hf21,b,c,hf25,d,e,g,hf37];done)
theorem ZfK (m:Nat):J3 (m+60)=some true:=by kernel_rfl
theorem ZcC (n:Nat) (h:60≤n):J3 n=some true:=by
 obtain ⟨m,rfl⟩:∃ m,n=m+60:=⟨n-60,by omega⟩
 exact ZfK m
def D9 (n:Nat)  (g:List (List (ByteArray × Ex))) (b:List Ty):Option ((List (List (ByteArray × Ex))) × (List Ty)) :=
 some ((g,b))
def CX (n:Nat) (q:List (List (ByteArray × Ex)) × List Ty):Nat→(List (List (ByteArray × Ex)))→(List Ty)→Int→Option ((List (List (ByteArray × Ex))) × (List Ty))
 | 0,_,_,_=>none
 | m+1,h,g,b =>
  if (decide (b<(q.2.length:Int)))&&(decide (b<4)) then
   (BJ q.2 b).bind fun z =>
   (Kx n z).bind fun y =>
   if (g.length+1)*104≤140737488355328∧g.length+1≤4611686018427387904 then
    if A9 (b+1) then
     (CX n q m) h (g++([y])) (b+1)
    else none
   else none
  else
   D9 n h g
def Gj (n:Nat) (g:List (List (ByteArray × Ex)) × List Ty) (b:List (List (ByteArray × Ex))):Option ((List (List (ByteArray × Ex))) × (List Ty)) :=
 CX n g n b ([]) 0
def Da (n:Nat) (h:List (List (ByteArray × Ex)) × List Ty):Nat→(List (List (ByteArray × Ex)))→Int→Option ((List (List (ByteArray × Ex))) × (List Ty))
 | 0,_,_=>none
 | m+1,g,b =>
  if (decide (b<(h.1.length:Int)))&&(decide (b<3)) then
   (BJ h.1 b).bind fun y =>
   (MG n y).bind fun q =>
   if (g.length+1)*24≤140737488355328∧g.length+1≤4611686018427387904 then
    if A9 (b+1) then
     (Da n h m) (g++([q])) (b+1)
    else none
   else none
  else
   Gj n h g
def GQ (n:Nat) (b:List (List (ByteArray × Ex)) × List Ty):Option ((List (List (ByteArray × Ex))) × (List Ty)) :=
 Da n b n ([]) 0
theorem Qy (w0:World) (n:Nat) (B:Aq) (Rw:Aw) (L:Av) (a0:List (List (ByteArray × Ex)) × List Ty) (r:(List (List (ByteArray × Ex))) × (List Ty)) (h:GQ n a0=some r) :
  ACalls Tryz.prog w0 34 [.agg (.list (a0.1.map HT) .none::([.list (a0.2.map Dj) .none]))] ⟨B,Rw,L⟩ fun x st=>x = .tup [.list (r.1.map HT) .none,.list (r.2.map Dj) .none]∧st=⟨B,Rw,L⟩:=by
 rw [GQ] at h
 refine hd [.tmp 2,.tmp 3] Tryz.func34 Tryz.ntmps34 fun M0 W0 D z y p K w hs=>?_
 simp only [AB]
 refine rg [1] hs ?_
 refine rg [1,4] hs ?_
 refine rg [1,4,5] hs ?_
 refine AA (fun e st=>∃ (o:List (List (ByteArray × Ex))) (g:Ev.Own),Ck e st B Rw L [(1,true,.box B.length 0),(4,true,.list (o.map HT) g),(5,true,.list ([]) .full)] [.list (a0.1.map HT) .none::([.list (a0.2.map Dj) .none])] [(1,o.length,g)] (Gj n a0 o=some r)) ?_ ?_
 ·intro K6 G
  refine rg [1,4,5,6] hs ?_
  apply Ar
  refine Az (fun m e st=>∃ (u:List (List (ByteArray × Ex))) (v:Int) (q:Ev.Own),Ck e st B Rw L [(1,true,.box B.length 0),(4,true,.list (u.map HT) q),(5,true,.list ([]) .full),(6,true,Am v)] [.list (a0.1.map HT) .none::([.list (a0.2.map Dj) .none])] [(1,u.length,q)] (Da n a0 m u v=some r)) n ⟨([]),0,.full,([]),Rw,ef hs,ef hs,Owns.of_eq ((w).full 1 0) Dk,h⟩ ?_
  rintro ml8 e st ⟨u,v,q,Xl8,Rl8,rfl,rfl,w,h⟩ Ul8 Vl8
  cases ml8 with
  | zero=>cases h
  | succ ml8 =>
  rw [Da] at h
  exact go (tg (a:=([1,4,5,6,16],([1,4,5,6],[1,4,5,6],[1,4,5,6],()),[1,4,5],()))) h hs D z y p w (q2 (ae Zjt Zfc) (Y3 w0 n)) (q2 G (fun e s=>Vl8 ml8 e s (Nat.lt_succ_self _)))
 ·clear h;rintro e st ⟨o,g,Xk5,Rk5,rfl,rfl,w,h⟩
  rw [Gj] at h
  have F:=w.unders
  simp only [List.mem_cons,List.not_mem_nil,or_false,forall_eq_or_imp,forall_eq] at F
  refine td D z y p w ?_
  refine AA (fun e st=>∃ (j:List (List (ByteArray × Ex))) (i:List Ty) (l:Ev.Own) (k:Ev.Own),Ck e st B Rw L [(4,true,.list (j.map HT) l),(5,true,.list (i.map Dj) k)] [.list (a0.1.map HT) .none::([.list (a0.2.map Dj) .none])] [(1,j.length,l),(7,i.length,k)] (D9 n j i=some r)) ?_ ?_
  ·intro K22 C
   refine rg [1,4,5,7] hs ?_
   apply Ar
   refine Az (fun m e st=>∃ (d:List (List (ByteArray × Ex))) (c:List Ty) (t:Int) (b:Ev.Own) (f:Ev.Own),Ck e st B Rw L [(1,true,.box B.length 0),(4,true,.list (d.map HT) b),(5,true,.list (c.map Dj) f),(7,true,Am t)] [.list (a0.1.map HT) .none::([.list (a0.2.map Dj) .none])] [(1,d.length,b),(7,c.length,f)] (CX n a0 m d c t=some r)) n ⟨o,([]),0,g,.full,([]),Rk5,ef hs,ef hs,Owns.of_eq (((w).full 7 0).swap (List.Perm.swap _ _ _)) Dk,h⟩ ?_
   rintro ml24 e st ⟨d,c,t,b,f,Xl24,Rl24,rfl,rfl,w,h⟩ Ul24 Vl24
   cases ml24 with
   | zero=>cases h
   | succ ml24 =>
   rw [CX] at h
   have F:=w.unders
   simp only [List.mem_cons,List.not_mem_nil,or_false,forall_eq_or_imp,forall_eq] at F
   obtain ⟨J,H⟩:=F
   refine td D z y p w ?_
   apply An;intro K25 E
   refine rg [1,4,5,7,36] hs ?_
   refine BL h hs ?_ ?_<;>intro hs h
   rotate_left
   ·refine sx [4,5] hs C ?_
    exact ⟨d,c,b,f,([]),Rl24,ef hs,ef hs,Owns.of_eq (((w).swap (List.Perm.swap _ _ _)).swap (List.Perm.swap _ _ _)) Dk,h⟩
   exact go (tg (a:=([1,4,5,7],[1,4,5,7],[1,4,5,7],()))) h hs D z y p w (q2 (ae Y2 QY) (XX w0 n)) (q2 E (fun e s=>Vl24 ml24 e s (Nat.lt_succ_self _)))
  ·clear h;rintro e st ⟨j,i,l,k,Xk21,Rk21,rfl,rfl,w,h⟩
   rw [D9] at h
   exact go (tg (a:=([2,3],()))) h hs D z y p w trivial trivial
def Hv (n:Nat) (z:List (List (ByteArray × Ex)) × List Ty):Option Bool :=
 (GQ n z).bind fun b =>
 (I3 n b.1 b.2).bind fun q =>
 (J4 n b.1 b.2).bind fun h =>
 (J3 n ).bind fun y =>
 if y&&(decide (q.2=h.2)) then
  (LP n q.1 h.1).bind fun g =>
  some (g)
 else
  some (false)
theorem Rx (w0:World) (hB:O7 w0) (hE:JF w0) (hM:Jz w0) (hP:Pow10 w0) (hT:Lib.Utf8Tabs 2 3 w0) (n:Nat) (B:Aq) (Rw:Aw) (L:Av) (a0:List (List (ByteArray × Ex)) × List Ty) (r:Bool) (h:Hv n a0=some r) :
  ACalls Tryz.prog w0 7 [.agg (.list (a0.1.map HT) .none::([.list (a0.2.map Dj) .none]))] ⟨B,Rw,L⟩ fun x st=>x = .val (.bool r)∧st=⟨B,Rw,L⟩:=by
 rw [Hv] at h
 refine hd [.tmp 2] Tryz.func7 Tryz.ntmps7 fun M0 W0 t m l b y q hs=>?_
 simp only [AB]
 refine rg [1] hs ?_
 obtain ⟨i,j,h⟩:=bind_some h
 refine rc 2 [3,4] hs ?_;intro K2 d
 refine Ax _ (Qy w0 n _ _ _ a0 _ j) (hv hs) ?_
 refine ne hs d ?_
 clear d
 obtain ⟨s,k,h⟩:=bind_some h
 refine rc 2 [3,4,5,6] hs ?_;intro K4 g
 refine Ax _ (Wq w0 hB hE hM hP hT n _ _ _ i.1 i.2 _ k) (hv hs) ?_
 refine ne hs g ?_
 clear g
 obtain ⟨v,o,h⟩:=bind_some h
 refine rc 2 [5,6,7,8] hs ?_;intro K6 f
 refine Ax _ (Yj w0 hE hM hP hT n _ _ _ i.1 i.2 _ o) (hv hs) ?_
 refine ne hs f ?_
 clear f
 apply An;intro K8 c
 obtain ⟨u,e,h⟩:=bind_some h
 rcases Bool.eq_false_or_eq_true (u&&(decide (s.2=v.2))) with hf10 | hf10
 ·replace h:=Be h hf10
  obtain ⟨w,p,h⟩:=bind_some h
  have hs:=Ae hf10 hs
  refine rk 3 [2] hs ?_
  refine Ax _ (QV w0 hB hE hM hP hT n _ _ _  _ e) (hv hs) ?_
  exact go (tg (a:=((),()))) h hs t m l b q (q1 (Zw w0 n)) (q1 c)
 ·replace h:=Bh h hf10
  have hs:=Ae hf10 hs
  refine rk 3 [2] hs ?_
  refine Ax _ (QV w0 hB hE hM hP hT n _ _ _  _ e) (hv hs) ?_
  refine nc hs ?_
  refine He ?_
  refine ne hs c ?_
  clear c
  exact rt h hs b q
theorem XK (n:Nat) (hn:30≤n) (a:List (List (ByteArray × Ex)) × List Ty) (x:List (List (ByteArray × Ex))):∀ (k m i:Nat) (f:List Ty),i+k=4→k<m→f.length=i→(∀ t∈f,P9 585 4 t)→∃ w,CX n a m x f (i:Int)=some (x,w)∧w.length≤4∧∀ t∈w,P9 585 4 t
 | k,0,i,_,_,h,_,_=>absurd h (Nat.not_lt_zero _)
 | k,m+1,i,f,hi,hm,hf,hp=>by
  rw [CX,AH]
  by_cases c:i<a.2.length
  rotate_left
  ·rw [Ag c,Bool.false_and,Aj (by decide),D9]
   exact ⟨f,rfl,by omega,hp⟩
  by_cases c4:(i:Int)<4
  rotate_left
  ·rw [Ag c4,Bool.and_false,Aj (by decide),D9]
   exact ⟨f,rfl,by omega,hp⟩
  obtain ⟨w,e,b⟩:=ZhB n hn a.2[i]
  rw [Ah c,Ah c4,Bool.and_self,Ai rfl,AK c,Af,e,Af,Ab,Ai (AG (by omega))]
  cases k with
  | zero=>omega
  | succ k=>exact XK n hn a x k m (i+1) (f++[w]) (by omega) (by omega) (by rw [E6];omega) (Ii hp b)
theorem Zas (n:Nat) (hn:30≤n) (a:List (List (ByteArray × Ex)) × List Ty):∀ (k m i:Nat) (f:List (List (ByteArray × Ex))),i+k=3→k<m→f.length=i→(∀ t∈f,M4 t)→∃ l w,Da n a m f (i:Int)=some (l,w)∧(l.length≤3∧∀ t∈l,M4 t)∧w.length≤4∧∀ t∈w,P9 585 4 t
 | k,0,i,_,_,h,_,_=>absurd h (Nat.not_lt_zero _)
 | k,m+1,i,f,hi,hm,hf,hp=>by
  have b:f.length≤3→∃ l w,Gj n a f=some (l,w)∧(l.length≤3∧∀ t∈l,M4 t)∧w.length≤4∧∀ t∈w,P9 585 4 t:=fun o=>by
   obtain ⟨w,e,d,j⟩:=XK n hn a f 4 n 0 [] (by omega) (by omega) rfl (by simp)
   exact ⟨f,w,e,⟨o,hp⟩,d,j⟩
  rw [Da,AH]
  by_cases c:i<a.1.length
  rotate_left
  ·rw [Ag c,Bool.false_and,Aj (by decide)]
   exact b (by omega)
  by_cases c4:(i:Int)<3
  rotate_left
  ·rw [Ag c4,Bool.and_false,Aj (by decide)]
   exact b (by omega)
  obtain ⟨w,e,g⟩:=Zd8 n hn a.1[i]
  rw [Ah c,Ah c4,Bool.and_self,Ai rfl,AK c,Af,e,Af,Ab,Ai (AG (by omega))]
  cases k with
  | zero=>omega
  | succ k=>exact Zas n hn a k m (i+1) (f++[w]) (by omega) (by omega) (by rw [E6];omega) (Ii hp g)
theorem YE (n:Nat) (hn:3000000≤n) (a:List (List (ByteArray × Ex)) × List Ty):Hv n a=some true:=by
 obtain ⟨l,d,b,⟨k,g⟩,j,c⟩:=Zas n (by omega) a 3 n 0 [] (by omega) (by omega) rfl (by simp)
 have b:GQ n a=some (l,d):=b
 obtain ⟨r,e,i,f,m⟩:=Zlg n hn l d g (fun t h=>⟨by have:=(c t h).1;omega,by have:=(c t h).2.1;omega,(c t h).2.2⟩) k j
 rw [Hv,b,Af,i,Af,f,Af,ZcC n (by omega),Af,Ai (by simp),ZcG n r (by omega) (by omega)]
 rfl
end Go.Proofs.YtmcnjijeocmkgaaGreatDoor
namespace Go.Proofs.YtmcnjijeocmkgaaGreatDoor
open Go Go.Shelf Go.ChangeShapes Go.WideShapes Go.ChangeAt Go.RowKit Go.Lib Go.Ev
set_option maxRecDepth 100000
mutual
def Ex.wf:Ex→Prop
 | .mk o i t v a=>A9 o∧A9 i∧t.size≤maxLen∧v.length≤maxLen∧a.length≤maxLen∧(∀ x∈v,x.wf)∧ZeA a
def ZeA:List Ex→Prop
 | []=>True
 | v::r=>v.wf∧ZeA r
end
theorem ZR:∀ l,ZeA l↔∀ v∈l,v.wf
 | []=>by simp [ZeA]
 | v::r=>by simp [ZeA,ZR r]
theorem Ex.ones (v:Ex):∀ x∈v.cs,x.one=true:=by
 cases v;intro x hx
 simp only [Ex.cs,List.mem_cons,List.not_mem_nil,or_false] at hx
 rcases hx with rfl | rfl | rfl | rfl | rfl<;>rfl
section
variable {H:Type} {enc:TypeId × Value→H} {W:World}
theorem Zb1:∀ (n:Nat) (cs:List Value) (x:DataW H × List MemPlace),Td enc W n 65 cs=some x→∃ v:Ex,v.wf∧RC W cs v.cs
 | 0,cs,x,h=>by simp [Td,DataW.trod] at h
 | n+1,cs,x,h=>by
  obtain ⟨xs,K,hn,rfl,J,D,a⟩:=DataW.trod_struct Tryz.underlying65 h
  cases hn
  have s:cs.length=5:=J.trans (by kernel_rfl)
  have j:xs.length=5:=D
  match cs,s,xs,j,a with
  | [c0,c1,c2,c3,c4],_,[y0,y1,y2,y3,y4],_,a =>
  have z:_=some y0:=a 0 _ rfl;have C:_=some y1:=a 1 _ rfl;have G:_=some y2:=a 2 _ rfl;have u:_=some y3:=a 3 _ rfl;have F:_=some y4:=a 4 _ rfl
  obtain ⟨o,ho,eo⟩:=LM z
  obtain ⟨i,E,ei⟩:=LM C
  obtain ⟨t,w,et,N⟩:=SK G
  cases n with
  | zero=>simp [DataW.trod] at u
  | succ n =>
  obtain ⟨l,O,k,m,el,f,bl⟩:=G5 Dw Vl.wf (fun _=>0) Tryz.underlying31 (sz:=6) (by kernel_rfl) (by omega) (fun cs x h=>by
   obtain ⟨v,hv,b,U⟩:=X0 n cs x h
   exact ⟨v,.agg cs.toArray,hv,by simp [Value.cells],b.agg v.ones,Nat.zero_le _⟩) u
  obtain ⟨y,Q,q,r,ef,c,V⟩:=G5 Qq Ex.wf (fun _=>0) Tryz.underlying63 (sz:=5) (by kernel_rfl) (by omega) (fun cs x h=>by
   obtain ⟨v,hv,b⟩:=Zb1 n cs x h
   exact ⟨v,.agg cs.toArray,hv,by simp [Value.cells],b.agg v.ones,Nat.zero_le _⟩) F
  have d:Tryz.prog.cellsOf 3=1:=by kernel_rfl
  have g:Tryz.prog.cellsOf 9=1:=by kernel_rfl
  have e:Tryz.prog.cellsOf 31=1:=by kernel_rfl
  have p:Tryz.prog.cellsOf 63=1:=by kernel_rfl
  simp only [List.getElem_toArray,List.getElem_cons_zero,List.getElem_cons_succ,d,g,e,p,List.drop_zero,List.take_succ_cons,List.take_zero,List.cons.injEq,and_true,List.drop_succ_cons] at eo ei et el ef
  subst eo ei et el ef
  refine ⟨.mk o i t l y,?_,?_⟩
  ·unfold Ex.wf
   exact ⟨ho,E,w,m,r,k,(ZR y).2 q⟩
  ·rw [Ex.cs,Q1,ZeV]
   exact .cons (.flat rfl) (.cons (.flat rfl) (.cons (.flat (Ah w)) (.cons f (.cons c .nil))))
end
section
variable {H:Type} {enc:TypeId × Value→H} {W:World} {base:Nat} {v:Value} {d:DataW H} {p:List MemPlace}
abbrev Mp:=List (ByteArray × Ex)
def Mp.wf (m:Mp):Prop:=m.length≤maxLen∧∀ p∈m,p.1.size≤maxLen∧p.2.wf
theorem Zju (n:Nat) (cs:List Value) (x:DataW H × List MemPlace) (hn:Td enc W n 49 cs=some x):∃ (t:Mp) (c:Value),t.wf∧cs=[c]∧R W Mem.start W c (.list (t.map A7) .none):=by
 cases n with
 | zero=>simp [Td,DataW.trod] at hn
 | succ n =>
 obtain ⟨xs,r,hn',rfl,m,hx,a⟩:=DataW.trod_struct Tryz.underlying49 hn
 cases hn'
 have g:cs.length=1:=m.trans (by kernel_rfl)
 have i:xs.length=1:=hx
 match cs,g,xs,i,a with
 | [c0],_,[w0],_,a =>
 have e:_=some w0:=a 0 _ rfl
 cases n with
 | zero=>simp [DataW.trod] at e
 | succ n =>
 obtain ⟨l,y,u,s,e1,b,_⟩:=G5 A7 (fun p=>p.1.size≤maxLen∧p.2.wf) (fun _=>0) Tryz.underlying47 (sz:=6) (by kernel_rfl) (by omega) (fun cs x h=>by
  cases n with
  | zero=>simp [DataW.trod] at h
  | succ n =>
  obtain ⟨q,r,hn,rfl,m,hx,a⟩:=DataW.trod_struct Tryz.underlying67 h
  cases hn
  have o:cs.length=6:=m.trans (by kernel_rfl)
  have f:q.length=2:=hx
  match q,f,a with
  | [w0,w1],_,a =>
  have e:_=some w0:=a 0 _ rfl;have q1:_=some w1:=a 1 _ rfl
  obtain ⟨k,d,en,z⟩:=SK e
  obtain ⟨v,hv,b⟩:=Zb1 n _ _ q1
  have w:Tryz.prog.cellsOf 65=5:=by kernel_rfl
  have j:Tryz.prog.cellsOf 9=1:=by kernel_rfl
  simp only [List.getElem_toArray,List.getElem_cons_zero,List.getElem_cons_succ,w,j] at en b
  match cs,o with
  | [c0,c1,c2,c3,c4,c5],_ =>
  simp only [List.drop_zero,List.take_succ_cons,List.take_zero,List.cons.injEq,and_true,List.drop_succ_cons] at en b
  subst en
  refine ⟨(k,v),.agg #[.string k,c1,c2,c3,c4,c5],⟨d,hv⟩,rfl,?_,Nat.zero_le _⟩
  exact RC.agg (cs:=[.string k,c1,c2,c3,c4,c5]) (.cons (.flat (Ah d)) b) (fun x hx=>by
   rcases List.mem_cons.1 hx with rfl | hx
   ·rfl
   ·exact v.ones x hx)) e
 have j:Tryz.prog.cellsOf 47=1:=by kernel_rfl
 simp only [List.getElem_toArray,List.getElem_cons_zero,List.getElem_cons_succ,j,List.drop_zero,List.take_succ_cons,List.take_zero,List.cons.injEq,and_true] at e1
 subst e1
 exact ⟨l,_,⟨s,u⟩,rfl,b⟩
end
set_option maxRecDepth 100000
section
variable {H:Type} {enc:TypeId × Value→H} {W:World} {base:Nat} {v:Value} {d:DataW H} {p:List MemPlace}
theorem ZjY (hv:Value.okWide Tryz.prog W .any base 75 v) (h:DataW.Trod enc Tryz.prog W 0 (fun _=>true) true 75 v d p):∃ t:List Mp × List Ty,(t.1.length≤maxLen∧t.2.length≤maxLen)∧R W Mem.start W v (.agg [.list (t.1.map HT) .none,.list (t.2.map Dj) .none]):=by
 obtain ⟨cs,rfl⟩:=ZjF Tryz.underlying75 hv
 obtain ⟨n,k⟩:=h
 cases n with
 | zero=>simp [DataW.trod] at k
 | succ n =>
 obtain ⟨xs,C,hn',_,j,hx,a⟩:=DataW.trod_struct Tryz.underlying75 k
 cases hn'
 have e:(Value.agg cs).cells.toList=cs.toList:=rfl
 rw [e] at j a
 have b:cs.toList.length=2:=j.trans (by kernel_rfl)
 have f:xs.length=2:=hx
 match xs,f,a with
 | [w0,w1],_,a =>
 have q0:_=some w0:=a 0 _ rfl
 have q1:_=some w1:=a 1 _ rfl
 cases n with
 | zero=>simp [DataW.trod] at q0
 | succ n =>
 obtain ⟨l,_,_,z,e1,q,_⟩:=G5 HT (fun _=>True) (fun _=>0) Tryz.underlying73 (sz:=1) (by kernel_rfl) (by omega) (fun cs x h=>by
  obtain ⟨m,c,r,rfl,w⟩:=Zju n cs x h
  exact ⟨m,.agg #[c],trivial,rfl,RC.agg (cs:=[c]) (.cons w .nil) (fun x hx=>by rcases List.mem_cons.1 hx with rfl | hx;rfl;cases hx),Nat.zero_le _⟩) q0
 obtain ⟨o,_,_,g,e1',i,_⟩:=G5 Dj (fun _=>True) (fun _=>0) Tryz.underlying23 (sz:=7) (by kernel_rfl) (by omega) (fun cs x h=>by
  obtain ⟨t,r,y,_⟩:=Zbc n cs x h
  exact ⟨t,.agg cs.toArray,trivial,by simp [Value.cells],y.agg t.ones,Nat.zero_le _⟩) q1
 have s:Tryz.prog.cellsOf 73=1:=by kernel_rfl
 have u:Tryz.prog.cellsOf 23=1:=by kernel_rfl
 generalize hz:cs.toList=zs at *
 match zs,b with
 | [c0,c1],_ =>
 simp only [List.getElem_toArray,List.getElem_cons_zero,List.getElem_cons_succ,s,u,List.drop_zero,List.take_succ_cons,List.take_zero,List.drop_succ_cons,List.cons.injEq,and_true] at e1 e1'
 subst e1 e1'
 obtain rfl:cs = #[c0,c1]:=by rw [←hz]
 exact ⟨(l,o),⟨z,g⟩,RC.agg (cs:=[c0,c1]) (.cons q (.cons i .nil)) (fun x hx=>by rcases List.mem_cons.1 hx with rfl | hx;rfl;rcases List.mem_cons.1 hx with rfl | hx;rfl;cases hx)⟩
end
set_option maxRecDepth 100000
noncomputable def Pj:Nat:=(World.holding Tryz.prog default ⟨#[],#[],[]⟩).heap.size
noncomputable def Pm (os:Os):World :=
 let w0:=World.holding Tryz.prog os ⟨#[.cells #[.string ⟨#[118,97,108,117,101,32,111,117,116,32,111,102,32,114,97,110,103,101]⟩] 359,.cells #[.string ⟨#[105,110,118,97,108,105,100,32,115,121,110,116,97,120]⟩] 359,.cells #[.int .i64 1,.int .i64 0,.string ⟨#[98,111,100,121]⟩] 146],#[],[]⟩
 let put (h:Array Obj) (g:Nat) (d:DataW Unit):Array Obj:=h.modify g fun
  | .cells _ t frozen => .cells (Zly d).toArray t frozen
  | o=>o
 let one (h:Array Obj) (g:Nat) (v:Value):Array Obj:=h.modify g fun
  | .cells _ t frozen => .cells #[v] t frozen
  | o=>o
 { w0 with heap:=one (one (one (put (put (put (put (put w0.heap 2 Rows.laid_unicode_utf8_first) 3 Rows.laid_unicode_utf8_acceptRanges) 4 Rows.laid_internal_strconv_uint64pow10) 7 Rows.laid_math_bits_deBruijn32tab) 8 Rows.laid_math_bits_deBruijn64tab)
   6 (.iface 357 (.pointer (some ⟨Pj,0,none⟩)))) 5 (.iface 357 (.pointer (some ⟨Pj+1,0,none⟩)))) 0 (.slice (some ⟨Pj+2,0,none⟩) 1 1) }
theorem Wy (os:Os) (args:Array Value):laidMet Tryz.prog Rows.lossLostRow.laid ((Pm os).forCall (fun _ _=>0) ⟨#[],args,[]⟩).memory :=
 (LaidIn.of_run (l:=Rows.lossLostRow.laid) [7,8,4,3,6,5,0,2,Pj,Pj+1,Pj+2] 8 (by kernel_rfl) (by kernel_rfl) (by kernel_rfl) (by kernel_rfl)).met
theorem Zc5 {W:World} (hL:laidMet Tryz.prog Rows.lossLostRow.laid W):Lib.Utf8Tabs 2 3 W∧Pow10 W :=
 ⟨utf8Tabs_of_readsT (U8Types.of196 Tryz.laysValid) ⟨by kernel_rfl,by kernel_rfl,by kernel_rfl,by kernel_rfl,by kernel_rfl,by kernel_rfl,by kernel_rfl⟩ (Lib.laidMet.reads hL (.tail _ (.tail _ (.tail _ (.tail _ (.tail _ (.tail _ (.tail _ (.head _))))))))) (Lib.laidMet.reads hL (.tail _ (.tail _ (.tail _ (.head _))))),
  V3 (Lib.laidMet.reads hL (.tail _ (.tail _ (.head _))))⟩
theorem Ro {W:World} {name:String} {d:DataW Unit} {g:Nat} {t:TypeId} {ms:Array (String × TypeId)} (h:Lib.VarReads Tryz.prog W name d) (hg:Tryz.prog.globalNamed name=some g) (ht:(Tryz.prog.globals[g]?).map (·.type)=some t) (hu:Tryz.prog.underlying t=some (.interface ms)) :
  ∃ ev,W.cell? ⟨g,0,none⟩=some ev∧(ev = .nilIface∨∃ te pe,ev = .iface te pe):=by
 obtain ⟨j,i,cs,fuel,p,c,e,f,a⟩:=h
 obtain rfl:=Option.some.inj (hg.symm.trans c)
 obtain rfl:=Option.some.inj (ht.symm.trans e)
 have b:=World.var?_cell c f 0
 obtain ⟨l⟩:=cs
 cases fuel with
 | zero=>simp [DataW.trod] at a
 | succ n =>
  unfold DataW.trod at a
  simp only [hu] at a
  split at a
  all_goals first
   | (rename_i q _;simp at q;done)
   | exact ⟨_,by simpa using b,.inl rfl⟩
   | exact ⟨_,by simpa using b,.inr ⟨_,_,rfl⟩⟩
   | simp_all
theorem ZcM {W:World} (hL:laidMet Tryz.prog Rows.lossLostRow.laid W):JF W :=
 ⟨Ro (Lib.laidMet.reads hL (.tail _ (.tail _ (.tail _ (.tail _ (.tail _ (.head _))))))) (by kernel_rfl) (by kernel_rfl) (t:=248) Tryz.underlying248,
  Ro (Lib.laidMet.reads hL (.tail _ (.tail _ (.tail _ (.tail _ (.head _)))))) (by kernel_rfl) (by kernel_rfl) (t:=248) Tryz.underlying248⟩
theorem Zc3 {W:World} (hS:W.ShapedOpen Tryz.prog):Jz W :=
 cell_of_shapedOpen_int (zero := #[.int .i64 0]) (t:=3) hS (of_decide_eq_true (by kernel_rfl)) (by kernel_rfl) rfl (by kernel_rfl) (by kernel_rfl) Tryz.underlying3
theorem WJ {W:World} (h:Lib.VarReads Tryz.prog W "manifold/loss.body" Rows.laid_manifold_loss_body):O7 W:=by
 obtain ⟨g,t,cs,ab,p,V,O,h3,h4⟩:=h
 obtain rfl:=Option.some.inj ((show Tryz.prog.globalNamed "manifold/loss.body" = some 0 by kernel_rfl).symm.trans V)
 obtain rfl:=Option.some.inj ((show (Tryz.prog.globals[0]?).map (·.type)=some 113 by kernel_rfl).symm.trans O)
 have hc:=World.var?_cell V h3 0
 obtain ⟨l⟩:=cs
 rcases DataW.trod_slice Tryz.underlying113 h4 with ⟨_,q⟩ | ⟨a,len,cap,elems,rest,n,rfl,hl,G,_,hlc,hcm,hlen,hel,_,_⟩
 ·cases q
 have e3:Tryz.prog.cellsOf 146=3:=by kernel_rfl
 have e:elems.map (·.1)=[.agg [.lit (.int .i64 1),.lit (.int .i64 0),.lit (.string [98,111,100,121])]]:=by
  have:=congrArg Prod.fst G
  simp only [Rows.laid_manifold_loss_body,DataW.slice.injEq] at this
  exact this.1.symm
 have u:elems.length=1:=by have:=congrArg List.length e;simpa using this
 match elems,u,e,hlen,hel with
 | [e0],_,e,hlen,hel =>
 simp only [List.map_cons,List.map_nil,List.cons.injEq,and_true] at e
 have hlen:len=1:=hlen.symm
 subst hlen
 obtain ⟨cs',aa,Z⟩:=Option.bind_eq_some_iff.1 (hel 0 (by decide))
 obtain ⟨xs,n',_,K,z,y,F⟩:=DataW.trod_struct Tryz.underlying146 Z
 have z:cs'.length=3:=z.trans e3
 have y:xs.length=3:=y
 match cs',z,xs,y,F with
 | [c0,c1,c2],_,[y0,y1,y2],_,F =>
 have f0:_=some y0:=F 0 _ rfl;have f1:_=some y1:=F 1 _ rfl;have f2:_=some y2:=F 2 _ rfl
 obtain ⟨k,ek,dk,_⟩:=DataW.trod_int Tryz.underlying3 f0
 obtain ⟨i,ei,di,_⟩:=DataW.trod_int Tryz.underlying3 f1
 obtain ⟨s,es,ds,hs⟩:=DataW.trod_string Tryz.underlying9 f2
 have N:Tryz.prog.cellsOf 3=1:=by kernel_rfl
 have Q:Tryz.prog.cellsOf 9=1:=by kernel_rfl
 simp only [List.getElem_toArray,List.getElem_cons_zero,List.getElem_cons_succ,N,Q,List.drop_zero,List.take_succ_cons,List.take_zero,List.cons.injEq,and_true,List.drop_succ_cons] at ek ei es
 subst ek ei es dk di ds
 have C:=(congrArg Prod.fst K).symm.trans e
 simp only [List.map_cons,List.map_nil,DataW.agg.injEq,List.cons.injEq,DataW.lit.injEq,Lit.int.injEq,Lit.string.injEq,and_true,true_and] at C
 obtain ⟨rfl,rfl,D⟩:=C
 have hs3:s=⟨#[98,111,100,121]⟩:=by
  obtain ⟨⟨x⟩⟩:=s
  simp only at D
  rw [D]
 subst hs3
 obtain ⟨_,_,c⟩:=World.cells?_some aa
 rw [e3] at c
 have e0:((a.add (0*3)).add 0)=a:=by simp [Addr.add]
 have hspot:a.spot=none:=by
  have h5:=c 0 (by decide)
  rw [e0] at h5
  simp only [List.getElem?_cons_zero] at h5
  unfold World.cell? at h5
  split at h5
  ·split at h5
   ·cases h5
   ·rename_i q;simpa using q
  ·cases h5
 obtain ⟨b,d,sp⟩:=a
 simp only at hspot
 subst hspot
 have r:∀ j,j<3→W.cell? ⟨b,d+j,none⟩=([.int .i64 1,.int .i64 0,.string ⟨#[98,111,100,121]⟩]:List Value)[j]? := fun j J=>by
  have:=c j J
  rw [←this]
  congr 1
  have ea:∀ (o m:Nat),(⟨b,o,none⟩:Addr).add m=⟨b,o+m,none⟩:=fun o m=>by unfold Addr.add;split<;>simp_all
  rw [ea,ea];simp
 have Y:W.cell? ⟨0,0,none⟩=some (.slice (some ⟨b,d,none⟩) 1 cap):=by
  have hl:l=[.slice (some ⟨b,d,none⟩) 1 cap]:=hl
  rw [hl] at hc
  simpa using hc
 intro M w E
 refine ⟨.slice (some ⟨b,d,none⟩) 1 cap,?_,?_⟩
 ·simp only [Instr.loadAt,Instr.sureAddr,Sem.run_bind,Sem.run_pure,Result.andThen_ok]
  exact N1 (f:=fun _ => .slice (some ⟨b,d,none⟩) 1 cap) (show HY Tryz.prog 113=some (1,false) by kernel_rfl) (fun j J=>by
   obtain rfl:j=0:=by omega
   exact LS Y E) (by decide)
 ·refine R.list (xs:=[.agg [Am 1,Am 0,.val (.string ⟨#[98,111,100,121]⟩)]]) 3 (fun _ => .agg #[.int .i64 1,.int .i64 0,.string ⟨#[98,111,100,121]⟩]) hlc hcm (fun i U=>?_) (fun i U=>?_) trivial
  ·obtain rfl:i=0:=by simpa using U
   refine ⟨rfl,fun j J=>?_⟩
   have h5:=r j J
   have H:j=0∨j=1∨j=2:=by omega
   have hv:∃ v:Value,([.int .i64 1,.int .i64 0,.string ⟨#[98,111,100,121]⟩]:List Value)[j]? = some v:=by
    rcases H with rfl | rfl | rfl<;>exact ⟨_,rfl⟩
   obtain ⟨v,hv⟩:=hv
   rw [hv] at h5
   rw [show d+0*3+j=d+j by omega]
   refine ⟨.inl (World.block_lt_of_cell? W _ h5),?_⟩
   rw [LS h5 E,←hv]
   rcases H with rfl | rfl | rfl<;>rfl
  ·obtain rfl:i=0:=by simpa using U
   refine .agg rfl (fun x G=>?_) (fun k V O=>?_)
   ·simp only [List.mem_cons,List.not_mem_nil,or_false] at G
    rcases G with rfl | rfl | rfl<;>rfl
   ·have H:k=0∨k=1∨k=2:=by simp at O;omega
    rcases H with rfl | rfl | rfl
    ·exact .flat rfl
    ·exact .flat rfl
    ·exact .flat (show GN (.string ⟨#[98,111,100,121]⟩)=true from by decide)
theorem ZcA {W:World} (hL:laidMet Tryz.prog Rows.lossLostRow.laid W):O7 W :=
 WJ (Lib.laidMet.reads hL (.tail _ (.tail _ (.tail _ (.tail _ (.tail _ (.tail _ (.head _))))))))
end Go.Proofs.YtmcnjijeocmkgaaGreatDoor
