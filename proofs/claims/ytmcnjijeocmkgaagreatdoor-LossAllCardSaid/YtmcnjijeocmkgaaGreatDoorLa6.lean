/-
  Part 6 of the proof: rules and walks that the claim's last text uses.
-/
import Derived.Test.YtmcnjijeocmkgaaGreatDoorLa5
set_option linter.unusedSimpArgs false
set_option linter.unusedVariables false
set_option maxRecDepth 100000
set_option maxHeartbeats 4000000
namespace Go.Proofs.YtmcnjijeocmkgaaGreatDoor
open Go Go.RowKit Go.Ev
def Ef (b:Part):Bool :=
 decide (b.kind=3)
theorem Ox (w0:World) (B:Ao) (Rw:Av) (L:As) (a0:Part) (r:Bool) (h:Ef a0=r) :
  ACalls Tryz.prog w0 303 [.agg (Am a0.kind::(Am a0.index::([.val (.string a0.name)])))] ⟨B,Rw,L⟩ fun x st=>x = .val (.bool r)∧st=⟨B,Rw,L⟩:=by
 rw [Ef] at h
 refine hd [.tmp 2] Tryz.func303 Tryz.ntmps303 fun M0 W0 f c b a e d hs=>?_
 simp only [AA]
 refine rg [1] hs ?_
 refine rg [2] hs ?_
 exact rT h hs a d
theorem N9 (w0:World) (B:Ao) (Rw:Av) (L:As) (a0:Part) :
  ACalls Tryz.prog w0 303 [.agg (Am a0.kind::(Am a0.index::([.val (.string a0.name)])))] ⟨B,Rw,L⟩ fun x st=>x = .val (.bool (Ef a0))∧st=⟨B,Rw,L⟩:=Ox w0 B Rw L a0 _ rfl
def IB (b:Int):Bool :=
 (decide (1≤b))&&(decide (b≤7))
theorem Tv (w0:World) (B:Ao) (Rw:Av) (L:As) (a0:Int) (r:Bool) (h:IB a0=r) :
  ACalls Tryz.prog w0 338 [Am a0] ⟨B,Rw,L⟩ fun x st=>x = .val (.bool r)∧st=⟨B,Rw,L⟩:=by
 rw [IB] at h
 refine hd [.tmp 2] Tryz.func338 Tryz.ntmps338 fun M0 W0 f c b a e d hs=>?_
 simp only [AA]
 refine rg [0] hs ?_
 refine rg [2] hs ?_
 exact rT h hs a d
theorem QW (w0:World) (B:Ao) (Rw:Av) (L:As) (a0:Int) :
  ACalls Tryz.prog w0 338 [Am a0] ⟨B,Rw,L⟩ fun x st=>x = .val (.bool (IB a0))∧st=⟨B,Rw,L⟩:=Tv w0 B Rw L a0 _ rfl
def HI (n:Nat) (h:List Vl):Option Int :=
 if decide ((h.length:Int)=0) then
  some (4)
 else
  if decide ((h.length:Int)=1) then
   (Cj h 0).bind fun b =>
   (Gj n b).bind fun g =>
   if !(decide (g=0)) then
    some (g)
   else
    if !(IB b.kind) then
     some (18)
    else
     some (0)
  else
   some (3)
theorem O2 (w0:World) (hT:Lib.Utf8Tabs 2 3 w0) (n:Nat) (B:Ao) (Rw:Av) (L:As) (a0:List Vl) (r:Int) (h:HI n a0=some r) :
  ACalls Tryz.prog w0 302 [.list (a0.map CZ) .none] ⟨B,Rw,L⟩ fun x st=>x=Am r∧st=⟨B,Rw,L⟩:=by
 rw [HI] at h
 refine hd [.tmp 2] Tryz.func302 Tryz.ntmps302 fun M0 W0 f d c b g e hs=>?_
 simp only [AA]
 exact go (tg (a:=([0],[0,5],[0,5,6],([2],()),[0,8],([0,3],[0,3,15],([2],()),[0],[22],([2],()),[],[2],()),[],[2],()))) h hs f d c b e (q2 (OB w0 hT n) (QW w0)) trivial
def E5 (b:Int):Bool :=
 ((decide (b=2))||(decide (b=22)))||(decide (b=26))
theorem RX (w0:World) (B:Ao) (Rw:Av) (L:As) (a0:Int) (r:Bool) (h:E5 a0=r) :
  ACalls Tryz.prog w0 180 [Am a0] ⟨B,Rw,L⟩ fun x st=>x = .val (.bool r)∧st=⟨B,Rw,L⟩:=by
 rw [E5] at h
 refine hd [.tmp 2] Tryz.func180 Tryz.ntmps180 fun M0 W0 f c b a e d hs=>?_
 simp only [AA]
 refine rg [0] hs ?_
 refine rg [2] hs ?_
 exact rT h hs a d
theorem Jk (w0:World) (B:Ao) (Rw:Av) (L:As) (a0:Int) :
  ACalls Tryz.prog w0 180 [Am a0] ⟨B,Rw,L⟩ fun x st=>x = .val (.bool (E5 a0))∧st=⟨B,Rw,L⟩:=RX w0 B Rw L a0 _ rfl
def GN (b:Int):Bool :=
 (decide (b=15))||(decide (b=26))
theorem SA (w0:World) (B:Ao) (Rw:Av) (L:As) (a0:Int) (r:Bool) (h:GN a0=r) :
  ACalls Tryz.prog w0 301 [Am a0] ⟨B,Rw,L⟩ fun x st=>x = .val (.bool r)∧st=⟨B,Rw,L⟩:=by
 rw [GN] at h
 refine hd [.tmp 2] Tryz.func301 Tryz.ntmps301 fun M0 W0 f c b a e d hs=>?_
 simp only [AA]
 refine rg [0] hs ?_
 refine rg [2] hs ?_
 exact rT h hs a d
theorem MP (w0:World) (B:Ao) (Rw:Av) (L:As) (a0:Int) :
  ACalls Tryz.prog w0 301 [Am a0] ⟨B,Rw,L⟩ fun x st=>x = .val (.bool (GN a0))∧st=⟨B,Rw,L⟩:=SA w0 B Rw L a0 _ rfl
def GE (n:Nat) (b:Ex):Option Int :=
 if (GN b.op)&&((decide (b.int<0))||(decide (12<b.int))) then
  some (2)
 else
  some (0)
def Ja (n:Nat) (b:Ex):Option Int :=
 if (decide (b.op<1))||(decide (28<b.op)) then
  some (11)
 else
  if (((!(decide (b.op=1)))&&(decide (0<(b.value.length:Int))))||((!(E5 b.op))&&(!(GP b.text (⟨#[]⟩:ByteArray)))))||((!(GN b.op))&&(!(decide (b.int=0)))) then
   some (3)
  else
   if (decide (((EO b.op).2)=0))&&(decide (0<(b.args.length:Int))) then
    some (3)
   else
    if decide ((b.args.length:Int)<((EO b.op).1)) then
     some (4)
    else
     if (decide (((EO b.op).2)<(b.args.length:Int)))&&(!(decide (b.op=25))) then
      some (3)
     else
      if decide (b.op=1) then
       (HI n b.value).bind fun h =>
       some (h)
      else
       if E5 b.op then
        (Do n b.text).bind fun g =>
        if !(decide (g.2=0)) then
         some (g.2)
        else
         (A3 n g.1 (fun (y:Part)=>some (Ef y))).bind fun q =>
         if q != (decide (b.op=26)) then
          some (22)
         else
          GE n b 
       else
        GE n b 
theorem Qi (w0:World) (hE:JX w0) (hM:Kp w0) (hP:Pow10 w0) (hT:Lib.Utf8Tabs 2 3 w0) (n:Nat) (B:Ao) (Rw:Av) (L:As) (a0:Ex) (r:Int) (h:Ja n a0=some r) :
  ACalls Tryz.prog w0 242 [.agg (a0.cs)] ⟨B,Rw,L⟩ fun x st=>x=Am r∧st=⟨B,Rw,L⟩:=by
 rw [Ja] at h
 refine hd [.tmp 2] Tryz.func242 Tryz.ntmps242 fun M0 W0 s k j b y c hs=>?_
 simp only [AA]
 refine rg [1] hs ?_
 apply An;intro K2 o
 refine rg [1,15] hs ?_
 refine B6 h hs ?_ ?_<;>intro hs h
 ·refine rg [2] hs ?_
  exact rt h hs b c
 refine sk [1] hs o ?_
 clear o
 refine rc 2 [1,3,4] hs ?_;intro K6 m
 refine Ax _ (RF w0 _ _ _ a0.op) (hv hs) ?_
 refine ne hs m ?_
 clear m
 refine AB (fun e st=>Ck e st B Rw L [(1,true,.box B.length 0)] [a0.cs] [] (GE n a0  = some r)) ?_ ?_
 ·intro K9 q
  apply Ar
  refine rc 3 [1,3,4,22] hs ?_;intro K10 f
  refine OM _ (fun _=>Jk w0 _ _ _ a0.op) (hv hs) ?_
  refine nc hs ?_
  refine OM _ (fun _=>MP w0 _ _ _ a0.op) (hv hs) ?_
  refine ne hs f ?_
  clear f
  refine B6 h hs ?_ ?_<;>intro hs h
  ·refine rg [2] hs ?_
   exact rt h hs b c
  refine rg [1,3,4,54] hs ?_
  refine B6 h hs ?_ ?_<;>intro hs h
  ·refine rg [2] hs ?_
   exact rt h hs b c
  refine rg [1,4,63] hs ?_
  refine B6 h hs ?_ ?_<;>intro hs h
  ·refine rg [2] hs ?_
   exact rt h hs b c
  refine rg [1,69] hs ?_
  refine B6 h hs ?_ ?_<;>intro hs h
  ·refine rg [2] hs ?_
   exact rt h hs b c
  refine rg [1,80] hs ?_
  refine B6 h hs ?_ ?_<;>intro hs h
  ·exact go (tg (a:=([2],()))) h hs s k j b c (q1 (O2 w0 hT n)) trivial
  refine rc 2 [1,87] hs ?_;intro K26 i
  refine Ax _ (Jk w0 _ _ _ a0.op) (hv hs) ?_
  refine ne hs i ?_
  clear i
  refine B6 h hs ?_ ?_<;>intro hs h
  ·obtain ⟨t,p,h⟩:=bind_some h
   refine rc 2 [1,5,6] hs ?_;intro K28 d
   refine Ax _ (Il w0 hE hM hP n _ _ _ a0.text _ p) (hv hs) ?_
   refine ne hs d ?_
   clear d
   apply An;intro K30 g
   refine rg [1,5,6,98] hs ?_
   refine B6 h hs ?_ ?_<;>intro hs h
   ·refine rg [2] hs ?_
    exact rt h hs b c
   refine sk [1,5] hs g ?_
   clear g
   obtain ⟨w,hy35,h⟩:=bind_some h
   refine rc 2 [1,7] hs ?_;intro K34 l
   refine Ax _ (C9 w0 n _ _ _ t.1 303 [] (fun (x0:Part)=>some (Ef x0)) (fun x0 r hx z rows' u v=>by cases hx;exact N9 w0 _ _ _ x0) _ hy35) (hv hs) ?_
   exact go (tg (a:=([1,106],([2],()),[1],()))) h hs s k j b c trivial (q2 l q)
  refine sk [1] hs q ?_
  exact ⟨([]),Rw,ef hs,ef hs,c,h⟩
 ·clear h;rintro e st ⟨Xk8,Rk8,rfl,rfl,c,h⟩
  rw [GE] at h
  exact go (tg (a:=([119],([2],()),[],[2],()))) h hs s k j b c (q1 (MP w0)) trivial
def Iq (rec:Ex→Int→Int→Option (Int × Int)) (n:Nat)  (pla2_k19:Int):Option (Int × Int) :=
 some ((0,pla2_k19))
def Gv (rec:Ex→Int→Int→Option (Int × Int)) (n:Nat) (h:Ex) (q:Int):Nat→Int→Int→Option (Int × Int)
 | 0,_,_=>none
 | m+1,b,pla2_l22 =>
  if decide (b<(h.args.length:Int)) then
   (Cj h.args b).bind fun y =>
   if Bg (q+1) then
    (rec y (q+1) pla2_l22).bind fun g =>
    if !(decide (g.1=0)) then
     some ((g.1,g.2))
    else
     if Bg (b+1) then
      (Gv rec n h q m) (b+1) g.2
     else none
   else none
  else
   Iq rec n pla2_l22
def J1 (rec:Ex→Int→Int→Option (Int × Int)) (n:Nat) (h:Ex) (q:Int) (b:Int):Option (Int × Int) :=
 if decide (b=256) then
  some ((9,b))
 else
  if Bg (b+1) then
   if decide (8<q) then
    some ((23,b+1))
   else
    (Ja n h).bind fun g =>
    if !(decide (g=0)) then
     some ((g,b+1))
    else
     Gv rec n h q n 0 (b+1)
  else none
def HZ:Nat→Ex→Int→Int→Option (Int × Int)
 | 0,_,_,_=>none
 | n+1,b,g,h=>J1 (HZ n) n b g h
def J6 (w0:World) (F:Ex→Int→Int→Option (Int × Int)):Prop:=∀ (B:Ao) (Rw:Av) (L:As) (b:Ex) (g:Int) (la2:Nat) (h:Int) (hla2:B[la2]? = some ([Am h])) (la3:Nat) (hla3:B[la3]? = some [.clo 241 [.box la2 0,.box la3 0]]) (r:Int × Int),F b g h=some r→ACalls Tryz.prog w0 241 [.agg (b.cs),Am g,.box la2 0,.box la3 0] ⟨B,Rw,L⟩ fun x st=>x=Am r.1∧st=⟨(B.set la2 [Am r.2]),Rw,L⟩
theorem PO (w0:World) (hE:JX w0) (hM:Kp w0) (hP:Pow10 w0) (hT:Lib.Utf8Tabs 2 3 w0) (rec:Ex→Int→Int→Option (Int × Int)) (ih:J6 w0 rec) (n:Nat):J6 w0 (J1 rec n):=by
 intro B Rw L a0 a1 u a2 t y j r h
 rw [J1] at h
 refine hd [.tmp 6] Tryz.func241 Tryz.ntmps241 fun M0 W0 D o l c hu p hs=>?_
 simp only [AA]
 have Z:=(Ak.1 t).1
 have Y:=(Ak.1 j).1
 have i:u≠y:=fun q=>by have k:=t;rw [q,j] at k;cases k
 have hs:=Ae (Aq t) hs
 have hs:=Ae (Aq j) hs
 have hs:=Ae (A7 j i) hs
 refine rg [1,2,3,4] hs ?_
 apply An;intro K2 E
 refine rg [1,2,3,4,12] hs ?_
 refine B6 h hs ?_ ?_<;>intro hs h
 ·have ad:=hs.1
  refine rg [6] hs ?_
  exact rt h hs c p
 have ad:=hs.1
 refine sk [1,2,3,4] hs E ?_
 clear E
 obtain ⟨ag,h⟩:=Aw h
 refine rg [1,3,4] hs ?_
 apply An;intro K8 U
 refine rg [1,3,4,16] hs ?_
 refine B6 h hs ?_ ?_<;>intro hs h
 ·have F:=hs.1
  exact go (tg (a:=([6],()))) h hs D o l c p trivial trivial
 have F:=hs.1
 refine sk [1,3,4] hs U ?_
 clear U
 apply An;intro K12 x
 obtain ⟨ai,O,h⟩:=bind_some h
 refine rc 2 [1,3,4,7] hs ?_;intro K13 w
 refine Ax _ (Qi w0 hE hM hP hT n _ _ _ a0 _ O) (hv hs) ?_
 refine ne hs w ?_
 clear w
 refine rg [1,3,4,7,20] hs ?_
 refine B6 h hs ?_ ?_<;>intro hs h
 ·have G:=hs.1
  exact go (tg (a:=([6],()))) h hs D o l c p trivial trivial
 have G:=hs.1
 refine sk [1,3,4] hs x ?_
 clear x
 refine AB (fun e st=>∃ (d:Int) (Xk19:Ao) (Rk19:Av),e=[]∧st=⟨(B.set u ([Am d]))++([a0.cs]++Xk19),Rk19,L⟩∧Owns Rw Rk19 []∧Iq rec n d=some r) ?_ ?_
 ·intro K20 N
  refine rg [1,3,23,24,25] hs ?_
  apply Ar
  refine AC (fun m e st=>∃ (g:Int) (b:Int) (Xl22:Ao) (Rl22:Av),e=[(1,true,Am a1),(3,true,.box y 0),(23,true,.list (a0.args.map Rl) .none),(24,true,Am (a0.args.length:Int)),(25,true,Am g)]∧st=⟨(B.set u ([Am b]))++([a0.cs]++Xl22),Rl22,L⟩∧Owns Rw Rl22 []∧Gv rec n a0 a1 m g b=some r) n ⟨0,(a2+1),([]),Rw,ef hs,ef hs,p,h⟩ ?_
  rintro ml22 e st ⟨g,b,Xl22,Rl22,rfl,rfl,p,h⟩ Ul22 Vl22
  cases ml22 with
  | zero=>cases h
  | succ ml22 =>
  rw [Gv] at h
  refine A1 D o l X9 (CH c ev) p ow ow ?_
  refine rg [1,3,23,24,25,26] hs ?_
  apply An;intro K24 v
  refine B6 h hs ?_ ?_<;>intro hs h
  rotate_left
  ·have H:=hs.1
   refine sx [] hs N ?_
   exact ⟨b,([]),Rl22,ef hs,ef hs,p,h⟩
  have H:=hs.1
  refine sk [1,3,23,24,25] hs v ?_
  clear v
  apply An;intro K26 V
  apply Ar
  obtain ⟨ae,J,h⟩:=bind_some h
  obtain ⟨aa,ab,z⟩:=Bl J
  have C:=Bn (f:=Rl) z
  have hs:=Ae C hs
  refine rg [1,3,9,23,24,25] hs ?_
  obtain ⟨af,h⟩:=Aw h
  obtain ⟨ah,K,h⟩:=bind_some h
  refine rc 2 [1,3,10,23,24,25] hs ?_;intro K29 Q
  refine EI _ (ih _ _ _ ae (a1+1) u b (ef hs) y (ef hs) _ K) (hv hs) ?_;rintro _ _ ⟨rfl,rfl⟩
  exact go (tg (a:=([1,3,10,23,24,25,35],([6],()),[1,3,23,24,25],[1,3,23,24,25],()))) h hs D o l c p trivial (q3 Q V (fun e s=>Vl22 ml22 e s (Nat.lt_succ_self _)))
 ·clear h;rintro e st ⟨d,Xk19,Rk19,rfl,rfl,p,h⟩
  rw [Iq] at h
  refine A1 D o l X9 (CH c ev) p ow ow ?_
  exact go (tg (a:=([6],()))) h hs D o l c p trivial trivial
theorem ML (w0:World) (hE:JX w0) (hM:Kp w0) (hP:Pow10 w0) (hT:Lib.Utf8Tabs 2 3 w0):∀ n:Nat,J6 w0 (HZ n)
 | 0=>fun _ _ _ _ _ _ _ _ _ _ _ h=>(nomatch h)
 | n+1=>PO w0 hE hM hP hT (HZ n) (ML w0 hE hM hP hT n) n
def Jv (n:Nat) (b:Ex):Option Int :=
 (HZ n b 1 0).bind fun g =>
 some (g.1)
theorem Oj (w0:World) (hE:JX w0) (hM:Kp w0) (hP:Pow10 w0) (hT:Lib.Utf8Tabs 2 3 w0) (n:Nat) (B:Ao) (Rw:Av) (L:As) (a0:Ex) (r:Int) (h:Jv n a0=some r) :
  ACalls Tryz.prog w0 161 [.agg (a0.cs)] ⟨B,Rw,L⟩ fun x st=>x=Am r∧st=⟨B,Rw,L⟩:=by
 rw [Jv] at h
 refine hd [.tmp 2] Tryz.func161 Tryz.ntmps161 fun M0 W0 j e d a i f hs=>?_
 simp only [AA]
 refine rg [1] hs ?_
 refine rg [1,3] hs ?_
 refine rg [1,3,4] hs ?_
 refine rg [1,4] hs ?_
 obtain ⟨g,c,h⟩:=bind_some h
 refine rc 2 [2] hs ?_;intro K5 b
 refine EI _ (ML w0 hE hM hP hT n _ _ _ a0 1 (B.length+1) 0 ev (B.length+2) ev _ c) (hv hs) ?_;rintro _ _ ⟨rfl,rfl⟩
 refine ne hs b ?_
 clear b
 exact rt h hs a f
def Gh (rec:Ex→(List ByteArray)→Option ((List ByteArray))) (n:Nat) (g:Ex):Nat→Int→(List ByteArray)→Option ((List ByteArray))
 | 0,_,_=>none
 | m+1,b,pla1_l12 =>
  if decide (b<(g.args.length:Int)) then
   (Cj g.args b).bind fun q =>
   (rec q pla1_l12).bind fun h =>
   if Bg (b+1) then
    (Gh rec n g m) (b+1) h
   else none
  else
   some (pla1_l12)
def GQ (rec:Ex→(List ByteArray)→Option ((List ByteArray))) (n:Nat) (b:Ex) (pla1_k3:List ByteArray):Option ((List ByteArray)) :=
 Gh rec n b n 0 pla1_k3
def JR (rec:Ex→(List ByteArray)→Option ((List ByteArray))) (n:Nat) (b:Ex) (g:List ByteArray):Option ((List ByteArray)) :=
 if E5 b.op then
  if (g.length+1)*16≤140737488355328∧g.length+1≤4611686018427387904 then
   GQ rec n b (g++[b.text])
  else none
 else
  GQ rec n b g
def HW:Nat→Ex→(List ByteArray)→Option ((List ByteArray))
 | 0,_,_=>none
 | n+1,b,g=>JR (HW n) n b g
def JZ (w0:World) (F:Ex→(List ByteArray)→Option ((List ByteArray))):Prop:=∀ (B:Ao) (Rw:Av) (L:As) (g:Ex) (la1:Nat) (b:List ByteArray) (oa1:VO) (hla1:B[la1]? = some [OV oa1 b.length]) (hGa1:Owns Rw Rw [] (hOf oa1) [(oa1,1,b.flatMap fun x=>(C0 x).cells)]) (la2:Nat) (hla2:B[la2]? = some [.clo 179 [.box la1 0,.box la2 0]]) (r:(List ByteArray)),F g b=some r→ACalls Tryz.prog w0 179 [.agg (g.cs),.box la1 0,.box la2 0] ⟨B,Rw,L⟩ fun x st=>x = .tup []∧∃ (R1:Av) (o1:VO),st=⟨(B.set la1 [OV o1 r.length]),R1,L⟩∧Owns Rw R1 [] (hOf oa1) [(o1,1,r.flatMap fun x=>(C0 x).cells)]
theorem Pn (w0:World) (rec:Ex→(List ByteArray)→Option ((List ByteArray))) (ih:JZ w0 rec) (n:Nat):JZ w0 (JR rec n):=by
 intro B Rw L a0 w a1 oa1 p O y j r h
 rw [JR] at h
 refine ACalls.finG (E8 (rs:=[]) Tryz.func179 rfl rfl Tryz.ntmps179 (AY Tryz.func179 rfl (by decide)) (Nat.le_of_ble_eq_true rfl) ?_)
 intro M0 W0 hN F E o hu
 dsimp only at hN F E o hu
 simp only [AA]
 have l:=O
 have hs:=ZbW
 have ab:=(Ak.1 p).1
 have aa:=(Ak.1 j).1
 have g:w≠y:=fun q=>by have k:=p;rw [q,j] at k;cases oa1<;>cases k
 have hs:=Ae (Aq p) hs
 have hs:=Ae (Aq j) hs
 have hs:=Ae (A7 j g) hs
 refine rg [1,2,3] hs ?_
 refine AB (fun e st=>∃ (c:List ByteArray) (d:VO) (Xk3:Ao) (Rk3:Av),e=[(2,true,.box y 0),(3,true,.box B.length 0)]∧st=⟨(B.set w ([OV d c.length]))++([a0.cs]++Xk3),Rk3,L⟩∧Owns Rw Rk3 [] (hOf oa1) [(d,1,c.flatMap fun x=>(C0 x).cells)]∧GQ rec n a0 c=some r) ?_ ?_
 ·intro K4 N
  refine rc 2 [1,2,3,8] hs ?_;intro K5 Z
  refine Ax _ (Jk w0 _ _ _ a0.op) (hv hs) ?_
  refine ne hs Z ?_
  clear Z
  refine B6 h hs ?_ ?_<;>intro hs h
  ·obtain ⟨K,h⟩:=Aw h
   obtain ⟨o8,J,l,t⟩:=l.appendV (P:=Tryz.prog) (n:=a1.length) (m:=1) Qf (by rw [NJ];rfl) (by decide) ((JW (f:=C0) (sz:=1) (fun _=>by simp +decide only [go_sem]) _)) K.1 K.2 [C0 a0.text] rfl ((a1++[a0.text]).flatMap fun x=>(C0 x).cells) (by simp only [List.flatMap_append,List.flatMap_cons,List.flatMap_nil,List.append_nil,List.nil_append,Zcp])
   simp only [List.mem_singleton,forall_eq,Fe,Fj,Fq,Eu,Eo,Ft,CO,DN,Fz,Ce,Cd,DG,DK,DO,Fg,DL,Fo] at t
   have hs:=Ae t hs
   refine rl [2,3] hs N ?_
   exact ⟨(a1++[a0.text]),o8,([]),J,ef hs,ef hs,Owns.eqV (l) fn_,h⟩
  refine sk [2,3] hs N ?_
  exact ⟨a1,oa1,([]),Rw,ef hs,ef hs,Owns.eqV (l) fn_,h⟩
 ·clear h;rintro e st ⟨c,d,Xk3,Rk3,rfl,rfl,l,h⟩
  rw [GQ] at h
  have u:=l.underV
  simp only [List.mem_cons,List.not_mem_nil,or_false,forall_eq_or_imp,forall_eq] at u
  refine NI hN F E X9 (CH (MH o l.len) ow) l ow ow ?_ (vu @SS)
  refine rg [2,15,16,17] hs ?_
  apply Ar
  refine AC (fun m e st=>∃ (i:Int) (a:List ByteArray) (b:VO) (Xl12:Ao) (Rl12:Av),e=[(2,true,.box y 0),(15,true,.list (a0.args.map Rl) .none),(16,true,Am (a0.args.length:Int)),(17,true,Am i)]∧st=⟨(B.set w ([OV b a.length]))++([a0.cs]++Xl12),Rl12,L⟩∧Owns Rw Rl12 [] (hOf oa1) [(b,1,a.flatMap fun x=>(C0 x).cells)]∧Gh rec n a0 m i a=some r) n ⟨0,c,d,([]),Rk3,ef hs,ef hs,Owns.eqV (l) fn_,h⟩ ?_
  rintro ml12 e st ⟨i,a,b,Xl12,Rl12,rfl,rfl,l,h⟩ Ul12 Vl12
  cases ml12 with
  | zero=>cases h
  | succ ml12 =>
  rw [Gh] at h
  have u:=l.underV
  simp only [List.mem_cons,List.not_mem_nil,or_false,forall_eq_or_imp,forall_eq] at u
  refine NI hN F E X9 (CH (MH o l.len) ow) l ow ow ?_ (vu @SS)
  refine rg [2,15,16,17,18] hs ?_
  apply An;intro K14 C
  refine B6 h hs ?_ ?_<;>intro hs h
  rotate_left
  ·have v:=hs.1
   refine LR (Du [] _) ?_ (D2 _ _)
   apply I4;simp +decide only [go_sem,Nat.reduceAdd]
   (repeat' with_reducible apply Ae)<;>first | exact cl | skip
   have hgt:=Option.some.inj h;subst hgt
   have u:=l.underV
   simp only [List.mem_cons,List.not_mem_nil,or_false,forall_eq_or_imp,forall_eq] at u
   refine YP l (CH (MH o l.len) ow) X9 ev ⟨?_,_,_,?_,l.sub (List.nil_sublist _)⟩ (vu @SS)
   all_goals first | rfl | (simp +decide only [go_sem,Nat.reduceAdd,Aq p,Aq j,A7 j g,v];done) | (simp +decide only [go_sem,Nat.reduceAdd,Vl.cs,Ty.cs,Aq p,Aq j,A7 j g,v];done)
  have v:=hs.1
  refine sk [2,15,16,17] hs C ?_
  clear C
  apply An;intro K16 D
  apply Ar
  obtain ⟨Y,Q,h⟩:=bind_some h
  obtain ⟨af,ad,G⟩:=Bl Q
  have H:=Bn (f:=Rl) G
  have hs:=Ae H hs
  refine rg [2,5,15,16,17] hs ?_
  obtain ⟨ae,V,h⟩:=bind_some h
  refine rk 2 [2,15,16,17] hs ?_
  refine EI _ (ih _ _ _ Y w a b (ef hs) l.enterV y (ef hs) _ V) (hv hs) ?_;rintro _ _ ⟨rfl,Rg20,U,rfl,z⟩
  have l:=l.callG z
  refine ne hs D ?_
  clear D
  obtain ⟨ag,h⟩:=Aw h
  refine rl [2,15,16,17] hs (fun e s=>Vl12 ml12 e s (Nat.lt_succ_self _)) ?_
  exact ⟨(i+1),ae,U,([Y.cs]),Rg20,ef hs,ef hs,Owns.eqV (l) fn_,h⟩
theorem MU (w0:World):∀ n:Nat,JZ w0 (HW n)
 | 0=>fun _ _ _ _ _ _ _ _ _ _ _ _ h=>(nomatch h)
 | n+1=>Pn w0 (HW n) (MU w0 n) n
def L2 (n:Nat) (g:Ex):Option ((List ByteArray)) :=
 (Jv n g).bind fun h =>
 if !(decide (h=0)) then
  some ([])
 else
  (HW n g ([])).bind fun b =>
  if b.length<4611686018427387904 then
   if (J2 b).length<4611686018427387904 then
    some (JQ (J2 b))
   else none
  else none
theorem Uh (w0:World) (hE:JX w0) (hM:Kp w0) (hP:Pow10 w0) (hT:Lib.Utf8Tabs 2 3 w0) (n:Nat) (B:Ao) (Rw:Av) (L:As) (a0:Ex) (r:(List ByteArray)) (h:L2 n a0=some r) :
  ACalls Tryz.prog w0 99 [.agg (a0.cs)] ⟨B,Rw,L⟩ fun x st=>x = .list (r.map C0) .none∧st=⟨B,Rw,L⟩:=by
 rw [L2] at h
 refine hd [.tmp 2] Tryz.func99 Tryz.ntmps99 fun M0 W0 E C z b D a hs=>?_
 simp only [AA]
 refine rg [1] hs ?_
 apply An;intro K2 k
 obtain ⟨F,w,h⟩:=bind_some h
 refine rc 2 [1,7] hs ?_;intro K3 p
 refine Ax _ (Oj w0 hE hM hP hT n _ _ _ a0 _ w) (hv hs) ?_
 refine ne hs p ?_
 clear p
 refine B6 h hs ?_ ?_<;>intro hs h
 ·refine rg [2] hs ?_
  exact rt h hs b a
 refine sk [1] hs k ?_
 clear k
 refine rg [1,3] hs ?_
 refine rg [1,3,4] hs ?_
 refine rg [1,3,4] hs ?_
 apply An;intro K10 e
 refine Px (B.length+1) 0 (by simp only [FC,D8,D6,C4];rfl) rfl ?_;simp +decide only [go_sem,Nat.reduceAdd,List.set_cons_zero,List.set_cons_succ]
 have a:=a.nilV 1
 obtain ⟨v,q,h⟩:=bind_some h
 refine rk 2 [3] hs ?_
 refine EI _ (MU w0 n _ _ _ a0 (B.length+1) ([]) .nil (ef hs) a.enterV (B.length+2) (ef hs) _ q) (hv hs) ?_;rintro _ _ ⟨rfl,Rg13,y,rfl,c⟩
 have a:=a.callG c
 refine ne hs e ?_
 clear e
 apply An;intro K15 g
 obtain ⟨l,h⟩:=Aw h
 obtain ⟨u,a,j⟩:=Xr w0 a l
 have m:=LU v
 refine O6 0 (by decide) ?_
 have hs:=Ae m hs
 refine rk 2 [3] hs ?_
 refine N6 [false] _ (j _ _) (hv hs) ?_;rintro _ _ ⟨rfl,rfl⟩
 refine ne hs g ?_
 clear g
 apply An;intro K20 d
 obtain ⟨o,h⟩:=Aw h
 obtain ⟨t,a,i⟩:=Xb w0 a o
 refine O6 0 (by decide) ?_
 refine rk 2 [2] hs ?_
 refine N6 [false] _ (i _ _) (hv hs) ?_;rintro _ _ ⟨rfl,rfl⟩
 refine ne hs d ?_
 clear d
 refine ZM 2 (by first | rfl | (simp only [VW,List.length_set];rfl)) a false (.inr rfl) (by decide) ((JW (f:=C0) (sz:=1) (fun _=>by simp +decide only [go_sem]) _)) (Zu (f:=C0) (fun _=>rfl) _) (fun s a=>?_)
 simp +decide only [go_sem,Nat.reduceAdd,List.set_cons_zero,List.set_cons_succ]
 exact rt h hs b a
def G0 (n:Nat)  (b:List ByteArray):Option ((List ByteArray)) :=
 if b.length<4611686018427387904 then
  if (J2 b).length<4611686018427387904 then
   some (JQ (J2 b))
  else none
 else none
def ES (n:Nat) (y:List (ByteArray × Ex)):Nat→(List ByteArray)→Int→Option ((List ByteArray))
 | 0,_,_=>none
 | m+1,g,b =>
  if decide (b<(y.length:Int)) then
   (Cj y b).bind fun q =>
   (L2 n q.2).bind fun h =>
   if (g.length+h.length)*16≤140737488355328∧g.length+h.length≤4611686018427387904 then
    if Bg (b+1) then
     (ES n y m) (g++h) (b+1)
    else none
   else none
  else
   G0 n g
def Db (n:Nat) (b:List (ByteArray × Ex)):Option ((List ByteArray)) :=
 ES n b n ([]) 0
theorem OC (w0:World) (hE:JX w0) (hM:Kp w0) (hP:Pow10 w0) (hT:Lib.Utf8Tabs 2 3 w0) (n:Nat) (B:Ao) (Rw:Av) (L:As) (a0:List (ByteArray × Ex)) (r:(List ByteArray)) (h:Db n a0=some r) :
  ACalls Tryz.prog w0 69 [.agg ([.list (a0.map Bd) .none])] ⟨B,Rw,L⟩ fun x st=>x = .list (r.map C0) .none∧st=⟨B,Rw,L⟩:=by
 rw [Db] at h
 refine hd [.tmp 2] Tryz.func69 Tryz.ntmps69 fun M0 W0 hN G F k hu d hs=>?_
 simp only [AA]
 refine rg [1] hs ?_
 refine rg [1,3] hs ?_
 refine AB (fun e st=>∃ (c:List ByteArray) (i:VO) (Xk4:Ao) (Rk4:Av),e=[(3,true,OV i c.length)]∧st=⟨B++([[.list (a0.map Bd) .none]]++Xk4),Rk4,L⟩∧Owns Rw Rk4 [] .none [(i,1,c.flatMap fun x=>(C0 x).cells)]∧G0 n c=some r) ?_ ?_
 ·intro K5 ad
  refine rg [3,7,8,9] hs ?_
  apply Ar
  refine ZbE 3 rfl ?_
  refine LR (Du [3,7,8,9] _) ?_ (D2 _ _);simp +decide only [go_sem,Nat.reduceAdd]
  have d:=d.nilV 1
  refine AC (fun m e st=>∃ (a:List ByteArray) (g:Int) (b:VO) (Xl7:Ao) (Rl7:Av),e=[(3,true,OV b a.length),(7,true,.list (a0.map Bd) .none),(8,true,Am (a0.length:Int)),(9,true,Am g)]∧st=⟨B++([[.list (a0.map Bd) .none]]++Xl7),Rl7,L⟩∧Owns Rw Rl7 [] .none [(b,1,a.flatMap fun x=>(C0 x).cells)]∧ES n a0 m a g=some r) n ⟨([]),0,.nil,([]),Rw,ef hs,ef hs,Owns.eqV (d) fn_,h⟩ ?_
  rintro ml7 e st ⟨a,g,b,Xl7,Rl7,rfl,rfl,d,h⟩ Ul7 Vl7
  cases ml7 with
  | zero=>cases h
  | succ ml7 =>
  rw [ES] at h
  have C:=d.underV
  simp only [List.mem_cons,List.not_mem_nil,or_false,forall_eq_or_imp,forall_eq] at C
  refine A1 hN G F rfl k d ow ow ?_ (vu @SS)
  refine rg [3,7,8,9,10] hs ?_
  apply An;intro K10 q
  refine B6 h hs ?_ ?_<;>intro hs h
  rotate_left
  ·refine sx [3] hs ad ?_
   exact ⟨a,b,([]),Rl7,ef hs,ef hs,Owns.eqV (d) fn_,h⟩
  refine sk [3,7,8,9] hs q ?_
  clear q
  apply An;intro K12 t
  apply Ar
  obtain ⟨z,J,h⟩:=bind_some h
  obtain ⟨ab,aa,D⟩:=Bl J
  have v:=Bn (f:=Bd) D
  have hs:=Ae v hs
  refine rg [3,5,7,8,9] hs ?_
  obtain ⟨j,H,h⟩:=bind_some h
  obtain ⟨o,h⟩:=Aw h
  obtain ⟨Z,l,d,E⟩:=d.appendV (P:=Tryz.prog) (n:=a.length) (m:=j.length) Qf (by rw [NJ];rfl) (by decide) ((JW (f:=C0) (sz:=1) (fun _=>by simp +decide only [go_sem]) _)) o.1 o.2 (j.map C0) (by rw [List.length_map]) ((a++j).flatMap fun x=>(C0 x).cells) (Zgf a j)
  have K:(a++j).length=a.length+j.length:=List.length_append
  have hs:=Ae E hs
  have hs:=Ae K hs
  refine rk 2 [3,7,8,9] hs ?_
  refine Ax _ (Uh w0 hE hM hP hT n _ _ _ z.2 _ H) (hv hs) ?_
  refine ne hs t ?_
  clear t
  obtain ⟨ae,h⟩:=Aw h
  refine rl [3,7,8,9] hs (fun e s=>Vl7 ml7 e s (Nat.lt_succ_self _)) ?_
  exact ⟨(a++j),(g+1),Z,([.val (.string z.1)::(z.2.cs)]),l,ef hs,ef hs,Owns.eqV (d) fn_,h⟩
 ·clear h;rintro e st ⟨c,i,Xk4,Rk4,rfl,rfl,d,h⟩
  rw [G0] at h
  have C:=d.underV
  simp only [List.mem_cons,List.not_mem_nil,or_false,forall_eq_or_imp,forall_eq] at C
  refine A1 hN G F rfl k d ow ow ?_ (vu @SS)
  apply An;intro K22 u
  obtain ⟨Q,h⟩:=Aw h
  obtain ⟨V,d,w⟩:=Xr w0 d Q
  have O:=LU c
  refine O6 0 (by decide) ?_
  have hs:=Ae O hs
  refine rk 2 [3] hs ?_
  refine N6 [false] _ (w _ _) (hv hs) ?_;rintro _ _ ⟨rfl,rfl⟩
  refine ne hs u ?_
  clear u
  apply An;intro K27 p
  obtain ⟨N,h⟩:=Aw h
  obtain ⟨Y,d,y⟩:=Xb w0 d N
  refine O6 0 (by decide) ?_
  refine rk 2 [2] hs ?_
  refine N6 [false] _ (y _ _) (hv hs) ?_;rintro _ _ ⟨rfl,rfl⟩
  refine ne hs p ?_
  clear p
  refine ZM 2 (by first | rfl | (simp only [VW,List.length_set];rfl)) d false (.inr rfl) (by decide) ((JW (f:=C0) (sz:=1) (fun _=>by simp +decide only [go_sem]) _)) (Zu (f:=C0) (fun _=>rfl) _) (fun U d=>?_)
  simp +decide only [go_sem,Nat.reduceAdd,List.set_cons_zero,List.set_cons_succ]
  exact rt h hs k d
def EP (n:Nat)  : Option Int :=
 some ((-1))
def Bj (n:Nat) (h:List ByteArray) (y:ByteArray→Option Bool):Nat→Int→Option Int
 | 0,_=>none
 | m+1,b =>
  if decide (b<(h.length:Int)) then
   (Cj h b).bind fun q =>
   (y q).bind fun g =>
   if g then
    some (b)
   else
    if Bg (b+1) then
     (Bj n h y m) (b+1)
    else none
  else
   EP n 
def DI (n:Nat) (b:List ByteArray) (g:ByteArray→Option Bool):Option Int :=
 Bj n b g n 0
theorem MI (w0:World) (n:Nat) (B:Ao) (Rw:Av) (L:As) (a0:List ByteArray) (fa1:FuncId) (ca1:List AV) (a1:ByteArray→Option Bool) (ha1:∀ (x0:ByteArray) r,a1 x0=some r→∀ B' rows,B <+: B'→Rw <+: rows→ACalls Tryz.prog w0 fa1 ([.val (.string x0)]++ca1) ⟨B',rows,L⟩ fun v s=>v = .val (.bool r)∧s=⟨B',rows,L⟩) (r:Int) (h:DI n a0 a1=some r) :
  ACalls Tryz.prog w0 183 [.list (a0.map C0) .none,.clo fa1 ca1] ⟨B,Rw,L⟩ fun x st=>x=Am r∧st=⟨B,Rw,L⟩:=by
 rw [DI] at h
 refine hd [.tmp 4] Tryz.func183 Tryz.ntmps183 fun M0 W0 k i g b l f hs=>?_
 simp only [AA]
 have c:=BJ (l (.clo fa1 ca1) (by simp))
 refine rg [0,1] hs ?_
 refine AB (fun e st=>Ck e st B Rw L [] [] [] (EP n  = some r)) ?_ ?_
 ·intro K4 j
  refine rg [0,1,7,8] hs ?_
  apply Ar
  refine AC (fun m e st=>∃ (d:Int),Ck e st B Rw L [(0,true,.list (a0.map C0) .none),(1,true,.clo fa1 ca1),(7,true,Am (a0.length:Int)),(8,true,Am d)] [] [] (Bj n a0 a1 m d=some r)) n ⟨0,([]),Rw,ef hs,ef hs,f,h⟩ ?_
  rintro ml6 e st ⟨d,Xl6,Rl6,rfl,rfl,f,h⟩ Ul6 Vl6
  cases ml6 with
  | zero=>cases h
  | succ ml6 =>
  rw [Bj] at h
  refine A1 k i g rfl b f (LI c f) (LI c f) ?_
  exact go (tg (a:=([0,1,7,8,9],([0,1,7,8],[0,1,5,7,8],[0,1,5,7,8,16],([4],()),[0,1,7,8],[0,1,7,8],()),[],()))) h hs k i g b f (q1 ha1) (q2 j (fun e s=>Vl6 ml6 e s (Nat.lt_succ_self _)))
 ·clear h;rintro e st ⟨Xk3,Rk3,rfl,rfl,f,h⟩
  rw [EP] at h
  refine A1 k i g rfl b f (LI c f) (LI c f) ?_
  refine rg [4] hs ?_
  exact rt h hs b f
def BN (n:Nat) (b:List ByteArray) (g:ByteArray→Option Bool):Option Bool :=
 (DI n b g).bind fun h =>
 some (decide (0≤h))
theorem Kt (w0:World) (n:Nat) (B:Ao) (Rw:Av) (L:As) (a0:List ByteArray) (fa1:FuncId) (ca1:List AV) (a1:ByteArray→Option Bool) (ha1:∀ (x0:ByteArray) r,a1 x0=some r→∀ B' rows,B <+: B'→Rw <+: rows→ACalls Tryz.prog w0 fa1 ([.val (.string x0)]++ca1) ⟨B',rows,L⟩ fun v s=>v = .val (.bool r)∧s=⟨B',rows,L⟩) (r:Bool) (h:BN n a0 a1=some r) :
  ACalls Tryz.prog w0 181 [.list (a0.map C0) .none,.clo fa1 ca1] ⟨B,Rw,L⟩ fun x st=>x = .val (.bool r)∧st=⟨B,Rw,L⟩:=by
 rw [BN] at h
 refine hd [.tmp 4] Tryz.func181 Tryz.ntmps181 fun M0 W0 o j i b l g hs=>?_
 simp only [AA]
 have e:=BJ (l (.clo fa1 ca1) (by simp))
 refine rg [0,1] hs ?_
 obtain ⟨m,f,h⟩:=bind_some h
 refine rc 2 [4] hs ?_;intro K2 c
 refine Ax _ (MI w0 n _ _ _ a0 fa1 ca1 a1 (fun x0 r k d a q1 q2=>ha1 x0 r k d a (List.IsPrefix.trans px q1) (g.pre.trans q2)) _ f) (hv hs) ?_
 refine ne hs c ?_
 clear c
 exact rt h hs b g
theorem Zcb (n:Nat) (l:List Part) (f:Part→Option Bool) (p:Part→Bool) (hf:∀ x∈l,f x=some (p x)) (hl:l.length≤1000000000):∀ (k m i:Nat),i+k=l.length→k<m→BC n l f m i=some (Oh p l i)
 | k,0,i,_,h=>absurd h (Nat.not_lt_zero _)
 | 0,m+1,i,hi,_=>by
  rw [BC,AU,Ac,Ju p l i (by omega)]
  rfl
 | k+1,m+1,i,hi,hm=>by
  have a:i<l.length:=by omega
  rw [BC,AU,Ah a,H3 p l i a]
  simp only [if_true,AN a,Af,hf _ (List.getElem_mem a)]
  by_cases h:p l[i]=true
  ·rw [Ai h,Ai h]
  ·rw [Aj h,Aj h,Ai (AW (by omega))]
   exact Zcb n l f p hf hl k m (i+1) (by omega) (by omega)
theorem Zbo (n:Nat) (l:List ByteArray) (f:ByteArray→Option Bool) (p:ByteArray→Bool) (hf:∀ x∈l,f x=some (p x)) (hl:l.length≤1000000000):∀ (k m i:Nat),i+k=l.length→k<m→Bj n l f m i=some (Oh p l i)
 | k,0,i,_,h=>absurd h (Nat.not_lt_zero _)
 | 0,m+1,i,hi,_=>by
  rw [Bj,AU,Ac,Ju p l i (by omega)]
  rfl
 | k+1,m+1,i,hi,hm=>by
  have a:i<l.length:=by omega
  rw [Bj,AU,Ah a,H3 p l i a]
  simp only [if_true,AN a,Af,hf _ (List.getElem_mem a)]
  by_cases h:p l[i]=true
  ·rw [Ai h,Ai h]
  ·rw [Aj h,Aj h,Ai (AW (by omega))]
   exact Zbo n l f p hf hl k m (i+1) (by omega) (by omega)
theorem Vy (n:Nat) (l:List Part) (f:Part→Option Bool) (p:Part→Bool) (hf:∀ x∈l,f x=some (p x)) (hl:l.length≤1000000000) (hn:l.length<n):A3 n l f=some (l.any p):=by
 have e:EA n l f=some (Oh p l 0):=Zcb n l f p hf hl l.length n 0 (by omega) hn
 rw [A3,e,Af,LY]
theorem VJ (n:Nat) (l:List ByteArray) (f:ByteArray→Option Bool) (p:ByteArray→Bool) (hf:∀ x∈l,f x=some (p x)) (hl:l.length≤1000000000) (hn:l.length<n):BN n l f=some (l.any p):=by
 have e:DI n l f=some (Oh p l 0):=Zbo n l f p hf hl l.length n 0 (by omega) hn
 rw [BN,e,Af,LY]
def Ks (f:Part→Part→Bool):List Part→List Part→Bool
 | x::a,y::b=>f x y&&Ks f a b
 | _,_=>true
theorem PI (f:Part→Part→Bool) (a:List Part):Ks f a []=true:=by cases a<;>rfl
theorem UZ (f:Part→Part→Bool):∀ (b a:List Part),Ks f (a.take b.length) b=Ks f a b
 | [],a=>by rw [PI,PI]
 | y::b,[]=>rfl
 | y::b,x::a=>by rw [List.length_cons,List.take_succ_cons,Ks,Ks,UZ f b a]
theorem U6 (f:Part→Part→Bool) {a b:List Part} {i:Nat} (ha:i<a.length) (hb:i<b.length):Ks f (a.drop i) (b.drop i)=(f a[i] b[i]&&Ks f (a.drop (i+1)) (b.drop (i+1))):=by
 rw [List.drop_eq_getElem_cons ha,List.drop_eq_getElem_cons hb,Ks]
theorem UP (f:Part→Part→Bool) {a b:List Part} {i:Nat} (hb:a.length≤i):Ks f (a.drop i) (b.drop i)=true:=by
 rw [List.drop_eq_nil_of_le hb];rfl
def pEq (x y:Part):Bool:=decide (x.kind=y.kind)&&(decide (x.index=y.index)&&(GP x.name y.name))
theorem ZL (n:Nat) (a b:List Part) (h:a.length=b.length) (hl:a.length≤1000000):∀ (k m i:Nat),i+k=a.length→k<m→B9 n a b m i=some (Ks pEq (a.drop i) (b.drop i))
 | k,0,i,_,h=>absurd h (Nat.not_lt_zero _)
 | 0,m+1,i,hi,_=>by
  rw [B9,AU,Ac,Aj (by decide),Gp,UP _ (by omega)]
 | k+1,m+1,i,hi,hm=>by
  have d:i<a.length:=by omega
  have c:i<b.length:=by omega
  have ih:=ZL n a b h hl k m (i+1) (by omega) (by omega)
  rw [B9,AU,Ah d,Ai rfl,AN d,Af,AN c,Af,U6 _ d c]
  show (if (!pEq a[i] b[i])=true then _ else _)=_
  cases pEq a[i] b[i] with
  | false=>rfl
  | true =>
   rw [Aj (by decide),Ai (AW (by omega)),Bool.true_and]
   exact ih
theorem ZgQ (n:Nat) (a b:List Part) (h:a.length=b.length) (hl:a.length≤1000000) (hn:a.length<n):DW n a b=some (Ks pEq a b):=by
 rw [DW,Ad,Aj (by decide)]
 have:=ZL n a b h hl a.length n 0 (by omega) hn
 rw [List.drop_zero,List.drop_zero] at this
 exact this
def Ws (l f:List Part):Bool:=decide (f.length≤l.length)&&Ks pEq l f
theorem PR {α:Type} (p:α→Bool) (l:List α):∀ (k j:Nat),j+k=l.length→(l.drop j).find? p=Cj l (Oh p l j)
 | 0,j,h=>by rw [Ju p l j (by omega),List.drop_eq_nil_of_le (by omega)];rfl
 | k+1,j,h=>by
  have a:j<l.length:=by omega
  rw [H3 p l j a,List.drop_eq_getElem_cons a,List.find?_cons]
  cases hp:p l[j] with
  | true=>rw [Ai rfl,AN a]
  | false=>rw [Aj (by decide)];exact PR p l k (j+1) (by omega)
theorem XT {α:Type} (p:α→Bool) (l:List α):l.find? p=Cj l (Oh p l 0):=PR p l l.length 0 (by omega)
def KX (t:Ty) (w:ByteArray):Option TF:=t.fields.find? fun x=>GP x.2.1 w
theorem SZ {t:Ty} {w:ByteArray} {p:TF} (h:KX t w=some p):p∈t.fields∧p.2.1=w:=⟨List.mem_of_find?_eq_some h,(Re _ _).1 (List.find?_some (p:=fun x:TF=>GP x.2.1 w) h)⟩
def MZ:Nat→Ty→Vl→Bool
 | 0,_,_=>false
 | d+1,t,v =>
  if t.kind≠v.kind then false
  else if t.kind=2∨t.kind=6∨t.kind=7 then decide (t.min≤v.int)&&decide (v.int≤t.max)
  else if t.kind=3 then decide (v.scale=t.scale)&&(decide (t.min≤v.int)&&decide (v.int≤t.max))
  else if t.kind=4 then (t.words.any fun x=>GP x v.text)||(decide ((t.words.length:Int)=0)&&Xo t v.text.size)
  else if t.kind=5 then Xo t v.text.size
  else if t.kind=8 then (v.list.all fun x=>t.elem.all fun e=>MZ d e x)&&Xo t v.list.length
  else if t.kind=10 then match KX t v.text with
   | some p=>v.list.all fun x=>MZ d p.2.2.2.1 x
   | none=>false
  else if t.kind=9 then (v.fields.all fun q=>match KX t q.1 with
   | some p=>MZ d p.2.2.2.1 q.2
   | none=>false) && !(t.fields.any (Zbw v))
  else true
theorem Ty.depth_elem {t x:Ty} (hx:x∈t.elem):x.depth<t.depth:=by
 have:=t.depth_eq
 have:=(Iw t.elem (GT t.elem)).1 (Nat.le_refl _) x hx
 omega
theorem Ty.depth_field {t:Ty} {p:TF} (hx:p∈t.fields):p.2.2.2.1.depth<t.depth:=by
 have:=t.depth_eq
 have:=(Hr t.fields (E2 t.fields)).1 (Nat.le_refl _) p hx
 omega
theorem Zan {v:Vl} (gv:v.Good) (vk:v.kind=10):∃ x,v.list=[x]:=by
 obtain ⟨_,a⟩:=UA (Ql gv)
 have q:=Ql gv
 rw [EX] at q
 by_cases p1:EW v=true
 ·rw [Ai p1] at q;exact absurd q (by decide)
 rw [Aj p1,Aa,Aj a,Aa,Aa,Aa,Aa,Aa,Aa,Aa,Aa,Aa] at q
 by_cases p2:EK v.text=true
 ·rw [Ai p2] at q
  by_cases p3:v.list.length=0
  ·rw [Ai p3] at q;exact absurd q (by decide)
  rw [Aj p3] at q
  by_cases p4:1<v.list.length
  ·rw [Ai p4] at q;exact absurd q (by decide)
  exact List.length_eq_one_iff.1 (by omega)
 ·rw [Aj p2] at q;exact absurd q (by decide)
def Zin (d:Nat) (t:Ty) (q:ByteArray × Vl):Bool:=match KX t q.1 with
 | some p=>MZ d p.2.2.2.1 q.2
 | none=>false
inductive Ty.Fine:Nat→Ty→Prop
 | mk (d:Nat) (t:Ty) (own:PK t=0) (he:∀ x∈t.elem,Ty.Fine d x) (hf:∀ p∈t.fields,Ty.Fine d p.2.2.2.1) (hd:∀ p∈t.fields,∀ v∈p.2.2.2.2,TM v=0∧MZ 12 p.2.2.2.1 v=true):Ty.Fine (d+1) t
theorem Ty.Fine.depth:∀ (d:Nat) (t:Ty),t.Fine d→t.depth≤d
 | 0,t,h=>by cases h
 | d+1,t,h=>by
  cases h with
  | mk _ _ own he hf hd =>
   have b:=(Iw t.elem d).2 fun x a=>Ty.Fine.depth d x (he x a)
   have c:=(Hr t.fields d).2 fun x a=>Ty.Fine.depth d _ (hf x a)
   have:=t.depth_eq
   omega
theorem Ty.Fine.own {d:Nat} {t:Ty} (h:t.Fine d):PK t=0:=by cases h with | mk _ _ a _ _ _=>exact a
theorem Ty.Fine.good:∀ {d:Nat} {t:Ty},t.Fine d→t.Good
 | 0,t,h=>by cases h
 | d+1,t,h=>by
  cases h with
  | mk _ _ own he hf hd=>exact .mk t own (fun x a=>(he x a).good) fun p b=>(hf p b).good
theorem Ty.Fine.elem {d:Nat} {t x:Ty} (h:t.Fine (d+1)) (hx:x∈t.elem):x.Fine d:=by cases h with | mk _ _ _ a _ _=>exact a x hx
theorem Ty.Fine.field {d:Nat} {t:Ty} {p:TF} (h:t.Fine (d+1)) (hx:p∈t.fields):p.2.2.2.1.Fine d:=by cases h with | mk _ _ _ _ a _=>exact a p hx
theorem WS:∀ l:List Ty,Fh l=(l.map Ty.size).sum
 | []=>rfl
 | v::r=>by simp [Fh,WS r]
theorem Vf:∀ l:List TF,DD l=(l.map fun p=>p.2.2.2.1.size).sum
 | []=>rfl
 | (_,_,_,v,_)::r=>by simp [DD,Vf r]
theorem YX (t:Ty):((Ir t).map Ty.size).sum<t.size:=by
 have c:=t.size_eq
 unfold Ir
 split
 ·rw [←WS];omega
 ·split
  ·rw [List.map_map]
   have:=Vf t.fields
   have e:(t.fields.map (Ty.size∘fun p=>p.2.2.2.1)).sum=DD t.fields:=this.symm
   omega
  ·simp;omega
def BB (t:Ty):List (Ty × Part) :=
 if t.kind=8 then t.elem.map fun e=>(e,Part.mk 3 0 ⟨#[]⟩)
 else if t.kind=9 then t.fields.map fun f=>(f.2.2.2.1,Part.mk 1 0 f.2.1)
 else if t.kind=10 then t.fields.map fun f=>(f.2.2.2.1,Part.mk 4 0 f.2.1) else []
theorem OR (t:Ty):(BB t).map Prod.fst=Ir t:=by
 unfold BB Ir
 by_cases h8:t.kind=8
 ·rw [Ai h8,Ai h8,List.map_map];exact List.map_id _
 rw [Aj h8,Aj h8]
 by_cases h9:t.kind=9
 ·rw [Ai h9,Ai (.inl h9),List.map_map];rfl
 rw [Aj h9]
 by_cases h10:t.kind=10
 ·rw [Ai h10,Ai (.inr h10),List.map_map];rfl
 rw [Aj h10,Aa];rfl
theorem Oq (t:Ty):(BB t).length=(Ir t).length:=by rw [←OR,List.length_map]
def lvs:Nat→Ty→List Part→List (List Part)
 | 0,_,_=>[]
 | n+1,t,b=>if (BB t).length=0 then [b] else (BB t).flatMap fun q=>lvs n q.1 (b++[q.2])
theorem WJ {t:Ty} {q:Ty × Part} (h:q∈BB t):q.1.size<t.size:=by
 unfold BB at h
 split at h
 ·obtain ⟨e,a,rfl⟩:=List.mem_map.1 h;exact t.elem_size e a
 ·split at h
  ·obtain ⟨e,a,rfl⟩:=List.mem_map.1 h;exact t.field_size e a
  ·split at h
   ·obtain ⟨e,a,rfl⟩:=List.mem_map.1 h;exact t.field_size e a
   ·simp at h
theorem PD {t:Ty} {q:Ty × Part} (h:q∈BB t):q.1.depth<t.depth:=by
 have hd:=t.depth_eq
 have c:=(Iw t.elem (GT t.elem)).1 (Nat.le_refl _)
 have b:=(Hr t.fields (E2 t.fields)).1 (Nat.le_refl _)
 unfold BB at h
 split at h
 ·obtain ⟨e,a,rfl⟩:=List.mem_map.1 h;have:=c e a;simp only;omega
 ·split at h
  ·obtain ⟨e,a,rfl⟩:=List.mem_map.1 h;have:=b e a;simp only;omega
  ·split at h
   ·obtain ⟨e,a,rfl⟩:=List.mem_map.1 h;have:=b e a;simp only;omega
   ·simp at h
theorem WG {t:Ty} (ht:t.small) {q:Ty × Part} (h:q∈BB t):q.1.small:=by
 unfold BB at h
 split at h
 ·obtain ⟨e,a,rfl⟩:=List.mem_map.1 h;exact Ty.small_elem ht a
 ·split at h
  ·obtain ⟨e,a,rfl⟩:=List.mem_map.1 h;exact Ty.small_field ht a
  ·split at h
   ·obtain ⟨e,a,rfl⟩:=List.mem_map.1 h;exact Ty.small_field ht a
   ·simp at h
theorem QN {t:Ty} (ht:t.Good) {q:Ty × Part} (h:q∈BB t):q.1.Good:=by
 unfold BB at h
 split at h
 ·obtain ⟨e,a,rfl⟩:=List.mem_map.1 h;exact Le ht a
 ·split at h
  ·obtain ⟨e,a,rfl⟩:=List.mem_map.1 h;exact FI ht a
  ·split at h
   ·obtain ⟨e,a,rfl⟩:=List.mem_map.1 h;exact FI ht a
   ·simp at h
theorem OO (t:Ty):((BB t).map fun q=>q.1.size).sum<t.size:=by
 have:=YX t
 rw [←OR,List.map_map] at this
 exact this
theorem Vg {α β:Type} (f:α→List β) (g:α→Nat):∀ l:List α,(∀ x∈l,(f x).length≤g x)→(l.flatMap f).length≤(l.map g).sum
 | [],_=>by simp
 | x::l,h=>by
  have b:=h x (List.mem_cons_self ..)
  have c:=Vg f g l fun y a=>h y (List.mem_cons_of_mem _ a)
  rw [List.flatMap_cons,List.length_append,List.map_cons,List.sum_cons]
  omega
theorem Wl:∀ (n:Nat) (t:Ty) (b:List Part),(lvs n t b).length≤t.size
 | 0,t,_=>by simp [lvs]
 | n+1,t,b=>by
  have a:=t.size_pos
  rw [lvs]
  split
  ·simp only [List.length_cons,List.length_nil];omega
  ·have:=Vg (fun q:Ty × Part=>lvs n q.1 (b++[q.2])) (fun q=>q.1.size) (BB t) fun q _=>Wl n q.1 _
   have:=OO t
   omega
inductive Leads:Ty→List Part→Ty→Prop
 | nil (t:Ty):Leads t [] t
 | cons {t x:Ty} {q:Ty × Part} {l:List Part} (h:q∈BB t) (k:Leads q.1 l x):Leads t (q.2::l) x
theorem U8:∀ (n:Nat) (t:Ty) (b l:List Part),l∈lvs n t b→∃ l' x,l=b++l'∧Leads t l' x∧BB x=[]∧l'.length<t.depth
 | 0,_,_,_,h=>by simp [lvs] at h
 | n+1,t,b,l,h=>by
  rw [lvs] at h
  split at h
  ·rename_i h0
   rw [List.mem_singleton] at h
   exact ⟨[],t,by rw [h,List.append_nil],.nil t,List.length_eq_zero_iff.1 h0,by have:=t.depth_eq;simp only [List.length_nil];omega⟩
  ·obtain ⟨q,a,c⟩:=List.mem_flatMap.1 h
   obtain ⟨l',x,e,d,f,g⟩:=U8 n q.1 _ _ c
   have:=PD a
   exact ⟨q.2::l',x,by rw [e,List.append_assoc];rfl,.cons a d,f,by simp only [List.length_cons];omega⟩
theorem Wy {k i:Int} {s:ByteArray} (hk:Bg k) (hi:Bg i) (hs:s.size≤maxLen):(Part.mk k i s).wf:=⟨hk,hi,hs⟩
theorem Leads.wf {t x:Ty} {l:List Part} (h:Leads t l x) (tg:t.Good):∀ p∈l,p.wf:=by
 induction h with
 | nil=>simp
 | @cons t x q l h k ih =>
  intro p hp
  rcases List.mem_cons.1 hp with rfl | hp
  ·have own:=tg.own
   have b:∀ f∈t.fields,f.2.1.size≤32:=fun f c=>S7 (own.each f c).1
   unfold BB at h
   split at h
   ·obtain ⟨e,a,rfl⟩:=List.mem_map.1 h;exact Wy (by unfold Bg;omega) (by unfold Bg;omega) (by decide)
   ·split at h
    ·obtain ⟨e,a,rfl⟩:=List.mem_map.1 h;exact Wy (by unfold Bg;omega) (by unfold Bg;omega) (Nat.le_trans (b e a) (by decide))
    ·split at h
     ·obtain ⟨e,a,rfl⟩:=List.mem_map.1 h;exact Wy (by unfold Bg;omega) (by unfold Bg;omega) (Nat.le_trans (b e a) (by decide))
     ·simp at h
  ·exact ih (QN tg h) p hp
theorem WL (n:Nat) (hn:25≤n) (l:List Part) (hw:∀ p∈l,p.wf) (hl:l.length≤20):∃ b:Bool,Ic n l=some (if b=true then 0 else 3):=by
 rw [Ic]
 by_cases h:l.length<1∨16<l.length
 ·exact ⟨false,by rw [Ai (by simp only [Bool.or_eq_true,decide_eq_true_eq];omega)];rfl⟩
 rw [Aj (by simp only [Bool.or_eq_true,decide_eq_true_eq];omega)]
 match l,h,hw,hl with
 | [],h,_,_=>exact absurd (Or.inl (by simp)) h
 | p::r,h,hw,hl =>
 rw [List.length_cons] at hl
 have c:Cj (p::r) 0=some p:=rfl
 rw [c,Af]
 by_cases h1:p.kind=1
 ·rw [Ah h1]
  simp only [Bool.not_true,Bool.false_eq_true,if_false]
  have a:EM n (p::r) n (-1) 0=_:=S3 n (p::r) hw (by rw [List.length_cons];omega) (p::r).length n 0 (-1) (by omega) (by rw [List.length_cons];omega) (by omega) (by omega)
  exact ⟨_,a⟩
 ·rw [Ag h1]
  exact ⟨false,rfl⟩
def Dz (rec:Ty→(List Part)→(List (List Part))→Option ((List (List Part)))) (n:Nat) (g:Int→(List (List Part))→Option ((List (List Part)))) (h:List Part) (b:Int) (q:Ty) (b2_k23_0:Int) (b2_k23_2:ByteArray) (pla2_k23:List (List Part)):Option ((List (List Part))) :=
 if h.length*32≤140737488355328 then
  if (h.length+1)*32≤140737488355328∧h.length+1≤4611686018427387904 then
   (rec q (h++([Part.mk b2_k23_0 0 b2_k23_2])) pla2_k23).bind fun y =>
   if Bg (b+1) then
    g (b+1) y
   else none
  else none
 else none
def BF (rec:Ty→(List Part)→(List (List Part))→Option ((List (List Part)))) (n:Nat) (q:Ty) (y:List Part) (g:(List Ty)):Nat→Int→(List (List Part))→Option ((List (List Part)))
 | 0,_,_=>none
 | m+1,b,pla2_l14 =>
  if decide (b<(g.length:Int)) then
   (Cj g b).bind fun h =>
   if decide (q.kind=9) then
    (Cj q.fields b).bind fun x28 =>
    Dz rec n (BF rec n q y g m) y b h 1 x28.2.1 pla2_l14
   else
    if decide (q.kind=10) then
     (Cj q.fields b).bind fun z =>
     Dz rec n (BF rec n q y g m) y b h 4 z.2.1 pla2_l14
    else
     Dz rec n (BF rec n q y g m) y b h 3 (⟨#[]⟩:ByteArray) pla2_l14
  else
   some (pla2_l14)
def Jy (rec:Ty→(List Part)→(List (List Part))→Option ((List (List Part)))) (n:Nat) (h:Ty) (q:List Part) (b:List (List Part)):Option ((List (List Part))) :=
 (Ik n h).bind fun y =>
 if decide ((y.length:Int)=0) then
  if q.length*32≤140737488355328 then
   if (b.length+1)*24≤140737488355328∧b.length+1≤4611686018427387904 then
    some (b++([q]))
   else none
  else none
 else
  (Ik n h).bind fun g =>
  BF rec n h q g n 0 b
def ER:Nat→Ty→(List Part)→(List (List Part))→Option ((List (List Part)))
 | 0,_,_,_=>none
 | n+1,b,g,h=>Jy (ER n) n b g h
def LK (w0:World) (F:Ty→(List Part)→(List (List Part))→Option ((List (List Part)))):Prop:=∀ (B:Ao) (Rw:Av) (L:As) (g:Ty) (h:List Part) (la2:Nat) (b:List (List Part)) (oa2:Ev.Own) (hla2:B[la2]? = some [.list (b.map (I8 AG)) oa2]) (hGa2:Owns Rw Rw [(1,b.length,oa2)] oa2) (la3:Nat) (hla3:B[la3]? = some [.clo 92 [.box la2 0,.box la3 0]]) (r:(List (List Part))),F g h b=some r→ACalls Tryz.prog w0 92 [.agg (g.cs),.list (h.map AG) .none,.box la2 0,.box la3 0] ⟨B,Rw,L⟩ fun x st=>x = .tup []∧∃ (R1:Av) (o1:Ev.Own),st=⟨(B.set la2 [.list (r.map (I8 AG)) o1]),R1,L⟩∧Owns Rw R1 [(1,r.length,o1)] oa2
theorem Q5 (w0:World) (rec:Ty→(List Part)→(List (List Part))→Option ((List (List Part)))) (ih:LK w0 rec) (n:Nat):LK w0 (Jy rec n):=by
 intro B Rw L a0 a1 H a2 ab g ak N c r h
 rw [Jy] at h
 refine ACalls.finG (E8 (rs:=[]) Tryz.func92 rfl rfl Tryz.ntmps92 (AY Tryz.func92 rfl (by decide)) (Nat.le_of_ble_eq_true rfl) ?_)
 intro M0 W0 hN K J E hu
 dsimp only at hN K J E hu
 simp only [AA]
 have D:=ak
 have hs:=ZbW
 have av:=(Ak.1 g).1
 have ar:=(Ak.1 c).1
 have b:H≠N:=fun q=>by have k:=g;rw [q,c] at k;cases k
 have hs:=Ae (Aq g) hs
 have hs:=Ae (Aq c) hs
 have hs:=Ae (A7 c b) hs
 refine rg [1,2,3,4] hs ?_
 apply An;intro K2 af
 obtain ⟨y4,a4,h⟩:=bind_some h
 refine rc 2 [1,2,3,4,12] hs ?_;intro K3 am
 refine Ax _ (OY w0 n _ _ _ a0 _ a4) (hv hs) ?_
 refine ne hs am ?_
 clear am
 refine B6 h hs ?_ ?_<;>intro hs h
 ·have x:=hs.1
  obtain ⟨ax,h⟩:=Aw h
  obtain ⟨aq,h⟩:=Aw h
  obtain ⟨o9,au,D,w⟩:=D.append (P:=Tryz.prog) VA (by rw [NP];rfl) (by decide) 1 aq.1 aq.2
  replace w:=fun (ys:List AV) B L o2=>w (a2.map (I8 AG)) ys B L o2 Ew
  replace w:=fun (y:AV) B L o2=>w [y] B L o2 Ew (by simp +decide only [go_sem,Nat.reduceAdd])
  try simp only [List.mem_singleton,List.mem_cons,List.not_mem_nil,or_false,forall_eq_or_imp,forall_eq,List.map_append,List.map_cons,List.map_nil,Fe,Fj,Fq,Eu,Eo,Ft,CO,DN,Fz,Ce,Cd,DG,DK,DO,Fg,DL,Fo] at w
  have hs:=Ae w hs
  apply An;intro K6 ae
  refine dk 4 2 1 [] hs PS ?_
  refine Ax _ (Qc w0 _ _ _ a1 ax) (hv hs) ?_
  refine dn hs ae ?_
  clear ae
  apply A0;simp +decide only [go_sem,Nat.reduceAdd,Aq g,Aq c,A7 c b,x,w]
  have hgt:=Option.some.inj h;subst hgt
  have hU:=D.unders
  simp only [List.mem_cons,List.not_mem_nil,or_false,forall_eq_or_imp,forall_eq] at hU
  refine YP D (CH (MH E D.len) ow) X9 ev ⟨?_,_,_,?_,(D.sub (List.sublist_append_left [_] _)).len1 Ew⟩
  all_goals first | rfl | (simp +decide only [go_sem,Nat.reduceAdd,Aq g,Aq c,A7 c b,x,w];done) | (simp +decide only [go_sem,Nat.reduceAdd,Vl.cs,Ty.cs,Aq g,Aq c,A7 c b,x,w];done)
 have x:=hs.1
 refine sk [1,3,4] hs af ?_
 clear af
 obtain ⟨F,ap,h⟩:=bind_some h
 refine rc 2 [1,3,4,19,20,21] hs ?_;intro K12 Y
 refine Ax _ (OY w0 n _ _ _ a0 _ ap) (hv hs) ?_
 refine ne hs Y ?_
 clear Y
 apply Ar
 refine AC (fun m e st=>∃ (t:Int) (z:List (List Part)) (C:Ev.Own) (Xl14:Ao) (Rl14:Av),e=[(1,true,.list (a1.map AG) .none),(3,true,.box N 0),(4,true,.box B.length 0),(19,true,.list (F.map IX) .none),(20,true,Am (F.length:Int)),(21,true,Am t)]∧st=⟨(B.set H ([.list (z.map (I8 AG)) C]))++([a0.cs]++Xl14),Rl14,L⟩∧Owns Rw Rl14 [(1,z.length,C)] ab∧BF rec n a0 a1 F m t z=some r) n ⟨0,a2,ab,([]),Rw,ef hs,ef hs,Owns.of_eq (D) Ew,h⟩ ?_
 rintro ml14 e st ⟨t,z,C,Xl14,Rl14,rfl,rfl,D,h⟩ Ul14 Vl14
 cases ml14 with
 | zero=>cases h
 | succ ml14 =>
 rw [BF] at h
 have hU:=D.unders
 simp only [List.mem_cons,List.not_mem_nil,or_false,forall_eq_or_imp,forall_eq] at hU
 refine NI hN K J X9 (CH (MH E D.len) ow) D ow ow ?_
 refine rg [1,3,4,19,20,21,22] hs ?_
 apply An;intro K16 U
 refine B6 h hs ?_ ?_<;>intro hs h
 rotate_left
 ·have p:=hs.1
  refine LR (Du [] _) ?_ (D2 _ _)
  apply I4;simp +decide only [go_sem,Nat.reduceAdd]
  (repeat' with_reducible apply Ae)<;>first | exact cl | skip
  have hgt:=Option.some.inj h;subst hgt
  have hU:=D.unders
  simp only [List.mem_cons,List.not_mem_nil,or_false,forall_eq_or_imp,forall_eq] at hU
  refine YP D (CH (MH E D.len) ow) X9 ev ⟨?_,_,_,?_,(D.sub (List.sublist_append_left [_] _)).len1 Ew⟩
  all_goals first | rfl | (simp +decide only [go_sem,Nat.reduceAdd,Aq g,Aq c,A7 c b,x,p];done) | (simp +decide only [go_sem,Nat.reduceAdd,Vl.cs,Ty.cs,Aq g,Aq c,A7 c b,x,p];done)
 have p:=hs.1
 refine sk [1,3,4,19,20,21] hs U ?_
 clear U
 apply An;intro K18 Z
 apply Ar
 obtain ⟨G,aj,h⟩:=bind_some h
 obtain ⟨a3,ay,ad⟩:=Bl aj
 have j:=Bn (f:=IX) ad
 have hs:=Ae j hs
 refine rg [1,3,4,6,7,19,20,21] hs ?_
 refine rg [1,3,4,6,7,8,19,20,21] hs ?_
 refine AB (fun e st=>∃ (o:Int) (l:ByteArray) (u:List (List Part)) (v:Ev.Own) (Xk23:Ao) (Rk23:Av),e=[(1,true,.list (a1.map AG) .none),(3,true,.box N 0),(4,true,.box B.length 0),(7,true,.box (B.length+1) 0),(8,true,.box (B.length+2) 0),(19,true,.list (F.map IX) .none),(20,true,Am (F.length:Int)),(21,true,Am t)]∧st=⟨(B.set H ([.list (u.map (I8 AG)) v]))++([a0.cs,G.cs,[Am o,Am 0,.val (.string l)]]++Xk23),Rk23,L⟩∧Owns Rw Rk23 [(1,u.length,v)] ab∧Dz rec n (BF rec n a0 a1 F ml14) a1 t G o l u=some r) ?_ ?_
 ·intro K24 ai
  exact go (tg (a:=([1,3,4,6,7,8,19,20,21,28],[1,3,4,6,7,8,19,20,21,28,29],([1,3,4,7,8,19,20,21],()),[1,3,4,6,7,8,19,20,21,38],([1,3,4,7,8,19,20,21],()),[1,3,4,7,8,19,20,21],()))) h hs hN K J E D trivial (q1 ai)
 ·clear h;rintro e st ⟨o,l,u,v,Xk23,Rk23,rfl,rfl,D,h⟩
  rw [Dz] at h
  have hU:=D.unders
  simp only [List.mem_cons,List.not_mem_nil,or_false,forall_eq_or_imp,forall_eq] at hU
  refine NI hN K J X9 (CH (MH E D.len) ow) D ow ow ?_
  obtain ⟨ao,h⟩:=Aw h
  have D:=D.clone 3 a1.length
  obtain ⟨Q,h⟩:=Aw h
  obtain ⟨az,aw,D,d⟩:=D.append (P:=Tryz.prog) Rk (by rw [NN];rfl) (by decide) 1 Q.1 Q.2
  replace d:=fun (ys:List AV) B L o2=>d (a1.map AG) ys B L o2 Ew
  replace d:=fun (y:AV) B L o2=>d [y] B L o2 Ew ev
  try simp only [List.mem_singleton,List.mem_cons,List.not_mem_nil,or_false,forall_eq_or_imp,forall_eq,List.map_append,List.map_cons,List.map_nil,Fe,Fj,Fq,Eu,Eo,Ft,CO,DN,Fz,Ce,Cd,DG,DK,DO,Fg,DL,Fo] at d
  have D:=D.swap (List.Perm.swap _ _ _)
  obtain ⟨ag,ah,h⟩:=bind_some h
  apply X3 PS [3,6,7] [1,3,4,19,20,21] kr (fun s=>∃ (X:Ao) (rows:Av) (aa:List AV),s=⟨(B.set H aa)++([a0.cs,G.cs,[Am o,Am 0,.val (.string l)]]++X),rows,L⟩) 4 (B.length+3)
  ·simp +decide only [go_sem,Nat.reduceAdd]
  ·rintro s ⟨X,rows,aa,rfl⟩
   refine ⟨1,?_⟩
   rw [Ap];simp +decide only [go_sem,Nat.reduceAdd,C6,Aq g,Aq c,A7 c b,x,p,j,d]
   (repeat' apply Ae)<;>first | rfl | exact cl
  ·refine Good.mk [3] kr ⟨[],_,_,by first | rfl | simp only [List.append_nil,List.nil_append]⟩ ?_ ?_
   ·intro h;exact absurd h (by decide)
   ·intro i hi;simp only [List.mem_cons,List.not_mem_nil,or_false] at hi
    subst hi
    ·apply Ci rfl rfl ev
     ·simp +decide only [go_sem,Nat.reduceAdd,Dw,Aq g,Aq c,A7 c b,x,p,j,d]
      have hs:=Ae d hs
      (repeat' with_reducible apply Ae)<;>first | exact Lx (HT w0 _ _ _ a1 ao) (hv hs) | rfl | exact cl
     ·simp +decide only [go_sem,Nat.reduceAdd,Aq g,Aq c,A7 c b,x,p,j,d]
      refine Good.mk [6] kr ⟨[],_,_,by first | rfl | simp only [List.append_nil,List.nil_append]⟩ ?_ ?_
      ·intro h;exact absurd h (by decide)
      ·intro i hi;simp only [List.mem_cons,List.not_mem_nil,or_false] at hi
       subst hi
       ·apply Ci rfl rfl ev
        ·simp +decide only [go_sem,Nat.reduceAdd,Dw,Aq g,Aq c,A7 c b,x,p,j,d]
         (repeat' apply Ae)<;>first | rfl | exact cl
        ·simp +decide only [go_sem,Nat.reduceAdd,Aq g,Aq c,A7 c b,x,p,j,d]
         refine Good.mk [7] kr ⟨[],_,_,by first | rfl | simp only [List.append_nil,List.nil_append]⟩ ?_ ?_
         ·intro h;exact absurd h (by decide)
         ·intro i hi;simp only [List.mem_cons,List.not_mem_nil,or_false] at hi
          subst hi
          ·apply Yd rfl rfl ev rfl
           ·simp +decide only [go_sem,Nat.reduceAdd,Aq g,Aq c,A7 c b,x,p,j,d]
           ·simp +decide only [go_sem,Nat.reduceAdd,Aq g,Aq c,A7 c b,x,p,j,d]
           ·simp +decide only [go_sem,Nat.reduceAdd,Aq g,Aq c,A7 c b,x,p,j,d]
            have hs:=Ae d hs
            exact (ih _ _ _ G (a1++([Part.mk o 0 l])) H u v (ef hs) D.enter N (ef hs) _ ah).pub (hv hs)
           ·rintro _ _ ⟨rfl,Rg39,V,rfl,O⟩
            have D:=D.call O
            simp +decide only [go_sem,Nat.reduceAdd,Aq g,Aq c,A7 c b,x,p,j,d]
            refine Good.mk [] kr ⟨[],_,_,by first | rfl | simp only [List.append_nil,List.nil_append]⟩ ?_ ?_
            ·intro _;refine ⟨_,_,NW [1,3,4,19,20,21] (by first | (simp +decide only [go_sem,Nat.reduceAdd,Aq g,Aq c,A7 c b,x,p,j,d];done) | (simp +decide only [go_sem,Nat.reduceAdd,Aq g,Aq c,A7 c b,x,p,j,d];rfl)),?_⟩
             simp +decide only [go_sem,Nat.reduceAdd,Aq g,Aq c,A7 c b,x,p,j,d]
             (repeat' apply Ae)<;>first | refine Z _ _ ?_ | exact cl
             clear Z
             obtain ⟨a5,h⟩:=Aw h
             have hs:=Ae d hs
             refine rl [1,3,4,19,20,21] hs (fun e s=>Vl14 ml14 e s (Nat.lt_succ_self _)) ?_
             exact ⟨(t+1),ag,V,([G.cs,[Am o,Am 0,.val (.string l)]]),Rg39,ef hs,ef hs,Owns.of_eq ((D).sub (List.sublist_append_left [(1,ag.length,V)] [(3,a1.length+1,az)])) Ew,h⟩
            ·intro i hi;cases hi
theorem Ol (w0:World):∀ n:Nat,LK w0 (ER n)
 | 0=>fun _ _ _ _ _ _ _ _ _ _ _ _ _ h=>(nomatch h)
 | n+1=>Q5 w0 (ER n) (Ol w0 n) n
theorem TA {α:Type} {l:List α} {k:Nat} {x:α} (h:l[k]? = some x):Cj l (k:Int)=some x:=by
 obtain ⟨a,rfl⟩:=Ak.1 h
 exact AN a
theorem ZaE {α:Type} (t:Ty) (i:Nat) {q:Ty × Part} (hq:(BB t)[i]? = some q) (K:Ty→Int→ByteArray→Option α) :
  ((Cj (Ir t) (i:Int)).bind fun x=>if decide (t.kind=9)=true then (Cj t.fields (i:Int)).bind fun f=>K x 1 f.2.1 else if decide (t.kind=10)=true then (Cj t.fields (i:Int)).bind fun f=>K x 4 f.2.1 else K x 3 ⟨#[]⟩)=K q.1 q.2.kind q.2.name∧q.2=Part.mk q.2.kind 0 q.2.name:=by
 have b:Cj (Ir t) (i:Int)=some q.1:=TA (by rw [←OR,List.getElem?_map,hq];rfl)
 rw [b,Af]
 unfold BB at hq
 by_cases h8:t.kind=8
 ·rw [Ai h8,List.getElem?_map] at hq
  obtain ⟨e,_,rfl⟩:=Option.map_eq_some_iff.1 hq
  rw [Ac,Ac]
  exact ⟨rfl,rfl⟩
 rw [Aj h8] at hq
 by_cases h9:t.kind=9
 ·rw [Ai h9,List.getElem?_map] at hq
  obtain ⟨e,a,rfl⟩:=Option.map_eq_some_iff.1 hq
  rw [Ah h9,Ai rfl,TA a,Af]
  exact ⟨rfl,rfl⟩
 rw [Aj h9] at hq
 by_cases h10:t.kind=10
 ·rw [Ai h10,List.getElem?_map] at hq
  obtain ⟨e,a,rfl⟩:=Option.map_eq_some_iff.1 hq
  rw [Ag h9,Aj (by decide),Ah h10,Ai rfl,TA a,Af]
  exact ⟨rfl,rfl⟩
 rw [Aj h10] at hq
 simp at hq
theorem ZS (rec:Ty→List Part→List (List Part)→Option (List (List Part))) (n:Nat) (t:Ty) (b:List Part) (hb:b.length≤100) (f:Ty × Part→List (List Part)) (hl:∀ q∈BB t,(f q).length≤q.1.size)
  (hr:∀ q∈BB t,∀ out:List (List Part),out.length+q.1.size≤100000→rec q.1 (b++[q.2]) out=some (out++f q)):∀ (k m i:Nat) (out:List (List Part)),i+k=(BB t).length→k<m→(BB t).length≤1000→out.length+(((BB t).drop i).map fun q=>q.1.size).sum≤100000 →
  BF rec n t b (Ir t) m i out=some (out++((BB t).drop i).flatMap f)
 | k,0,i,_,_,h,_,_=>absurd h (Nat.not_lt_zero _)
 | 0,m+1,i,out,hi,_,_,_=>by
  rw [BF,AU,Ag (by rw [←Oq];omega),Aj (by decide),List.drop_of_length_le (by omega),List.flatMap_nil,List.append_nil]
 | k+1,m+1,i,out,hi,hm,hi2,ho=>by
  have a:i<(BB t).length:=by omega
  have d:=List.getElem?_eq_getElem a
  obtain ⟨q,hqe⟩:∃ q,(BB t)[i]=q:=⟨_,rfl⟩
  have c:q∈BB t:=hqe▸List.getElem_mem a
  rw [List.drop_eq_getElem_cons a,hqe] at ho ⊢
  rw [List.map_cons,List.sum_cons] at ho
  rw [hqe] at d
  have g:=hr q c out (by omega)
  have l:=hl q c
  have ih:=ZS rec n t b hb f hl hr k m (i+1) (out++f q) (by omega) (by omega) hi2 (by rw [List.length_append];omega)
  obtain ⟨g1,g2⟩:=ZaE t i d (fun x e j=>Dz rec n (BF rec n t b (Ir t) m) b i x e j out)
  rw [BF,AU,Ah (by rw [←Oq];exact a),Ai rfl]
  refine g1.trans ?_
  rw [Dz,Ab,Ab]
  rw [←g2,g,Af,Ai (AW (by omega))]
  rw [show ((i:Int)+1)=((i+1:Nat):Int) from by omega,ih,List.flatMap_cons,List.append_assoc]
theorem QR:∀ (n:Nat) (t:Ty) (b:List Part) (out:List (List Part)),t.size<n→b.length+t.depth≤100→t.size≤1000→out.length+t.size≤100000→ER n t b out=some (out++lvs n t b)
 | 0,t,b,out,h,_,_,_=>absurd h (Nat.not_lt_zero _)
 | n+1,t,b,out,hn,hb,ht,ho=>by
  have g:=t.size_pos
  have i:=t.lens
  have hd:=t.depth_eq
  have d:(BB t).length<t.size:=by
   have:=OO t
   have f:(BB t).length≤((BB t).map fun q=>q.1.size).sum:=by
    generalize BB t=l
    induction l with
    | nil=>simp
    | cons x l ih =>
     have:=x.1.size_pos
     rw [List.map_cons,List.sum_cons,List.length_cons];omega
   omega
  rw [ER,Jy,Un n t (by omega) (by omega),Af,Af,lvs,←Oq]
  by_cases h0:(BB t).length=0
  ·rw [Ad,Ai rfl,Ai h0,Ab,Ab]
  ·rw [Ac,Aj (by decide),Aj h0]
   have:=ZS (ER n) n t b (by omega) (fun q=>lvs n q.1 (b++[q.2])) (fun q _=>Wl n q.1 _) (fun q e a c=>by
    have j:=WJ e
    have f:=PD e
    exact QR n q.1 (b++[q.2]) a (by omega) (by simp only [List.length_append,List.length_cons,List.length_nil];omega) (by omega) c) (BB t).length n 0 out (by omega) (by omega) (by omega) (by have:=OO t;rw [List.drop_zero];omega)
   rw [List.drop_zero] at this
   exact this
theorem Leads.small {t x:Ty} {l:List Part} (h:Leads t l x):t.small→x.small:=by
 induction h with
 | nil=>exact id
 | cons h _ ih=>exact fun a=>ih (WG a h)
theorem RE (n:Nat) (t:Ty) (w:ByteArray) (hn:t.size+1450000≤n) (ht:t.small) (hk:t.kind=9∨t.kind=10):Ih n t w=some ((KX t w).getD Yt,(KX t w).isSome):=by
 have c:Ih n t w=(GI n t (fun x=>some (GP x.2.1 w))).bind fun b=>some (b.1,b.2):=rfl
 have a:KX t w=Cj t.fields (Oh (fun x:TF=>GP x.2.1 w) t.fields 0):=XT _ _
 rw [c]
 rcases ZU n t (fun x=>GP x.2.1 w) hn ht with ⟨k1,k2,_⟩ | ⟨_,⟨q1,q2⟩ | ⟨j,hj,q1,q2⟩⟩
 ·omega
 ·rw [q2,a,q1];rfl
 ·rw [q2,a,q1,AN hj];rfl
theorem WM (rec:Ty→Vl→Option Bool) (d n:Nat) (t:Ty) (v:Vl) (hn:t.size+1450000≤n) (hn2:v.size<n) (hs:v.size≤1000000000) (ht:t.small) (tk:t.kind=9) (vk:v.kind=9)
  (hr:∀ p∈t.fields,∀ q∈v.fields,rec p.2.2.2.1 q.2=some (MZ d p.2.2.2.1 q.2)):∀ (k m i:Nat),i+k=v.fields.length→k<m→Hi rec n t v m i=some ((v.fields.drop i).all (Zin d t) && !(t.fields.any (Zbw v)))
 | k,0,i,_,h=>absurd h (Nat.not_lt_zero _)
 | 0,m+1,i,hi,_=>by
  have j:=t.lens.2
  have g:=ht.1
  have e:=Vw n t.fields (fun x=>JJ n x v) (Zbw v) (fun x _=>by
   obtain ⟨u,f⟩:=ZaK n v x.2.1 vk hs hn2
   rw [JJ,f];rfl) (by omega) (by omega)
  rw [Hi,AU,Ac,Aj (by decide),NZ,e,List.drop_eq_nil_of_le (by omega),List.all_nil,Bool.true_and];rfl
 | k+1,m+1,i,hi,hm=>by
  have a:i<v.fields.length:=by omega
  have b:=N1 v
  have ih:=WM rec d n t v hn hn2 hs ht tk vk hr k m (i+1) (by omega) (by omega)
  rw [Hi,AU,Ah a,Ai rfl,AN a,Af,RE n t _ hn ht (.inl tk),Af,List.drop_eq_getElem_cons a,List.all_cons,Zin]
  cases c:KX t v.fields[i].1 with
  | none=>rw [Ai (by rfl)];rfl
  | some p =>
   rw [Aj (by simp),Option.getD_some,hr _ (SZ c).1 _ (List.getElem_mem a),Af]
   simp only
   cases MZ d p.2.2.2.1 v.fields[i].2 with
   | false=>rfl
   | true =>
    rw [Aj (by decide),Ai (AW (by omega)),Bool.true_and]
    exact ih
theorem Rb:∀ (n d:Nat) (t:Ty) (v:Vl),t.size+1500000≤n→v.size+1500000≤n→v.size≤1000000000→t.small→t.Good→v.Good→t.depth≤d→IK n t v=some (MZ d t v)
 | 0,d,t,v,h,_,_,_,_,_,_=>by omega
 | n+1,0,t,v,_,_,_,_,_,_,hd=>by have:=t.depth_eq;omega
 | n+1,d+1,t,v,h1,h2,h3,ht,gt,gv,hd=>by
  obtain ⟨D,z,K⟩:=Qq (S9 gt)
  obtain ⟨_,H⟩:=UA (Ql gv)
  have J:=t.lens
  have C:=ht.1
  have F:=NU v
  have G:=(t.ok_eq.1 ht.2.2).1
  rw [IK,Rj,MZ]
  by_cases hk:v.kind=t.kind
  rotate_left
  ·rw [Ag hk,Ai (fun q=>hk q.symm)];rfl
  rw [Ah hk,Aj (show ¬ (t.kind≠v.kind) from fun q=>q hk.symm)]
  simp only [Bool.not_true,Bool.false_eq_true,if_false]
  have i:t.kind≠3→v.scale=t.scale:=fun q=>by rw [Ty.scale0 z q,Vl.scale0 H (by rw [hk];exact q)]
  rcases Ha D with tk | tk | tk | tk | tk | tk | tk | tk | tk | tk
  ·simp [tk,BZ,Pl]
  ·have q:=i (by omega);simp [tk,BZ,q]
  ·simp [tk,BZ,Bool.and_comm]
  ·have k:=V6 n t.words v.text (by omega) (by omega)
   have r:(t.words.any fun x=>GP v.text x)=t.words.any fun x=>GP x v.text:=by congr 1;funext x;exact Zay _ _
   rw [Ag (show ¬ t.kind=2 by omega),Ag (show ¬ t.kind=6 by omega),Ag (show ¬ t.kind=7 by omega),Ag (show ¬ t.kind=3 by omega)]
   simp only [Bool.false_eq_true,if_false]
   rw [BZ,Aj (by decide),Ah tk,Ai rfl,Aj (show ¬ (t.kind=2∨t.kind=6∨t.kind=7) by omega),Aj (show ¬ t.kind=3 by omega),Ai tk]
   by_cases G:0<t.words.length
   ·rw [Ai (Ah (by omega)),k,r,Ag (show ¬ (t.words.length:Int)=0 by omega)]
    simp
   ·rw [Aj (by rw [decide_eq_true_eq];omega),Ah (show (t.words.length:Int)=0 by omega)]
    have s:t.words=[]:=List.length_eq_zero_iff.1 (by omega)
    rw [s]
    rfl
  ·simp [tk,BZ,Xo]
  ·have q:=i (by omega);simp [tk,BZ,q]
  ·have q:=i (by omega);simp [tk,BZ,q]
  ·obtain ⟨e,m⟩:=gt.own.elem tk
   have g:e∈t.elem:=by rw [m];simp
   have o:Cj t.elem 0=some e:=by rw [m];rfl
   have k:=Wa n v.list (fun x=>JI (IK n) x t) (fun x => !MZ d e x) (fun x j=>by
    have a:=t.elem_size _ g
    have b:=v.list_size x j
    have c:=Ty.depth_elem g
    rw [JI,o,Af,Rb n d e x (by omega) (by omega) (by omega) (Ty.small_elem ht g) (Le gt g) (OH gv (by rw [BH,Ai (.inl (by omega))];exact j)) (by omega)];rfl) (by omega) (by omega)
   have r:(v.list.all fun x=>t.elem.all fun e=>MZ d e x)=v.list.all fun x=>MZ d e x:=by
    congr 1;funext x;rw [m];simp
   rw [r]
   simp only [tk,BZ]
   simp only [show decide ((8:Int)=2)=false from rfl,show decide ((8:Int)=6)=false from rfl,show decide ((8:Int)=7)=false from rfl,show decide ((8:Int)=3)=false from rfl,show decide ((8:Int)=4)=false from rfl,show decide ((8:Int)=5)=false from rfl,decide_true,Bool.false_eq_true,if_false,if_true]
   rw [k]
   unfold Xo
   cases hr:decide (t.min≤(v.list.length:Int))&&decide ((v.list.length:Int)≤t.max) with
   | false=>simp
   | true =>
    simp only [if_true,Af,Bool.and_true]
    rw [List.not_any_eq_all_not]
    simp
  ·have y:=WM (IK n) d n t v (by omega) (by omega) h3 ht tk (by omega) (fun p f q u=>by
     have a:=t.field_size p f
     have b:=v.field_size q u
     have c:=Ty.depth_field f
     exact Rb n d _ _ (by omega) (by omega) (by omega) (Ty.small_field ht f) (FI gt f) (OH gv (by rw [BH,Aa,Ab];exact List.mem_map_of_mem u)) (by omega)) v.fields.length n 0 (by omega) (by omega)
   rw [List.drop_zero] at y
   have l:Hi (IK n) n t v n 0=_:=y
   simp only [tk,BZ]
   simp only [show decide ((9:Int)=2)=false from rfl,show decide ((9:Int)=6)=false from rfl,show decide ((9:Int)=7)=false from rfl,show decide ((9:Int)=3)=false from rfl,show decide ((9:Int)=4)=false from rfl,show decide ((9:Int)=5)=false from rfl,show decide ((9:Int)=8)=false from rfl,show decide ((9:Int)=10)=false from rfl,decide_true,Bool.false_eq_true,if_false,if_true]
   exact l
  ·have w:v.kind=10:=by omega
   obtain ⟨x,j⟩:=Zan gv w
   have e:BZ (IK n) n t v false=some (match KX t v.text with
    | some p=>v.list.all fun x=>MZ d p.2.2.2.1 x
    | none=>false):=by
    simp only [BZ,tk,RE n t _ (show t.size+1450000≤n by omega) ht (.inr tk),Af]
    simp only [show decide ((10:Int)=4)=false from rfl,show decide ((10:Int)=5)=false from rfl,show decide ((10:Int)=8)=false from rfl,decide_true,Bool.false_eq_true,if_false,if_true]
    cases c:KX t v.text with
    | none=>rfl
    | some p =>
     have f:=(SZ c).1
     have a:=t.field_size _ f
     have b:=v.list_size x (by rw [j];simp)
     have c:=Ty.depth_field f
     have E:=Rb n d p.2.2.2.1 x (by omega) (by omega) (by omega) (Ty.small_field ht f) (FI gt f) (OH gv (by rw [BH,Ai (.inr w),j];simp)) (by omega)
     rw [j,Ai (by rfl),show Cj [x] 0=some x from rfl,Af]
     simp [E]
   simp only [tk]
   exact e
theorem ZeR (n:Nat) (t:Ty) (v:Vl) (h1:t.size+1500000≤n) (h2:v.size+1500000≤n) (h3:v.size<1048576) (ht:t.small) (hv:v.ok) (gt:t.Good):IV n t v=some (decide (TM v=0)&&MZ 12 t v):=by
 rw [IV,UX n v (by omega) h3 hv,Af]
 by_cases h:TM v=0
 ·rw [Ah h,Ai rfl,Rb n 12 t v h1 h2 (by omega) ht gt (X2 h) ht.2.1];rfl
 ·rw [Ag h,Aj (by decide)];rfl
def ZZ (P:Prop) (left:Int) (o:Option (Int × Int)):Prop:=∃ e l,o=some (e,l)∧(e=0→0≤l∧l≤left∧P)
theorem ZC (r:Ty→Int→Int→Option (Int × Int)) (n D:Nat) (t:Ty) (lv:Int) (hlv:0≤lv∧lv≤9) (hn:t.size+2600000≤n) (ht:t.small) (hk:t.kind=9∨t.kind=10) (hg:∀ x∈t.fields,TC t.kind x)
  (hr:∀ p∈t.fields,∀ left,0≤left→left≤4096→ZZ (p.2.2.2.1.Fine D) left (r p.2.2.2.1 (lv+1) left)):∀ (k m i:Nat) (left:Int),i+k=t.fields.length→k<m→0≤left→left≤4096 →
  ZZ (∀ p∈t.fields.drop i,p.2.2.2.1.Fine D∧∀ v∈p.2.2.2.2,TM v=0∧MZ 12 p.2.2.2.1 v=true) left (B2 r n t lv (t.fields.map fun p=>p.2.2.2.1) m i left)
 | k,0,i,_,_,h,_,_=>absurd h (Nat.not_lt_zero _)
 | 0,m+1,i,left,hi,_,h1,h2=>by
  rw [B2,AU,Ag (show ¬ i<(t.fields.map fun p=>p.2.2.2.1).length by rw [List.length_map];omega)]
  refine ⟨0,left,rfl,fun _=>⟨h1,Int.le_refl _,?_⟩⟩
  rw [List.drop_eq_nil_of_le (by omega)];simp
 | k+1,m+1,i,left,hi,hm,h1,h2=>by
  have d:i<t.fields.length:=by omega
  have c:=List.getElem_mem d
  have y:=ht.1
  have N:=t.lens
  have f:i<(t.fields.map fun p=>p.2.2.2.1).length:=by rw [List.length_map];exact d
  rw [B2,AU,Ah f]
  simp only [if_true,AN f,AN d,Af,List.getElem_map]
  rw [Ai (by unfold Bg;omega)]
  obtain ⟨e,l,z,J⟩:=hr _ c left h1 h2
  rw [z,Af]
  by_cases h0:e=0
  rotate_left
  ·rw [Ag h0]
   exact ⟨e,l,rfl,fun q=>absurd q h0⟩
  obtain ⟨G,V,o⟩:=J h0
  rw [Ah h0]
  simp only [Bool.not_true,Bool.false_eq_true,if_false]
  rw [Ai (AW (by omega))]
  obtain ⟨u,K,q1,q3⟩:=ZC r n D t lv hlv hn ht hk hg hr k m (i+1) l (by omega) (by omega) G (by omega)
  have fin:(∀ v∈t.fields[i].2.2.2.2,TM v=0∧MZ 12 t.fields[i].2.2.2.1 v=true)→ZZ (∀ p∈t.fields.drop i,p.2.2.2.1.Fine D∧∀ v∈p.2.2.2.2,TM v=0∧MZ 12 p.2.2.2.1 v=true) left (B2 r n t lv (t.fields.map fun p=>p.2.2.2.1) m ((i:Int)+1) l):=fun hd=>by
   refine ⟨u,K,q1,fun q=>?_⟩
   obtain ⟨C,Q,s⟩:=q3 q
   refine ⟨C,by omega,fun x hx=>?_⟩
   rw [List.drop_eq_getElem_cons d] at hx
   rcases List.mem_cons.1 hx with rfl | hx
   ·exact ⟨o,hd⟩
   ·exact s x hx
  obtain ⟨g1,g2,g3,g4⟩:=hg _ c
  by_cases n3:t.fields[i].2.2.1=3
  ·have F:t.kind=9:=by
    rcases hk with hk | hk
    ·exact hk
    ·have:=g2 hk;omega
   obtain ⟨v,hv⟩:=List.length_eq_one_iff.1 (g3 n3)
   have j:Cj t.fields[i].2.2.2.2 0=some v:=by rw [hv];rfl
   obtain ⟨_,U,O,E⟩:=(t.ok_eq.1 ht.2.2).2.2.2 _ c
   obtain ⟨Z,Y,H⟩:=E v (by rw [hv];simp)
   have a:=t.field_size _ c
   have g:=ZeR n t.fields[i].2.2.2.1 v (by omega) (by omega) (by omega) (Ty.small_field ht c) H o.good
   rw [Ah F,Ah n3]
   simp only [if_true,j,Af,g]
   cases b:decide (TM v=0)&&MZ 12 t.fields[i].2.2.2.1 v with
   | false=>exact ⟨18,l,rfl,fun q=>absurd q (by decide)⟩
   | true =>
    rw [Bool.and_eq_true,decide_eq_true_eq] at b
    exact fin fun w hw=>by rw [hv,List.mem_singleton] at hw;subst hw;exact b
  ·have hd:t.fields[i].2.2.2.2=[]:=List.length_eq_zero_iff.1 (g4 n3)
   rw [Ag n3]
   simp only [Bool.false_eq_true,if_false,ite_self]
   exact fin fun w hw=>by rw [hd] at hw;simp at hw
theorem L1:∀ (n D:Nat) (t:Ty) (lv left:Int),t.size+2600001≤n→t.small→lv=9-(D:Int)→0≤lv→0≤left→left≤4096→ZZ (t.Fine D) left (Iu n t lv left)
 | 0,D,t,_,_,h,_,_,_,_,_=>by omega
 | n+1,D,t,lv,left,h,ht,hD,l1,h1,h2=>by
  have F:=t.lens
  have r:=ht.1
  have c:=Ty.fit_of ht (show t.size+2600000≤n by omega)
  rw [Iu,N7]
  by_cases c1:left=0
  ·rw [Ah c1]
   exact ⟨9,left,rfl,fun q=>absurd q (by decide)⟩
  rw [Ag c1]
  simp only [Bool.false_eq_true,if_false]
  have v:Bg (left-1):=by unfold Bg;omega
  by_cases c2:8<lv
  ·rw [Ah c2]
   exact ⟨23,left,rfl,fun q=>absurd q (by decide)⟩
  obtain ⟨d,rfl⟩:∃ d,D=d+1:=⟨D-1,by omega⟩
  rw [Ag c2]
  simp only [Bool.false_eq_true,if_false,Ai v]
  rw [ZeY n t c,Af]
  by_cases c3:PK t=0
  rotate_left
  ·rw [Ag c3]
   exact ⟨PK t,left-1,rfl,fun q=>absurd q c3⟩
  obtain ⟨G,E,w,m,H,x⟩:=RD c3
  rw [Ah c3]
  simp only [Bool.not_true,Bool.false_eq_true,if_false]
  rw [Un n t (by omega) (by omega),Af]
  by_cases k8:t.kind=8
  ·obtain ⟨C,_,_⟩:=w k8
   obtain ⟨e,he⟩:∃ e,t.elem=[e]:=List.length_eq_one_iff.1 C
   have o:e∈t.elem:=by rw [he];simp
   have u:=t.elem_size e o
   obtain ⟨n',rfl⟩:∃ k,n=k+2:=⟨n-2,by omega⟩
   obtain ⟨g,i,q1,q3⟩:=L1 (n'+2) d e (lv+1) (left-1) (by omega) (Ty.small_elem ht o) (by omega) (by omega) (by omega) (by omega)
   have hf0:t.fields=[]:=List.length_eq_zero_iff.1 (m (by omega) (by omega))
   have j:Bg (lv+1):=by unfold Bg;omega
   rw [Ir,Ai k8,he,B2,Ai (by simp),show Cj [e] 0=some e from rfl,Af,Ai j,q1,Af]
   by_cases c4:g=0
   ·obtain ⟨b,s,w4⟩:=q3 c4
    subst c4
    rw [Ag (show ¬ t.kind=9 by omega)]
    simp only [decide_true,Bool.not_true,Bool.false_eq_true,if_false]
    rw [Ai (by decide),B2,Aj (by simp)]
    refine ⟨0,i,rfl,fun _=>⟨b,by omega,?_⟩⟩
    exact .mk d t c3 (fun y hy=>by rw [he,List.mem_singleton] at hy;subst hy;exact w4) (fun y hy=>by rw [hf0] at hy;simp at hy) (fun y hy=>by rw [hf0] at hy;simp at hy)
   ·rw [Ag c4]
    exact ⟨g,i,rfl,fun q=>absurd q c4⟩
  ·rw [Ir,Aj k8]
   have f:t.elem=[]:=List.length_eq_zero_iff.1 (E k8)
   by_cases k9:t.kind=9∨t.kind=10
   ·rw [Ai k9]
    obtain ⟨g,i,q1,q3⟩:=ZC (Iu n) n d t lv ⟨l1,by omega⟩ (by omega) ht k9 x (fun p l a z b=>by
     have:=t.field_size p l
     exact L1 n d p.2.2.2.1 (lv+1) a (by omega) (Ty.small_field ht l) (by omega) (by omega) z b) t.fields.length n 0 (left-1) (by omega) (by omega) (by omega) (by omega)
    refine ⟨g,i,q1,fun q=>?_⟩
    obtain ⟨b,s,w4⟩:=q3 q
    rw [List.drop_zero] at w4
    exact ⟨b,by omega,.mk d t c3 (fun y hy=>by rw [f] at hy;simp at hy) (fun y hy=>(w4 y hy).1) (fun y hy=>(w4 y hy).2)⟩
   ·rw [Aj k9]
    have hf0:t.fields=[]:=List.length_eq_zero_iff.1 (m (by omega) (by omega))
    obtain ⟨n',rfl⟩:∃ k,n=k+1:=⟨n-1,by omega⟩
    rw [B2,Aj (by simp)]
    exact ⟨0,left-1,rfl,fun _=>⟨by omega,by omega,.mk d t c3 (fun y hy=>by rw [f] at hy;simp at hy) (fun y hy=>by rw [hf0] at hy;simp at hy) (fun y hy=>by rw [hf0] at hy;simp at hy)⟩⟩
theorem ZcW {c:Int} (h:1≤c):1≤(if 4097<c then 4097 else c)∧(if 4097<c then 4097 else c)≤4097:=by split<;>omega
theorem Rn:∀ (n:Nat) (t:Ty),t.size+10≤n→t.small→t.Good→∃ a,CN n t=some a∧1≤a∧a≤4097
 | 0,t,h,_,_=>by omega
 | n+1,t,h,ht,gt=>by
  have F:=t.lens
  have x:=ht.1
  obtain ⟨J,f2,y,Q,D,z⟩:=RD (S9 gt)
  rw [CN,IJ]
  by_cases k8:t.kind=8
  ·obtain ⟨Y,N,H⟩:=y k8
   have r:Cj t.elem 0=some t.elem[0]:=AN (k:=0) (by omega)
   rw [Ah k8,Ai rfl]
   by_cases l:0<t.min
   ·have e:=List.getElem_mem (show 0<t.elem.length by omega)
    have:=t.elem_size _ e
    obtain ⟨a,g,v,s⟩:=Rn n t.elem[0] (by omega) (Ty.small_elem ht e) (Le gt e)
    have q1:0≤t.min*a:=Int.mul_nonneg (by omega) (by omega)
    have q2:0≤(256-t.min)*a:=Int.mul_nonneg (by omega) (by omega)
    rw [Int.sub_mul] at q2
    rw [Ah l,Ai rfl,r,Af,g,Af,Ai (by unfold Bg;omega),Ai (by unfold Bg;omega)]
    exact ⟨_,rfl,ZcW (by omega)⟩
   ·rw [Ag l,Aj (by decide)]
    exact ⟨_,rfl,ZcW (by omega)⟩
  rw [Ag k8,Aj (by decide)]
  by_cases k10:t.kind=10
  ·have u:=D k10
   have d:=List.getElem_mem u
   have:=t.field_size _ d
   obtain ⟨a,g,v,s⟩:=Rn n t.fields[0].2.2.2.1 (by omega) (Ty.small_field ht d) (FI gt d)
   rw [Ah k10,Ai rfl,show Cj t.fields 0=some t.fields[0] from AN (k:=0) u,Af,g,Af,Ai (by unfold Bg;omega)]
   exact ⟨_,rfl,ZcW (by omega)⟩
  rw [Ag k10,Aj (by decide)]
  by_cases k9:t.kind=9
  ·rw [Ah k9,Ai rfl]
   have j:∀ (k m i:Nat) (a:Int),i+k=t.fields.length→k<m→1≤a→a≤2000000*(i+1)→∃ a',Bm (CN n) n t m a i=some a'∧1≤a'∧a'≤4097:=by
    intro k
    induction k with
    | zero =>
     intro m i a w l o _
     obtain ⟨m,rfl⟩:∃ q,m=q+1:=⟨m-1,by omega⟩
     rw [Bm,AU,Ag (show ¬ i<t.fields.length by omega)]
     exact ⟨_,rfl,ZcW o⟩
    | succ k ih =>
     intro m i a w l o Z
     obtain ⟨m,rfl⟩:∃ q,m=q+1:=⟨m-1,by omega⟩
     have f:i<t.fields.length:=by omega
     have b:=List.getElem_mem f
     have a1:=t.field_size _ b
     have go:∀ c:Int,1≤c→c≤2000000*((i:Int)+1+1)→∃ a',Dh (CN n) n (Bm (CN n) n t m) i c=some a'∧1≤a'∧a'≤4097:=fun c q1 q2=>by
      rw [Dh,Ai (AW (by omega))]
      exact ih m (i+1) c (by omega) (by omega) q1 (by push_cast;exact q2)
     rw [Bm,AU,Ah f,Ai rfl,AN f,Af]
     by_cases n1:t.fields[i].2.2.1=1
     ·obtain ⟨c,g,v,s⟩:=Rn n t.fields[i].2.2.2.1 (by omega) (Ty.small_field ht b) (FI gt b)
      rw [Ah n1,Ai rfl,g,Af,Ai (by unfold Bg;omega)]
      exact go _ (by omega) (by omega)
     rw [Ag n1,Aj (by decide)]
     by_cases n3:t.fields[i].2.2.1=3
     ·have hd:=(z _ b).2.2.1 n3
      have p:Cj t.fields[i].2.2.2.2 0=some t.fields[i].2.2.2.2[0]:=AN (k:=0) (by omega)
      obtain ⟨_,K,G,C⟩:=(t.ok_eq.1 ht.2.2).2.2.2 _ b
      obtain ⟨U,O,V⟩:=C _ (List.getElem_mem (show 0<t.fields[i].2.2.2.2.length by omega))
      have E:=ON _ t.fields[i].2.2.2.2[0] 1 (Nat.le_refl _)
      rw [Ah n3,Ai rfl,p,Af,Zco _ (by omega),Af,Ai (by unfold Bg;omega)]
      exact go _ (by omega) (by omega)
     ·rw [Ag n3,Aj (by decide)]
      exact go a o (by omega)
   exact j t.fields.length n 0 1 (by omega) (by omega) (by decide) (by decide)
  ·rw [Ag k9,Aj (by decide)]
   exact ⟨_,rfl,ZcW (by omega)⟩
theorem Vs:∀ (n:Nat) (t:Ty),t.size+11≤n→t.small→t.Good→∃ a,B5 n t=some a
 | 0,t,h,_,_=>by omega
 | n+1,t,h,ht,gt=>by
  have r:=t.lens
  have l:=ht.1
  obtain ⟨a,p,_,_⟩:=Rn n t (by omega) ht gt
  have e:∀ (k m i:Nat) (a:Int),i+k=t.fields.length→k<m→∃ a',BX (B5 n) n t m a i=some a':=by
   intro k
   induction k with
   | zero =>
    intro m i a f g
    obtain ⟨m,rfl⟩:∃ q,m=q+1:=⟨m-1,by omega⟩
    rw [BX,AU,Ag (show ¬ i<t.fields.length by omega)]
    exact ⟨_,rfl⟩
   | succ k ih =>
    intro m i a f g
    obtain ⟨m,rfl⟩:∃ q,m=q+1:=⟨m-1,by omega⟩
    have d:i<t.fields.length:=by omega
    have b:=List.getElem_mem d
    have a1:=t.field_size _ b
    obtain ⟨c,j⟩:=Vs n t.fields[i].2.2.2.1 (by omega) (Ty.small_field ht b) (FI gt b)
    rw [BX,AU,Ah d,Ai rfl,AN d,Af,j,Af,Ai (AW (by omega))]
    exact ih m (i+1) _ (by omega) (by omega)
  have o:∀ (k m i:Nat) (a:Int),i+k=t.elem.length→k<m→∃ a',Cf (B5 n) n t m a i=some a':=by
   intro k
   induction k with
   | zero =>
    intro m i a f g
    obtain ⟨m,rfl⟩:∃ q,m=q+1:=⟨m-1,by omega⟩
    rw [Cf,AU,Ag (show ¬ i<t.elem.length by omega)]
    exact e t.fields.length n 0 a (by omega) (by omega)
   | succ k ih =>
    intro m i a f g
    obtain ⟨m,rfl⟩:∃ q,m=q+1:=⟨m-1,by omega⟩
    have d:i<t.elem.length:=by omega
    have b:=List.getElem_mem d
    have a1:=t.elem_size _ b
    obtain ⟨c,j⟩:=Vs n t.elem[i] (by omega) (Ty.small_elem ht b) (Le gt b)
    rw [Cf,AU,Ah d,Ai rfl,AN d,Af,j,Af,Ai (AW (by omega))]
    exact ih m (i+1) _ (by omega) (by omega)
  rw [B5,Gq,p,Af]
  exact o t.elem.length n 0 a (by omega) (by omega)
theorem QE (n:Nat) (t:Ty) (hn:3000000≤n) (ht:t.small):∃ c,E7 n t=some c∧(c=0→t.Fine 8):=by
 have d:=ht.1
 obtain ⟨e,l,b,f⟩:=L1 n 8 t 1 4096 (by omega) ht (by decide) (by decide) (by decide) (by decide)
 rw [E7,b,Af]
 by_cases h:e=0
 ·obtain ⟨_,_,g⟩:=f h
  obtain ⟨a,q1⟩:=Vs n t (by omega) ht g.good
  rw [Ah h,Aj (by decide),q1,Af]
  by_cases c:4096<a
  ·rw [Ah c]
   exact ⟨9,rfl,fun q=>absurd q (by decide)⟩
  ·rw [Ag c]
   exact ⟨0,rfl,fun _=>g⟩
 ·rw [Ag h]
  exact ⟨e,rfl,fun q=>absurd q h⟩
theorem Lt {B:List (List AV)} {l:Nat} {c:List AV} (h:B[l]? = some c):B.set l c=B:=by
 apply List.ext_getElem?
 intro i
 by_cases q:l=i
 ·subst q
  rw [List.getElem?_set_self (Ak.1 h).1,h]
 ·rw [List.getElem?_set_ne q]
@[go_sem] theorem Zio:EE Tryz.prog 100=none∧Jn Tryz.prog 330=false∧CE Tryz.prog 103 0=some (0,1,false)∧CE Tryz.prog 103 1=some (1,1,false)∧CE Tryz.prog 124 0=some (0,1,false)∧CE Tryz.prog 124 2=some (2,7,true)∧CE Tryz.prog 132 0=some (0,1,true)∧CE Tryz.prog 132 1=some (1,7,true)∧M6 Tryz.prog 330=some .u64∧Cm Tryz.prog 100=some [(0,1),(1,1)]∧Ej Tryz.prog 330=false∧GK Tryz.prog 101=some (1,false):=by (repeat' apply Ae)<;>kernel_rfl
@[go_sem] theorem ZiZ:GK Tryz.prog 330=some (1,false)∧BA Tryz.prog 100=some [.val (.string ⟨#[]⟩),Am 0]∧BA Tryz.prog 330=some [.val (.int .u64 0)]∧BA Tryz.prog 5=some [.val (.int .u8 0)]:=by (repeat' apply Ae)<;>kernel_rfl
end Go.Proofs.YtmcnjijeocmkgaaGreatDoor
namespace Go.Ev
open Go Go.RowKit
theorem XV (B:Ao) (i j:Nat) (c d:List AV):((B.set i c).set j d).length=B.length:=by simp only [List.length_set]
@[go_sem] theorem ZhB (B X:Ao) (R:Av) (L:As) (i j k o:Nat) (c d:List AV):C7 ⟨(B.set i c).set j d++X,R,L⟩ (.box (B.length+k) o)=decide (k<X.length):=by have h:=Zaz ((B.set i c).set j d) X R L k o;rwa [XV] at h
@[go_sem] theorem Zgn (B X:Ao) (R:Av) (L:As) (i j o:Nat) (c d:List AV):C7 ⟨(B.set i c).set j d++X,R,L⟩ (.box B.length o)=decide (0<X.length):=by have h:=Zf ((B.set i c).set j d) X R L o;rwa [XV] at h
@[go_sem] theorem ZbX (B X:Ao) (i j k:Nat) (c d:List AV):((B.set i c).set j d++X).getD (B.length+k) []=X.getD k []:=by have h:=UG (B.set i c) X j k d;rwa [List.length_set] at h
@[go_sem] theorem Z6 (B X:Ao) (i j:Nat) (c d:List AV):((B.set i c).set j d++X).getD B.length []=X.getD 0 []:=by have h:=Tc (B.set i c) X j d;rwa [List.length_set] at h
@[go_sem] theorem Zf3 (B X:Ao) (R:Av) (L:As) (i j k o:Nat) (c d:List AV):A6 ⟨(B.set i c).set j d++X,R,L⟩ (.box (B.length+k) o)=X.getD k []:=ZbX B X i j k c d
@[go_sem] theorem ZeS (B X:Ao) (R:Av) (L:As) (i j o:Nat) (c d:List AV):A6 ⟨(B.set i c).set j d++X,R,L⟩ (.box B.length o)=X.getD 0 []:=Z6 B X i j c d
@[go_sem] theorem Zjh (B X:Ao) (i j k:Nat) (c d x:List AV):((B.set i c).set j d++X).set (B.length+k) x=(B.set i c).set j d++X.set k x:=by have h:=ZbO (B.set i c) X j k d x;rwa [List.length_set] at h
@[go_sem] theorem Zh1 (B X:Ao) (i j:Nat) (c d x:List AV):((B.set i c).set j d++X).set B.length x=(B.set i c).set j d++X.set 0 x:=by have h:=Z7 (B.set i c) X j d x;rwa [List.length_set] at h
@[go_sem] theorem Zi0 (B X:Ao) (i j k:Nat) (c d:List AV):((B.set i c).set j d++X)[B.length+k]? = X[k]? := by have h:=D6 (B.set i c) X j k d;rwa [List.length_set] at h
@[go_sem] theorem ZhU (B X:Ao) (i j:Nat) (c d:List AV):((B.set i c).set j d++X)[B.length]? = X[0]? := by have h:=C4 (B.set i c) X j d;rwa [List.length_set] at h
theorem Ht {P:Program} {w0:World} {st:St} {d:Bool} {fv:AV} {args:List AV} {k:AV→St→Prop} (h:k (.val (.bool false)) st):Jp P w0 false d fv args st k := .inl ⟨.val (.bool false),fun q=>(nomatch q),h⟩
end Go.Ev
namespace Go.Proofs.YtmcnjijeocmkgaaGreatDoor
open Go Go.RowKit Go.Ev
def CQ (n:Nat) (g:List Part) (b:List Part):Option Bool :=
 if decide ((b.length:Int)≤(g.length:Int)) then
  if 0≤0∧0≤(b.length:Int)∧(b.length:Int)≤(g.length:Int) then
   (DW n (g.take b.length) b).bind fun h =>
   some (h)
  else none
 else
  some (false)
theorem CX (w0:World) (n:Nat) (B:Ao) (Rw:Av) (L:As) (a0:List Part) (a1:List Part) (r:Bool) (h:CQ n a0 a1=some r) :
  ACalls Tryz.prog w0 90 [.list (a0.map AG) .none,.list (a1.map AG) .none] ⟨B,Rw,L⟩ fun x st=>x = .val (.bool r)∧st=⟨B,Rw,L⟩:=by
 rw [CQ] at h
 refine hd [.tmp 4] Tryz.func90 Tryz.ntmps90 fun M0 W0 f d c b g e hs=>?_
 simp only [AA]
 exact go (tg (a:=([0,1],([4],()),[4],()))) h hs f d c b e (q1 (LF w0 n)) trivial
def BE (b:Part) (g:Part):Bool :=
 ((decide (b.kind=g.kind)&&(decide (b.index=g.index)&&(GP b.name g.name)))||((decide (b.kind=3))&&(decide (g.kind=2))))||((decide (b.kind=2))&&(decide (g.kind=3)))
theorem Q8 (w0:World) (B:Ao) (Rw:Av) (L:As) (a0:Part) (a1:Part) (r:Bool) (h:BE a0 a1=r) :
  ACalls Tryz.prog w0 178 [.agg (Am a0.kind::(Am a0.index::([.val (.string a0.name)]))),.agg (Am a1.kind::(Am a1.index::([.val (.string a1.name)])))] ⟨B,Rw,L⟩ fun x st=>x = .val (.bool r)∧st=⟨B,Rw,L⟩:=by
 rw [BE] at h
 refine hd [.tmp 4] Tryz.func178 Tryz.ntmps178 fun M0 W0 f c b a e d hs=>?_
 simp only [AA]
 refine rg [2,3] hs ?_
 refine rg [4] hs ?_
 exact rT h hs a d
theorem PW (w0:World) (B:Ao) (Rw:Av) (L:As) (a0:Part) (a1:Part) :
  ACalls Tryz.prog w0 178 [.agg (Am a0.kind::(Am a0.index::([.val (.string a0.name)]))),.agg (Am a1.kind::(Am a1.index::([.val (.string a1.name)])))] ⟨B,Rw,L⟩ fun x st=>x = .val (.bool (BE a0 a1))∧st=⟨B,Rw,L⟩:=Q8 w0 B Rw L a0 a1 _ rfl
def Eg (n:Nat)  : Option Bool :=
 some (true)
def A9 (n:Nat) (h:List Part) (z:List Part) (a2:Part→Part→Option Bool):Nat→Int→Option Bool
 | 0,_=>none
 | m+1,b =>
  if decide (b<(h.length:Int)) then
   (Cj h b).bind fun g =>
   (Cj z b).bind fun q =>
   (a2 g q).bind fun y =>
   if !y then
    some (false)
   else
    if Bg (b+1) then
     (A9 n h z a2 m) (b+1)
    else none
  else
   Eg n 
def Ez (n:Nat) (b:List Part) (g:List Part) (h:Part→Part→Option Bool):Option Bool :=
 if !(decide ((b.length:Int)=(g.length:Int))) then
  some (false)
 else
  A9 n b g h n 0
theorem Na (w0:World) (n:Nat) (B:Ao) (Rw:Av) (L:As) (a0:List Part) (a1:List Part) (fa2:FuncId) (ca2:List AV) (a2:Part→Part→Option Bool) (ha2:∀ (x0:Part) (x1:Part) r,a2 x0 x1=some r→∀ B' rows,B <+: B'→Rw <+: rows→ACalls Tryz.prog w0 fa2 ([.agg (Am x0.kind::(Am x0.index::([.val (.string x0.name)]))),.agg (Am x1.kind::(Am x1.index::([.val (.string x1.name)])))]++ca2) ⟨B',rows,L⟩ fun v s=>v = .val (.bool r)∧s=⟨B',rows,L⟩) (r:Bool) (h:Ez n a0 a1 a2=some r) :
  ACalls Tryz.prog w0 177 [.list (a0.map AG) .none,.list (a1.map AG) .none,.clo fa2 ca2] ⟨B,Rw,L⟩ fun x st=>x = .val (.bool r)∧st=⟨B,Rw,L⟩:=by
 rw [Ez] at h
 refine hd [.tmp 6] Tryz.func177 Tryz.ntmps177 fun M0 W0 l i g c o f hs=>?_
 simp only [AA]
 have d:=BJ (o (.clo fa2 ca2) (by simp))
 refine rg [0,1,2] hs ?_
 apply An;intro K2 j
 refine rg [0,1,2,14] hs ?_
 refine B6 h hs ?_ ?_<;>intro hs h
 ·refine rg [6] hs ?_
  exact rt h hs c f
 refine sk [0,1,2] hs j ?_
 clear j
 refine AB (fun e st=>Ck e st B Rw L [] [] [] (Eg n  = some r)) ?_ ?_
 ·intro K8 k
  refine rg [1,2,15,16,17] hs ?_
  apply Ar
  refine AC (fun m e st=>∃ (b:Int),Ck e st B Rw L [(1,true,.list (a1.map AG) .none),(2,true,.clo fa2 ca2),(15,true,.list (a0.map AG) .none),(16,true,Am (a0.length:Int)),(17,true,Am b)] [] [] (A9 n a0 a1 a2 m b=some r)) n ⟨0,([]),Rw,ef hs,ef hs,f,h⟩ ?_
  rintro ml10 e st ⟨b,Xl10,Rl10,rfl,rfl,f,h⟩ Ul10 Vl10
  cases ml10 with
  | zero=>cases h
  | succ ml10 =>
  rw [A9] at h
  refine A1 l i g rfl c f (LI d f) (LI d f) ?_
  exact go (tg (a:=([1,2,15,16,17,18],([1,2,15,16,17],[1,2,7,8,15,16,17],[1,2,8,9,15,16,17],[1,2,15,16,17,30],([6],()),[1,2,15,16,17],[1,2,15,16,17],()),[],()))) h hs l i g c f (q1 ha2) (q2 k (fun e s=>Vl10 ml10 e s (Nat.lt_succ_self _)))
 ·clear h;rintro e st ⟨Xk7,Rk7,rfl,rfl,f,h⟩
  rw [Eg] at h
  refine A1 l i g rfl c f (LI d f) (LI d f) ?_
  refine rg [6] hs ?_
  exact rt h hs c f
def HY (n:Nat) (b:List Part) (g:List Part):Option Bool :=
 if 0≤0∧0≤(if (g.length:Int)<(b.length:Int) then (g.length:Int) else (b.length:Int))∧(if (g.length:Int)<(b.length:Int) then (g.length:Int) else (b.length:Int))≤(b.length:Int) then
  if 0≤0∧0≤(if (g.length:Int)<(b.length:Int) then (g.length:Int) else (b.length:Int))∧(if (g.length:Int)<(b.length:Int) then (g.length:Int) else (b.length:Int))≤(g.length:Int) then
   (Ez n (b.take ((if (g.length:Int)<(b.length:Int) then (g.length:Int) else (b.length:Int))).toNat) (g.take ((if (g.length:Int)<(b.length:Int) then (g.length:Int) else (b.length:Int))).toNat) (fun (q:Part) (y:Part)=>some (BE q y))).bind fun h =>
   some (h)
  else none
 else none
theorem T8 (w0:World) (n:Nat) (B:Ao) (Rw:Av) (L:As) (a0:List Part) (a1:List Part) (r:Bool) (h:HY n a0 a1=some r) :
  ACalls Tryz.prog w0 98 [.list (a0.map AG) .none,.list (a1.map AG) .none] ⟨B,Rw,L⟩ fun x st=>x = .val (.bool r)∧st=⟨B,Rw,L⟩:=by
 rw [HY] at h
 refine hd [.tmp 4] Tryz.func98 Tryz.ntmps98 fun M0 W0 o e d a m g hs=>?_
 simp only [AA]
 refine rg [0,1] hs ?_
 refine rg [0,1,5] hs ?_
 obtain ⟨i,h⟩:=Aw h
 obtain ⟨c,h⟩:=Aw h
 obtain ⟨l,hy6,h⟩:=bind_some h
 apply An;intro K3 b
 refine dk 8 2 1 [4] hs PS ?_
 refine Ax _ (Na w0 n _ _ _ (a0.take ((if (a1.length:Int)<(a0.length:Int) then (a1.length:Int) else (a0.length:Int))).toNat) (a1.take ((if (a1.length:Int)<(a0.length:Int) then (a1.length:Int) else (a0.length:Int))).toNat) 178 [] (fun (x0:Part) (x1:Part)=>some (BE x0 x1)) (fun x0 x1 r hx k rows' j f=>by cases hx;exact PW w0 _ _ _ x0 x1) _ hy6) (hv hs) ?_
 refine dn hs b ?_
 clear b
 exact rt h hs a g
def Dp (n:Nat) (y:ByteArray) (g:List Part) (a2:List Part):Option Bool :=
 (Do n y).bind fun b =>
 if decide (b.2=0) then
  (CQ n g b.1).bind fun q =>
  if q then
   some (true)
  else
   (CQ n b.1 g).bind fun z =>
   if z then
    if 0≤(g.length:Int)∧(g.length:Int)≤(b.1.length:Int)∧(b.1.length:Int)≤(b.1.length:Int) then
     (HY n (b.1.drop g.length) a2).bind fun h =>
     some (h)
    else none
   else
    some (false)
 else
  some (false)
theorem PH (w0:World) (hE:JX w0) (hM:Kp w0) (hP:Pow10 w0) (n:Nat) (B:Ao) (Rw:Av) (L:As) (a0:ByteArray) (la1:Nat) (a1:List Part) (hla1:B[la1]? = some ([.list (a1.map AG) .none])) (la2:Nat) (a2:List Part) (hla2:B[la2]? = some ([.list (a2.map AG) .none])) (r:Bool) (h:Dp n a0 a1 a2=some r) :
  ACalls Tryz.prog w0 182 [.val (.string a0),.box la1 0,.box la2 0] ⟨B,Rw,L⟩ fun x st=>x = .val (.bool r)∧st=⟨B,Rw,L⟩:=by
 rw [Dp] at h
 refine hd [.tmp 4] Tryz.func182 Tryz.ntmps182 fun M0 W0 v q p a u i hs=>?_
 simp only [AA]
 have k:=(Ak.1 hla1).1
 have j:=(Ak.1 hla2).1
 have hs:=Ae (Aq hla1) hs
 have hs:=Ae (Aq hla2) hs
 refine rg [0,1,2] hs ?_
 obtain ⟨d,l,h⟩:=bind_some h
 refine rc 2 [1,2,5,6] hs ?_;intro K2 e
 refine Ax _ (Il w0 hE hM hP n _ _ _ a0 _ l) (hv hs) ?_
 refine ne hs e ?_
 clear e
 apply An;intro K4 b
 rcases Bool.eq_false_or_eq_true (decide (d.2=0)) with hf5 | hf5
 ·replace h:=Bq h hf5
  obtain ⟨t,c,h⟩:=bind_some h
  rcases Bool.eq_false_or_eq_true (t) with hf7 | hf7
  ·replace h:=Bq h hf7
   have hs:=Ae hf5 hs
   have hs:=Ae hf7 hs
   refine dk 21 4 1 [4] hs PS ?_
   refine Ax _ (CX w0 n _ _ _ a1 d.1 _ c) (hv hs) ?_
   refine nc hs ?_
   refine Ht ?_
   refine nc hs ?_
   refine Ht ?_
   refine dn hs b ?_
   clear b
   exact rt h hs a i
  ·replace h:=Bo h hf7
   obtain ⟨s,g,h⟩:=bind_some h
   rcases Bool.eq_false_or_eq_true (s) with hf9 | hf9
   ·replace h:=Bq h hf9
    obtain ⟨m,h⟩:=Aw h
    obtain ⟨o,f,h⟩:=bind_some h
    have hs:=Ae hf5 hs
    have hs:=Ae hf7 hs
    have hs:=Ae hf9 hs
    refine dk 21 4 1 [4] hs PS ?_
    refine Ax _ (CX w0 n _ _ _ a1 d.1 _ c) (hv hs) ?_
    refine nc hs ?_
    refine Ax _ (CX w0 n _ _ _ d.1 a1 _ g) (hv hs) ?_
    refine nc hs ?_
    refine Ax _ (T8 w0 n _ _ _ (d.1.drop a1.length) a2 _ f) (hv hs) ?_
    refine dn hs b ?_
    clear b
    exact rt h hs a i
   ·replace h:=Bo h hf9
    have hs:=Ae hf5 hs
    have hs:=Ae hf7 hs
    have hs:=Ae hf9 hs
    refine dk 21 4 1 [4] hs PS ?_
    refine Ax _ (CX w0 n _ _ _ a1 d.1 _ c) (hv hs) ?_
    refine nc hs ?_
    refine Ax _ (CX w0 n _ _ _ d.1 a1 _ g) (hv hs) ?_
    refine nc hs ?_
    refine Ht ?_
    refine dn hs b ?_
    clear b
    exact rt h hs a i
 ·replace h:=Bo h hf5
  have hs:=Ae hf5 hs
  refine dk 21 4 1 [4] hs PS ?_
  refine Ht ?_
  refine nc hs ?_
  refine Ht ?_
  refine nc hs ?_
  refine Ht ?_
  refine dn hs b ?_
  clear b
  exact rt h hs a i
def FX (n:Nat) (b:List ByteArray) (q:List Part) (y:List Part):Option Bool :=
 (BN n b (fun (h:ByteArray)=>Dp n h q y)).bind fun g =>
 some (g)
theorem Q6 (w0:World) (hE:JX w0) (hM:Kp w0) (hP:Pow10 w0) (n:Nat) (B:Ao) (Rw:Av) (L:As) (a0:List ByteArray) (a1:List Part) (a2:List Part) (r:Bool) (h:FX n a0 a1 a2=some r) :
  ACalls Tryz.prog w0 101 [.list (a0.map C0) .none,.list (a1.map AG) .none,.list (a2.map AG) .none] ⟨B,Rw,L⟩ fun x st=>x = .val (.bool r)∧st=⟨B,Rw,L⟩:=by
 rw [FX] at h
 refine hd [.tmp 6] Tryz.func101 Tryz.ntmps101 fun M0 W0 p g f a o i hs=>?_
 simp only [AA]
 refine rg [0,4,5] hs ?_
 obtain ⟨m,d,h⟩:=bind_some h
 refine rc 2 [6] hs ?_;intro K2 b
 refine Ax _ (Kt w0 n _ _ _ a0 182 [.box B.length 0,.box (B.length+1) 0] (fun (e:ByteArray)=>Dp n e a1 a2) (fun e r k l rows' c j=>by exact PH w0 hE hM hP n _ _ _ e _ a1 (Di c ev) _ a2 (Di c ev) _ k) _ d) (hv hs) ?_
 refine ne hs b ?_
 clear b
 exact rt h hs a i
def DY (b:Part):Bool :=
 !(decide (b.kind=1))
theorem Qm (w0:World) (B:Ao) (Rw:Av) (L:As) (a0:Part) (r:Bool) (h:DY a0=r) :
  ACalls Tryz.prog w0 151 [.agg (Am a0.kind::(Am a0.index::([.val (.string a0.name)])))] ⟨B,Rw,L⟩ fun x st=>x = .val (.bool r)∧st=⟨B,Rw,L⟩:=by
 rw [DY] at h
 refine hd [.tmp 2] Tryz.func151 Tryz.ntmps151 fun M0 W0 f c b a e d hs=>?_
 simp only [AA]
 refine rg [1] hs ?_
 refine rg [2] hs ?_
 exact rT h hs a d
theorem PQ (w0:World) (B:Ao) (Rw:Av) (L:As) (a0:Part) :
  ACalls Tryz.prog w0 151 [.agg (Am a0.kind::(Am a0.index::([.val (.string a0.name)])))] ⟨B,Rw,L⟩ fun x st=>x = .val (.bool (DY a0))∧st=⟨B,Rw,L⟩:=Qm w0 B Rw L a0 _ rfl
def IH (n:Nat)  : Option Int :=
 some (0)
def En (n:Nat) (h:List Int):Nat→Int→Option Int
 | 0,_=>none
 | m+1,b =>
  if decide (b<(h.length:Int)) then
   (Cj h b).bind fun g =>
   if !(decide (g=0)) then
    some (g)
   else
    if Bg (b+1) then
     (En n h m) (b+1)
    else none
  else
   IH n 
def Eh (n:Nat) (b:List Int):Option Int :=
 En n b n 0
theorem KU (w0:World) (n:Nat) (B:Ao) (Rw:Av) (L:As) (a0:List Int) (r:Int) (h:Eh n a0=some r) :
  ACalls Tryz.prog w0 72 [.list (a0.map Yi) .none] ⟨B,Rw,L⟩ fun x st=>x=Am r∧st=⟨B,Rw,L⟩:=by
 rw [Eh] at h
 refine hd [.tmp 2] Tryz.func72 Tryz.ntmps72 fun M0 W0 j g f b k d hs=>?_
 simp only [AA]
 refine rg [0] hs ?_
 refine AB (fun e st=>Ck e st B Rw L [] [] [] (IH n  = some r)) ?_ ?_
 ·intro K4 i
  refine rg [5,6,7] hs ?_
  apply Ar
  refine AC (fun m e st=>∃ (c:Int),Ck e st B Rw L [(5,true,.list (a0.map Yi) .none),(6,true,Am (a0.length:Int)),(7,true,Am c)] [] [] (En n a0 m c=some r)) n ⟨0,([]),Rw,ef hs,ef hs,d,h⟩ ?_
  rintro ml6 e st ⟨c,Xl6,Rl6,rfl,rfl,d,h⟩ Ul6 Vl6
  cases ml6 with
  | zero=>cases h
  | succ ml6 =>
  rw [En] at h
  exact go (tg (a:=([5,6,7,8],([5,6,7],[4,5,6,7],[4,5,6,7,12],([2],()),[5,6,7],[5,6,7],()),[],()))) h hs j g f b d trivial (q2 i (fun e s=>Vl6 ml6 e s (Nat.lt_succ_self _)))
 ·clear h;rintro e st ⟨Xk3,Rk3,rfl,rfl,d,h⟩
  rw [IH] at h
  refine td j g f b d ?_
  refine rg [2] hs ?_
  exact rt h hs b d
def F3 (n:Nat) (g:Ty):Option ((List (List Part))) :=
 (E7 n g).bind fun h =>
 if !(decide (h=0)) then
  some ([])
 else
  (ER n g ([]) ([])).bind fun b =>
  some (b)
theorem QA (w0:World) (hT:Lib.Utf8Tabs 2 3 w0) (n:Nat) (B:Ao) (Rw:Av) (L:As) (a0:Ty) (r:(List (List Part))) (h:F3 n a0=some r) :
  ACalls Tryz.prog w0 33 [.agg (a0.cs)] ⟨B,Rw,L⟩ fun x st=>x = .list (r.map (I8 AG)) .none∧st=⟨B,Rw,L⟩:=by
 rw [F3] at h
 refine hd [.tmp 2] Tryz.func33 Tryz.ntmps33 fun M0 W0 q l k a o d hs=>?_
 simp only [AA]
 refine rg [1] hs ?_
 apply An;intro K2 f
 obtain ⟨p,i,h⟩:=bind_some h
 refine rc 2 [1,7] hs ?_;intro K3 g
 refine Ax _ (LW w0 hT n _ _ _ a0 _ i) (hv hs) ?_
 refine ne hs g ?_
 clear g
 refine B6 h hs ?_ ?_<;>intro hs h
 ·refine rg [2] hs ?_
  exact rt h hs a d
 refine sk [1] hs f ?_
 clear f
 refine rg [1,3] hs ?_
 refine rg [1,3,4] hs ?_
 refine rg [1,3,4] hs ?_
 have d:=d.full 1 0
 obtain ⟨m,e,h⟩:=bind_some h
 refine rc 2 [3] hs ?_;intro K10 c
 refine EI _ (Ol w0 n _ _ _ a0 ([]) (B.length+1) ([]) .full (ef hs) d.enter (B.length+2) (ef hs) _ e) (hv hs) ?_;rintro _ _ ⟨rfl,Rg13,j,rfl,b⟩
 have d:=d.call b
 refine ne hs c ?_
 clear c
 refine rg [2] hs ?_
 exact rt h hs a d
def HE (n:Nat)  (b:List (List Part)):Option ((List (List Part))) :=
 some (b)
def Dy (n:Nat) (h:(List (List Part))):Nat→(List (List Part))→Int→Option ((List (List Part)))
 | 0,_,_=>none
 | m+1,g,b =>
  if decide (b<(h.length:Int)) then
   (Cj h b).bind fun q =>
   if (g.length+1)*24≤140737488355328∧g.length+1≤4611686018427387904 then
    if Bg (b+1) then
     (Dy n h m) (g++([q])) (b+1)
    else none
   else none
  else
   HE n g
def Ep (n:Nat) (b:Ty):Option ((List (List Part))) :=
 (F3 n b).bind fun g =>
 Dy n g n ([]) 0
theorem Nq (w0:World) (hT:Lib.Utf8Tabs 2 3 w0) (n:Nat) (B:Ao) (Rw:Av) (L:As) (a0:Ty) (r:(List (List Part))) (h:Ep n a0=some r) :
  ACalls Tryz.prog w0 84 [.agg (a0.cs)] ⟨B,Rw,L⟩ fun x st=>x = .list (r.map (I8 AG)) .none∧st=⟨B,Rw,L⟩:=by
 rw [Ep] at h
 refine hd [.tmp 2] Tryz.func84 Tryz.ntmps84 fun M0 W0 u l k i v o hs=>?_
 simp only [AA]
 refine rg [1] hs ?_
 refine rg [1,3] hs ?_
 refine AB (fun e st=>∃ (d:List (List Part)) (f:Ev.Own),Ck e st B Rw L [(3,true,.list (d.map (I8 AG)) f)] [a0.cs] [(1,d.length,f)] (HE n d=some r)) ?_ ?_
 ·intro K5 t
  obtain ⟨q,p,h⟩:=bind_some h
  refine rc 2 [3,7,8,9] hs ?_;intro K6 j
  refine Ax _ (QA w0 hT n _ _ _ a0 _ p) (hv hs) ?_
  refine ne hs j ?_
  clear j
  apply Ar
  refine AC (fun m e st=>∃ (b:List (List Part)) (g:Int) (c:Ev.Own),Ck e st B Rw L [(3,true,.list (b.map (I8 AG)) c),(7,true,.list (q.map (I8 AG)) .none),(8,true,Am (q.length:Int)),(9,true,Am g)] [a0.cs] [(1,b.length,c)] (Dy n q m b g=some r)) n ⟨([]),0,.full,([]),Rw,ef hs,ef hs,Owns.of_eq ((o).full 1 0) Ew,h⟩ ?_
  rintro ml8 e st ⟨b,g,c,Xl8,Rl8,rfl,rfl,o,h⟩ Ul8 Vl8
  cases ml8 with
  | zero=>cases h
  | succ ml8 =>
  rw [Dy] at h
  exact go (tg (a:=([3,7,8,9,10],([3,7,8,9],[3,5,7,8,9],[3,7,8,9],[3,7,8,9],()),[3],()))) h hs u l k i o (q1 (ae VA NP)) (q2 t (fun e s=>Vl8 ml8 e s (Nat.lt_succ_self _)))
 ·clear h;rintro e st ⟨d,f,Xk4,Rk4,rfl,rfl,o,h⟩
  rw [HE] at h
  exact go (tg (a:=([2],()))) h hs u l k i o trivial trivial
def E1 (n:Nat)  (b:Int):Option Int :=
 some (b)
def Dq (n:Nat) (b:Ty):Option Int :=
 (E7 n b).bind fun g =>
 if (decide (g=0))&&(!(decide (b.kind=9))) then
  E1 n 11
 else
  E1 n g
theorem MW (w0:World) (hT:Lib.Utf8Tabs 2 3 w0) (n:Nat) (B:Ao) (Rw:Av) (L:As) (a0:Ty) (r:Int) (h:Dq n a0=some r) :
  ACalls Tryz.prog w0 73 [.agg (a0.cs)] ⟨B,Rw,L⟩ fun x st=>x=Am r∧st=⟨B,Rw,L⟩:=by
 rw [Dq] at h
 refine hd [.tmp 2] Tryz.func73 Tryz.ntmps73 fun M0 W0 l f d c o i hs=>?_
 simp only [AA]
 refine rg [1] hs ?_
 obtain ⟨m,k,h⟩:=bind_some h
 refine rc 2 [1,3] hs ?_;intro K2 g
 refine Ax _ (LW w0 hT n _ _ _ a0 _ k) (hv hs) ?_
 refine ne hs g ?_
 clear g
 refine AB (fun e st=>∃ (b:Int),Ck e st B Rw L [(3,true,Am b)] [a0.cs] [] (E1 n b=some r)) ?_ ?_
 ·intro K6 j
  exact go (tg (a:=([3,12],([3],()),[3],()))) h hs l f d c i trivial (q1 j)
 ·clear h;rintro e st ⟨b,Xk5,Rk5,rfl,rfl,i,h⟩
  rw [E1] at h
  refine td l f d c i ?_
  refine rg [2] hs ?_
  exact rt h hs c i
def MA (n:Nat)  (b:ByteArray):Option (ByteArray × Int) :=
 if 0≤1∧1≤(b.size:Int)∧(b.size:Int)≤(b.size:Int) then
  some ((b.extract 1 b.size,0))
 else none
def G6 (n:Nat) (y:List Part):Nat→ByteArray→Int→Option (ByteArray × Int)
 | 0,_,_=>none
 | m+1,g,b =>
  if decide (b<(y.length:Int)) then
   (Cj y b).bind fun q =>
   (Fa q).bind fun h =>
   if g.size+h.size≤9223372036854775807 then
    if Bg (b+1) then
     (G6 n y m) (g++h) (b+1)
    else none
   else none
  else
   MA n g
def HV (n:Nat) (b:List Part):Option (ByteArray × Int) :=
 (Ic n b).bind fun g =>
 if !(decide (g=0)) then
  some (((⟨#[]⟩:ByteArray),g))
 else
  G6 n b n (⟨#[]⟩:ByteArray) 0
theorem Qa (w0:World) (hP:Pow10 w0) (n:Nat) (B:Ao) (Rw:Av) (L:As) (a0:List Part) (r:ByteArray × Int) (h:HV n a0=some r) :
  ACalls Tryz.prog w0 152 [.list (a0.map AG) .none] ⟨B,Rw,L⟩ fun x st=>x = .tup [.val (.string r.1),Am r.2]∧st=⟨B,Rw,L⟩:=by
 rw [HV] at h
 refine hd [.tmp 2,.tmp 3] Tryz.func152 Tryz.ntmps152 fun M0 W0 C l k d N i hs=>?_
 simp only [AA]
 refine rg [0] hs ?_
 apply An;intro K2 t
 obtain ⟨O,E,h⟩:=bind_some h
 refine rc 2 [0,4] hs ?_;intro K3 v
 refine Ax _ (SN w0 hP n _ _ _ a0 _ E) (hv hs) ?_
 refine ne hs v ?_
 clear v
 refine rg [0,4,11] hs ?_
 refine B6 h hs ?_ ?_<;>intro hs h
 ·refine rg [2,3] hs ?_
  exact rt h hs d i
 refine sk [0] hs t ?_
 clear t
 refine rg [0,5] hs ?_
 refine AB (fun e st=>∃ (g:ByteArray),Ck e st B Rw L [(5,true,.val (.string g))] [] [] (MA n g=some r)) ?_ ?_
 ·intro K11 z
  refine rg [5,13,14,15] hs ?_
  apply Ar
  refine AC (fun m e st=>∃ (b:ByteArray) (c:Int),Ck e st B Rw L [(5,true,.val (.string b)),(13,true,.list (a0.map AG) .none),(14,true,Am (a0.length:Int)),(15,true,Am c)] [] [] (G6 n a0 m b c=some r)) n ⟨(⟨#[]⟩:ByteArray),0,([]),Rw,ef hs,ef hs,i,h⟩ ?_
  rintro ml13 e st ⟨b,c,Xl13,Rl13,rfl,rfl,i,h⟩ Ul13 Vl13
  cases ml13 with
  | zero=>cases h
  | succ ml13 =>
  rw [G6] at h
  refine td C l k d i ?_
  refine rg [5,13,14,15,16] hs ?_
  apply An;intro K15 j
  refine B6 h hs ?_ ?_<;>intro hs h
  rotate_left
  ·refine sx [5] hs z ?_
   exact ⟨b,([]),Rl13,ef hs,ef hs,i,h⟩
  refine sk [5,13,14,15] hs j ?_
  clear j
  apply An;intro K17 w
  apply Ar
  obtain ⟨J,y,h⟩:=bind_some h
  obtain ⟨F,D,q⟩:=Bl y
  have p:=Bn (f:=AG) q
  have hs:=Ae p hs
  refine rg [5,7,13,14,15] hs ?_
  obtain ⟨K,H,h⟩:=bind_some h
  obtain ⟨u,h⟩:=Aw h
  have o:=u
  try simp +decide only [go_sem] at o
  exact go (tg (a:=([5,13,14,15],[5,13,14,15],()))) h hs C l k d i (q1 (Nk w0 hP)) (q2 w (fun e s=>Vl13 ml13 e s (Nat.lt_succ_self _)))
 ·clear h;rintro e st ⟨g,Xk10,Rk10,rfl,rfl,i,h⟩
  rw [MA] at h
  refine td C l k d i ?_
  obtain ⟨G,h⟩:=Aw h
  refine rg [2,3] hs ?_
  exact rt h hs d i
def D3 (n:Nat) (g:(List ByteArray)→(List ByteArray)→Int→Option ((List ByteArray) × (List ByteArray) × Int)) (b:Int) (h:List ByteArray) (q:List ByteArray):Option ((List ByteArray) × (List ByteArray) × Int) :=
 if Bg (b+1) then
  g h q (b+1)
 else none
def GY (n:Nat)  (g:List ByteArray) (b:List ByteArray):Option ((List ByteArray) × (List ByteArray) × Int) :=
 some ((g,b,0))
def BR (n:Nat) (y:((List Part) × Int)) (z:(List ByteArray)) (q:(List (List Part))):Nat→(List ByteArray)→(List ByteArray)→Int→Option ((List ByteArray) × (List ByteArray) × Int)
 | 0,_,_,_=>none
 | m+1,h,g,b =>
  if decide (b<(q.length:Int)) then
   (Cj q b).bind fun x36 =>
   (HV n x36).bind fun y38 =>
   (FX n z y.1 x36).bind fun y40 =>
   if y40 then
    if (h.length+1)*16≤140737488355328∧h.length+1≤4611686018427387904 then
     D3 n (BR n y z q m) b (h++([y38.1])) g
    else none
   else
    if (g.length+1)*16≤140737488355328∧g.length+1≤4611686018427387904 then
     D3 n (BR n y z q m) b h (g++([y38.1]))
    else none
  else
   GY n h g
def II (n:Nat) (z:List (ByteArray × Ex)) (a1:Ty) (a2:ByteArray):Option ((List ByteArray) × (List ByteArray) × Int) :=
 (CV n z).bind fun y4 =>
 (Dq n a1).bind fun y5 =>
 (Eh n ([y4,y5])).bind fun y =>
 if !(decide (y=0)) then
  some (([],[],y))
 else
  (Do n a2).bind fun b =>
  if !(decide (b.2=0)) then
   some (([],[],b.2))
  else
   (A3 n b.1 (fun (x0:Part)=>some (DY x0))).bind fun q =>
   if q then
    some (([],[],22))
   else
    (Db n z).bind fun g =>
    (Ep n a1).bind fun h =>
    BR n b g h n ([]) ([]) 0
theorem R2 (w0:World) (hE:JX w0) (hM:Kp w0) (hP:Pow10 w0) (hT:Lib.Utf8Tabs 2 3 w0) (n:Nat) (B:Ao) (Rw:Av) (L:As) (a0:List (ByteArray × Ex)) (a1:Ty) (a2:ByteArray) (r:(List ByteArray) × (List ByteArray) × Int) (h:II n a0 a1 a2=some r) :
  ACalls Tryz.prog w0 63 [.agg ([.list (a0.map Bd) .none]),.agg (a1.cs),.val (.string a2)] ⟨B,Rw,L⟩ fun x st=>x = .tup [.list (r.1.map C0) .none,.list (r.2.1.map C0) .none,Am r.2.2]∧st=⟨B,Rw,L⟩:=by
 rw [II] at h
 refine hd [.tmp 6,.tmp 7,.tmp 8] Tryz.func63 Tryz.ntmps63 fun M0 W0 hN G F i hu z hs=>?_
 simp only [AA]
 refine rg [2,3,4,6,7] hs ?_
 apply An;intro K2 ag
 obtain ⟨y4,a3,h⟩:=bind_some h
 obtain ⟨y5,au,h⟩:=bind_some h
 obtain ⟨y6,av,h⟩:=bind_some h
 apply An;intro K3 ao
 refine dk 7 4 1 [2,3,4,6,7,9] hs PS ?_
 refine Ax _ (Jj w0 hE hM hP n _ _ _ a0 _ a3) (hv hs) ?_
 refine nc hs ?_
 refine Ax _ (MW w0 hT n _ _ _ a1 _ au) (hv hs) ?_
 refine nc hs ?_
 refine Ax _ (KU w0 n _ _ _ ([y4,y5]) _ av) (hv hs) ?_
 refine dn hs ao ?_
 clear ao
 refine rg [2,3,4,6,7,9,23] hs ?_
 refine B6 h hs ?_ ?_<;>intro hs h
 ·refine rg [6,7,8] hs ?_
  exact rt h hs i z
 refine sk [2,3,4,6,7] hs ag ?_
 clear ag
 obtain ⟨C,ah,h⟩:=bind_some h
 refine rc 2 [3,4,6,7,8,10] hs ?_;intro K10 O
 refine Ax _ (Il w0 hE hM hP n _ _ _ a2 _ ah) (hv hs) ?_
 refine ne hs O ?_
 clear O
 apply An;intro K12 Y
 refine rg [3,4,6,7,8,10,31] hs ?_
 refine B6 h hs ?_ ?_<;>intro hs h
 ·refine rg [6,7,8] hs ?_
  exact rt h hs i z
 refine sk [3,4,6,7,10] hs Y ?_
 clear Y
 apply An;intro K16 N
 obtain ⟨a8,hy18,h⟩:=bind_some h
 refine rc 2 [3,4,6,7,10,34] hs ?_;intro K17 Q
 refine Ax _ (C9 w0 n _ _ _ C.1 151 [] (fun (x0:Part)=>some (DY x0)) (fun x0 r hx B' rows' a7 a9=>by cases hx;exact PQ w0 _ _ _ x0) _ hy18) (hv hs) ?_
 refine ne hs Q ?_
 clear Q
 refine B6 h hs ?_ ?_<;>intro hs h
 ·refine rg [6,7,8] hs ?_
  exact rt h hs i z
 refine sk [3,4,6,7,10] hs N ?_
 clear N
 obtain ⟨E,am,h⟩:=bind_some h
 refine rc 2 [4,6,7,10,11] hs ?_;intro K21 U
 refine Ax _ (OC w0 hE hM hP hT n _ _ _ a0 _ am) (hv hs) ?_
 refine ne hs U ?_
 clear U
 refine AB (fun e st=>∃ (u:List ByteArray) (t:List ByteArray) (v:Ev.Own) (w:Ev.Own),Ck e st B Rw L [(6,true,.list (u.map C0) v),(7,true,.list (t.map C0) w)] [[.list (a0.map Bd) .none],a1.cs] [(1,u.length,v),(1,t.length,w)] (GY n u t=some r)) ?_ ?_
 ·intro K25 aj
  obtain ⟨D,aq,h⟩:=bind_some h
  refine rc 2 [6,7,10,11,38,39,40] hs ?_;intro K26 ab
  refine Ax _ (Nq w0 hT n _ _ _ a1 _ aq) (hv hs) ?_
  refine ne hs ab ?_
  clear ab
  apply Ar
  refine AC (fun m e st=>∃ (c:List ByteArray) (g:List ByteArray) (b:Int) (o:Ev.Own) (d:Ev.Own),Ck e st B Rw L [(6,true,.list (c.map C0) o),(7,true,.list (g.map C0) d),(10,true,.list (C.1.map AG) .none),(11,true,.list (E.map C0) .none),(38,true,.list (D.map (I8 AG)) .none),(39,true,Am (D.length:Int)),(40,true,Am b)] [[.list (a0.map Bd) .none],a1.cs] [(1,c.length,o),(1,g.length,d)] (BR n C E D m c g b=some r)) n ⟨([]),([]),0,.full,.full,([]),Rw,ef hs,ef hs,Owns.of_eq (((z).full 1 0).full 1 0) Ew,h⟩ ?_
  rintro ml28 e st ⟨c,g,b,o,d,Xl28,Rl28,rfl,rfl,z,h⟩ Ul28 Vl28
  cases ml28 with
  | zero=>cases h
  | succ ml28 =>
  rw [BR] at h
  have hU:=z.unders
  simp only [List.mem_cons,List.not_mem_nil,or_false,forall_eq_or_imp,forall_eq] at hU
  obtain ⟨ax,a4⟩:=hU
  refine td hN G F i z ?_
  refine rg [6,7,10,11,38,39,40,41] hs ?_
  apply An;intro K30 V
  refine B6 h hs ?_ ?_<;>intro hs h
  rotate_left
  ·refine sx [6,7] hs aj ?_
   exact ⟨c,g,o,d,([]),Rl28,ef hs,ef hs,Owns.of_eq (((z).swap (List.Perm.swap _ _ _)).swap (List.Perm.swap _ _ _)) Ew,h⟩
  refine sk [6,7,10,11,38,39,40] hs V ?_
  clear V
  refine AB (fun e st=>∃ (l:List ByteArray) (p:List ByteArray) (j:Ev.Own) (k:Ev.Own),Ck e st B Rw L [(6,true,.list (l.map C0) j),(7,true,.list (p.map C0) k),(10,true,.list (C.1.map AG) .none),(11,true,.list (E.map C0) .none),(38,true,.list (D.map (I8 AG)) .none),(39,true,Am (D.length:Int)),(40,true,Am b)] [[.list (a0.map Bd) .none],a1.cs] [(1,l.length,j),(1,p.length,k)] (D3 n (BR n C E D ml28) b l p=some r)) ?_ ?_
  ·intro K34 J
   apply Ar
   obtain ⟨ar,ak,h⟩:=bind_some h
   obtain ⟨ay,a5,af⟩:=Bl ak
   have ad:=Bn (f:=(I8 AG)) af
   have hs:=Ae ad hs
   refine rg [6,7,10,11,13,38,39,40] hs ?_
   obtain ⟨aw,ai,h⟩:=bind_some h
   refine rc 2 [6,7,10,11,13,14,38,39,40] hs ?_;intro K37 aa
   refine Ax _ (Qa w0 hP n _ _ _ ar _ ai) (hv hs) ?_
   refine ne hs aa ?_
   clear aa
   obtain ⟨ba,ap,h⟩:=bind_some h
   refine rc 2 [6,7,10,11,14,38,39,40,52] hs ?_;intro K39 K
   refine Ax _ (Q6 w0 hE hM hP n _ _ _ E C.1 ar _ ap) (hv hs) ?_
   refine ne hs K ?_
   clear K
   refine B6 h hs ?_ ?_<;>intro hs h
   ·obtain ⟨Z,h⟩:=Aw h
    obtain ⟨az,H,z,q⟩:=z.append (P:=Tryz.prog) Qf (by rw [NJ];rfl) (by decide) 1 Z.1 Z.2
    replace q:=fun (ys:List AV) B L o2=>q (c.map C0) ys B L o2 Ew
    replace q:=fun (y:AV) B L o2=>q [y] B L o2 Ew ev
    try simp only [List.mem_singleton,List.mem_cons,List.not_mem_nil,or_false,forall_eq_or_imp,forall_eq,List.map_append,List.map_cons,List.map_nil,Fe,Fj,Fq,Eu,Eo,Ft,CO,DN,Fz,Ce,Cd,DG,DK,DO,Fg,DL,Fo] at q
    have hs:=Ae q hs
    refine rl [6,7,10,11,38,39,40] hs J ?_
    exact ⟨(c++([aw.1])),g,az,d,([]),H,ef hs,ef hs,Owns.of_eq (((z).swap (List.Perm.swap _ _ _)).swap (List.Perm.swap _ _ _)) Ew,h⟩
   exact go (tg (a:=([6,7,10,11,38,39,40],()))) h hs hN G F i z (q1 (ae Qf NJ)) (q1 J)
  ·clear h;rintro e st ⟨l,p,j,k,Xk33,Rk33,rfl,rfl,z,h⟩
   rw [D3] at h
   have hU:=z.unders
   simp only [List.mem_cons,List.not_mem_nil,or_false,forall_eq_or_imp,forall_eq] at hU
   obtain ⟨ax,a4⟩:=hU
   refine td hN G F i z ?_
   obtain ⟨a6,h⟩:=Aw h
   refine rl [6,7,10,11,38,39,40] hs (fun e s=>Vl28 ml28 e s (Nat.lt_succ_self _)) ?_
   exact ⟨l,p,(b+1),j,k,([]),Rk33,ef hs,ef hs,Owns.of_eq (((z).swap (List.Perm.swap _ _ _)).swap (List.Perm.swap _ _ _)) Ew,h⟩
 ·clear h;rintro e st ⟨u,t,v,w,Xk24,Rk24,rfl,rfl,z,h⟩
  rw [GY] at h
  exact go (tg (a:=([6,7,8],()))) h hs hN G F i z trivial trivial
theorem Vd (n:Nat) (l f:List Part) (hl:l.length≤1000000) (hn:l.length<n):CQ n l f=some (Ws l f):=by
 rw [CQ,Ws]
 by_cases h:f.length≤l.length
 ·have a:(l.take f.length).length=f.length:=by rw [List.length_take];omega
  rw [Ad,Ai rfl,Ai ⟨by decide,by omega,by omega⟩,ZgQ n _ f a (by omega) (by omega),UZ,Af,Ah h,Bool.true_and]
 ·rw [Ac,Aj (by decide),Ag h,Bool.false_and]
def Part.plain (p:Part):Prop:=p.kind=3→p.index=0∧p.name=⟨#[]⟩
theorem Tf (n:Nat) (a b:List Part) (h:a.length=b.length) (hl:a.length≤1000000):∀ (k m i:Nat),i+k=a.length→k<m→A9 n a b (fun (x0:Part) (x1:Part)=>some (BE x0 x1)) m i=some (Ks BE (a.drop i) (b.drop i))
 | k,0,i,_,h=>absurd h (Nat.not_lt_zero _)
 | 0,m+1,i,hi,_=>by
  rw [A9,AU,Ac,Aj (by decide),Eg,UP _ (by omega)]
 | k+1,m+1,i,hi,hm=>by
  have d:i<a.length:=by omega
  have c:i<b.length:=by omega
  have ih:=Tf n a b h hl k m (i+1) (by omega) (by omega)
  rw [A9,AU,Ah d,Ai rfl,AN d,Af,AN c,Af,U6 _ d c,Af]
  cases BE a[i] b[i] with
  | false=>rfl
  | true =>
   rw [Aj (by decide),Ai (AW (by omega)),Bool.true_and]
   exact ih
theorem XU (f:Part→Part→Bool):∀ (a b:List Part) (k:Nat),a.length≤k∨b.length≤k→Ks f (a.take k) (b.take k)=Ks f a b
 | [],b,k,_=>by simp [Ks]
 | x::a,[],k,_=>by rw [List.take_nil,PI,PI]
 | x::a,y::b,0,h=>by simp at h
 | x::a,y::b,k+1,h=>by
  rw [List.take_succ_cons,List.take_succ_cons,Ks,Ks,XU f a b k (by simp only [List.length_cons] at h;omega)]
theorem ZbB (n:Nat) (a b:List Part) (hl:a.length≤1000000) (hn:a.length<n):HY n a b=some (Ks BE a b):=by
 have f:∃ k:Nat,(if (b.length:Int)<(a.length:Int) then (b.length:Int) else (a.length:Int))=(k:Int)∧k≤a.length∧k≤b.length∧(a.length≤k∨b.length≤k):=by
  by_cases c:(b.length:Int)<(a.length:Int)
  ·rw [Ai c];exact ⟨b.length,rfl,by omega,by omega,by omega⟩
  ·rw [Aj c];exact ⟨a.length,rfl,by omega,by omega,by omega⟩
 obtain ⟨k,e,l,h,d⟩:=f
 have g:(k:Int).toNat=k:=rfl
 have j:(a.take k).length=k:=by rw [List.length_take];omega
 have i:(b.take k).length=k:=by rw [List.length_take];omega
 rw [HY,e,Ai ⟨by decide,by omega,by omega⟩,Ai ⟨by decide,by omega,by omega⟩,g,Ez,Ad,Aj (by decide)]
 have:=Tf n (a.take k) (b.take k) (by omega) (by omega) k n 0 (by omega) (by omega)
 rw [List.drop_zero,List.drop_zero,XU _ a b k d] at this
 have this:A9 n (a.take k) (b.take k) (fun (x0:Part) (x1:Part)=>some (BE x0 x1)) n 0=_:=this
 rw [this,Af]
def Q0 (n:Nat) (f leaf:List Part) (s:ByteArray):Bool :=
 decide ((prs n s).2=0)&&(Ws f (prs n s).1||(Ws (prs n s).1 f&&Ks BE ((prs n s).1.drop f.length) leaf))
theorem Zb9 {l f:List Part} (h:Ws l f=true):f.length≤l.length:=by
 unfold Ws at h
 rw [Bool.and_eq_true] at h
 exact of_decide_eq_true h.1
theorem ZeP (n:Nat) (hn:400≤n) (s:ByteArray) (f leaf:List Part) (hf:f.length≤16):Dp n s f leaf=some (Q0 n f leaf s):=by
 obtain ⟨e,ok⟩:=Zbv n (by omega) s
 have o1:=ok.1
 rw [Dp,e,Af,Q0]
 generalize prs n s=r at ok o1 ⊢
 by_cases c:r.2=0
 rotate_left
 ·rw [Ag c];rfl
 rw [Ah c,Ai rfl,Bool.true_and,Vd n _ _ (by omega) (by omega),Af,Vd n _ _ (by omega) (by omega),Af]
 cases Ws f r.1 with
 | true=>rfl
 | false =>
  rw [Aj (by decide),Bool.false_or]
  cases h:Ws r.1 f with
  | false=>rfl
  | true =>
   have:=Zb9 h
   have a:(f.length:Int).toNat=f.length:=rfl
   rw [Ai rfl,Ai ⟨by omega,by omega,by omega⟩,ZbB n _ _ (by rw [List.length_drop];omega) (by rw [List.length_drop];omega),Bool.true_and,Af]
theorem Zgu (n:Nat) (hn:1100≤n) (ss:List ByteArray) (hs:ss.length≤1000) (f leaf:List Part) (hf:f.length≤16):FX n ss f leaf=some (ss.any (Q0 n f leaf)):=by
 rw [FX,VJ n ss _ (Q0 n f leaf) (fun x _=>ZeP n (by omega) x f leaf hf) (by omega) (by omega),Af]
theorem Xp (n:Nat) (l:List Part) (hp:∀ p∈l,pOk p=true) (hl:l.length≤20):∀ (k m i:Nat) (s:ByteArray),i+k=l.length→k<m→s.size≤40*i→i≤s.size→1≤l.length→∃ r,G6 n l m s i=some r
 | k,0,i,_,_,h,_,_,_=>absurd h (Nat.not_lt_zero _)
 | 0,m+1,i,s,hi,_,h,h2,h1=>by
  rw [G6,AU,Ac,Aj (by decide),MA,Ai ⟨by decide,by omega,by omega⟩]
  exact ⟨_,rfl⟩
 | k+1,m+1,i,s,hi,hm,h,h2,h1=>by
  have a:i<l.length:=by omega
  obtain ⟨w,e,z,b,c⟩:=XN l[i] (hp _ (List.getElem_mem a))
  rw [G6,AU,Ah a,Ai rfl,AN a,Af,e,Af,Ab,Ai (AW (by omega))]
  exact Xp n l hp hl k m (i+1) (s++w) (by omega) (by omega) (by rw [ByteArray.size_append];omega) (by rw [ByteArray.size_append];omega) h1
theorem Zef (n:Nat) (hn:25≤n) (l:List Part) (hp:∀ p∈l,p.wf∧pOk p=true) (hl:l.length≤20):∃ r,HV n l=some r:=by
 obtain ⟨b,e⟩:=WL n hn l (fun p h=>(hp p h).1) hl
 rw [HV,e,Af]
 cases b with
 | false=>exact ⟨_,rfl⟩
 | true =>
  rw [Ai rfl,Aj (by decide)]
  rcases Nat.eq_zero_or_pos l.length with h | h
  ·have:l=[]:=List.length_eq_zero_iff.1 h
   subst this
   rw [Ic] at e
   rw [Ai (by rfl)] at e
   exact absurd (Option.some.inj e) (by decide)
  ·exact Xp n l (fun p h=>(hp p h).2) hl l.length n 0 ⟨#[]⟩ (by omega) (by omega) (Nat.zero_le _) (Nat.zero_le _) h
def Y2 (n:Nat) (l:List Part):ByteArray × Int:=(HV n l).getD (⟨#[]⟩,0)
theorem Zea (n:Nat) (hn:25≤n) (l:List Part) (hp:∀ p∈l,p.wf∧pOk p=true) (hl:l.length≤20):HV n l=some (Y2 n l):=by
 obtain ⟨r,e⟩:=Zef n hn l hp hl
 rw [Y2,e];rfl
theorem Leads.pOk {t x:Ty} {l:List Part} (h:Leads t l x) (tg:t.Good):∀ p∈l,p.wf∧pOk p=true:=by
 intro p hp
 refine ⟨h.wf tg p hp,?_⟩
 induction h with
 | nil=>simp at hp
 | @cons t x q l h k ih =>
  rcases List.mem_cons.1 hp with rfl | hp
  ·have own:=tg.own
   unfold BB at h
   split at h
   ·obtain ⟨e,a,rfl⟩:=List.mem_map.1 h;rfl
   ·split at h
    ·obtain ⟨e,a,rfl⟩:=List.mem_map.1 h
     have:=(own.each e a).1
     show (if (1:Int)=1∨(1:Int)=4 then decide ((0:Int)=0)&&EK e.2.1 else _)=true
     rw [Ai (by decide),this];rfl
    ·split at h
     ·obtain ⟨e,a,rfl⟩:=List.mem_map.1 h
      have:=(own.each e a).1
      show (if (4:Int)=1∨(4:Int)=4 then decide ((0:Int)=0)&&EK e.2.1 else _)=true
      rw [Ai (by decide),this];rfl
     ·simp at h
  ·exact ih (QN tg h) hp
def TK (ls:List (List Part)):Prop:=ls.length≤1000∧∀ l∈ls,l.length≤20∧∀ p∈l,p.wf∧pOk p=true
theorem Ye (n:Nat) (hn:3000000≤n) (t:Ty) (ht:t.small):∃ c ls,E7 n t=some c∧F3 n t=some ls∧TK ls:=by
 have i:=ht.1
 have d:=ht.2.1
 obtain ⟨c,e,f⟩:=QE n t hn ht
 by_cases h:c=0
 ·have tg:=(f h).good
  refine ⟨c,lvs n t [],e,?_,?_⟩
  ·rw [F3,e,Af,Ah h,Aj (by decide),QR n t [] [] (by omega) (by simp only [List.length_nil];omega) (by omega) (by simp only [List.length_nil];omega),List.nil_append]
   rfl
  ·have:=Wl n t []
   refine ⟨by omega,fun l a=>?_⟩
   obtain ⟨g,x,q1,q2,q3,b⟩:=U8 n t [] l a
   rw [List.nil_append] at q1
   subst q1
   exact ⟨by omega,q2.pOk tg⟩
 ·refine ⟨c,[],e,?_,by simp,by simp⟩
  rw [F3,e,Af,Ag h]
  rfl
theorem RP (n:Nat) (y:List (List Part)) (hl:y.length≤1000000):∀ (k m i:Nat),i+k=y.length→k<m→Dy n y m (y.take i) i=some y
 | k,0,i,_,h=>absurd h (Nat.not_lt_zero _)
 | 0,m+1,i,hi,_=>by
  rw [Dy,AU,Ac,Aj (by decide),HE,List.take_of_length_le (by omega)]
 | k+1,m+1,i,hi,hm=>by
  have a:i<y.length:=by omega
  rw [Dy,AU,Ah a,Ai rfl,AN a,Af,Ai (by rw [List.length_take];omega),Ai (AW (by omega))]
  have e:y.take i++[y[i]]=y.take (i+1):=by rw [List.take_succ_eq_append_getElem a]
  rw [e]
  exact RP n y hl k m (i+1) (by omega) (by omega)
theorem Y7 (n:Nat) (t:Ty) (ls:List (List Part)) (h:F3 n t=some ls) (hl:ls.length≤1000000) (hn:ls.length<n):Ep n t=some ls:=by
 rw [Ep,h,Af]
 have:=RP n ls hl ls.length n 0 (by omega) hn
 rw [List.take_zero] at this
 exact this
theorem OG (n:Nat) (hn:1100≤n) (y:List Part × Int) (hy:y.1.length≤16) (ss:List ByteArray) (hs:ss.length≤1000) (ls:List (List Part)) (hl:TK ls):∀ (k m i:Nat) (a b:List ByteArray),i+k=ls.length→k<m→a.length≤i→b.length≤i →
  BR n y ss ls m a b i=some (a++((ls.drop i).filter fun l=>ss.any (Q0 n y.1 l)).map (fun l=>(Y2 n l).1),b++((ls.drop i).filter fun l => !ss.any (Q0 n y.1 l)).map (fun l=>(Y2 n l).1),0)
 | k,0,i,_,_,_,h,_,_=>absurd h (Nat.not_lt_zero _)
 | 0,m+1,i,a,b,hi,_,_,_=>by
  rw [BR,AU,Ac,Aj (by decide),GY,List.drop_eq_nil_of_le (by omega)]
  simp
 | k+1,m+1,i,a,b,hi,hm,ha,hb=>by
  have c:i<ls.length:=by omega
  have d:=hl.1
  obtain ⟨q1,q2⟩:=hl.2 _ (List.getElem_mem c)
  rw [BR,AU,Ah c,Ai rfl,AN c,Af,Zea n (by omega) _ q2 q1,Af,Zgu n hn ss hs _ _ hy,Af,List.drop_eq_getElem_cons c,List.filter_cons,List.filter_cons]
  cases ss.any (Q0 n y.1 ls[i]) with
  | true =>
   rw [Ai rfl,Ab,D3,Ai (AW (by omega))]
   have ih:=OG n hn y hy ss hs ls hl k m (i+1) (a++[(Y2 n ls[i]).1]) b (by omega) (by omega) (by rw [IF];omega) (by omega)
   refine Eq.trans ih ?_
   simp
  | false =>
   rw [Aj (by decide),Ab,D3,Ai (AW (by omega))]
   have ih:=OG n hn y hy ss hs ls hl k m (i+1) a (b++[(Y2 n ls[i]).1]) (by omega) (by omega) (by omega) (by rw [IF];omega)
   refine Eq.trans ih ?_
   simp
theorem Zas (n:Nat) (hn:5≤n) (a b:Int):Eh n [a,b]=some (if a=0 then b else a):=by
 obtain ⟨m,rfl⟩:∃ m,n=m+3:=⟨n-3,by omega⟩
 have c:Cj [a,b] 0=some a:=rfl
 have e:Cj [a,b] (0+1)=some b:=rfl
 have d:Bg (0+1):=by unfold Bg;omega
 have f:Bg (0+1+1):=by unfold Bg;omega
 rw [Eh,En,Ai (by simp),c,Af]
 by_cases h:a=0
 ·rw [Ah h,Aj (by decide),Ai d,En,Ai (by simp),e,Af,Ai h]
  by_cases k:b=0
  ·rw [Ah k,Aj (by decide),Ai f,En,Aj (by simp),IH,k]
  ·rw [Ag k,Ai (by decide)]
 ·rw [Ag h,Ai (by decide),Aj h]
def Ba (b:ByteArray):Ex :=
 Ex.mk 2 0 b ([]) ([])
theorem Yl (w0:World) (B:Ao) (Rw:Av) (L:As) (a0:ByteArray) (r:Ex) (h:Ba a0=r) :
  ACalls Tryz.prog w0 31 [.val (.string a0)] ⟨B,Rw,L⟩ fun x st=>x = .agg (r.cs)∧st=⟨B,Rw,L⟩:=by
 rw [Ba] at h
 refine hd [.cell 2 65] Tryz.func31 Tryz.ntmps31 fun M0 W0 f c b a e d hs=>?_
 simp only [AA]
 refine rg [0,2] hs ?_
 refine rg [2] hs ?_
 exact rT h hs a d
theorem I1 (w0:World) (B:Ao) (Rw:Av) (L:As) (a0:ByteArray) :
  ACalls Tryz.prog w0 31 [.val (.string a0)] ⟨B,Rw,L⟩ fun x st=>x = .agg ((Ba a0).cs)∧st=⟨B,Rw,L⟩:=Yl w0 B Rw L a0 _ rfl
def JS (n:Nat)  (b1_k4_6:List (Int × ByteArray × Int × Ty × List Vl)):Option Ty :=
 some (Ty.mk 9 0 0 0 ([]) ([]) b1_k4_6)
def Hw (n:Nat) (h:List ByteArray) (q:Ty):Nat→Int→(List (Int × ByteArray × Int × Ty × List Vl))→Option Ty
 | 0,_,_=>none
 | m+1,b,b1_l7_6 =>
  if decide (b<(h.length:Int)) then
   if Bg (b+1) then
    (Cj h b).bind fun g =>
    if (b1_l7_6.length+1)*160≤140737488355328∧b1_l7_6.length+1≤4611686018427387904 then
     if Bg (b+1) then
      (Hw n h q m) (b+1) (b1_l7_6++([(b+1,g,1,q,[])]))
     else none
    else none
   else none
  else
   JS n b1_l7_6
def IG (n:Nat) (b:List ByteArray) (g:Ty):Option Ty :=
 Hw n b g n 0 ([])
theorem Nz (w0:World) (n:Nat) (B:Ao) (Rw:Av) (L:As) (a0:List ByteArray) (la1:Nat) (a1:Ty) (hla1:B[la1]? = some (a1.cs)) (r:Ty) (h:IG n a0 a1=some r) :
  ACalls Tryz.prog w0 71 [.list (a0.map C0) .none,.box la1 0] ⟨B,Rw,L⟩ fun x st=>x = .agg (r.cs)∧st=⟨B,Rw,L⟩:=by
 rw [IG] at h
 refine hd [.cell 3 26] Tryz.func71 Tryz.ntmps71 fun M0 W0 H t q i K j hs=>?_
 simp only [AA]
 have v:=(Ak.1 hla1).1
 have hs:=Ae (Aq hla1) hs
 refine rg [0,1,3] hs ?_
 refine rg [0,1,3,4] hs ?_
 refine AB (fun e st=>∃ (c:List (Int × ByteArray × Int × Ty × List Vl)) (d:Ev.Own),Ck e st B Rw L [(3,true,.box B.length 0),(4,true,.box (B.length+1) 0)] [[Am 0,Am 0,Am 0,Am 0,.list ([]) .full,.list ([]) .full,.list ([]) .full],[Am 9,Am 0,Am 0,Am 0,.list ([]) .full,.list ([]) .full,.list (c.map BS) d]] [(11,c.length,d)] (JS n c=some r)) ?_ ?_
 ·intro K5 F
  refine rg [0,1,3,4,5] hs ?_
  apply Ar
  refine AC (fun m e st=>∃ (g:Int) (a:List (Int × ByteArray × Int × Ty × List Vl)) (b:Ev.Own),Ck e st B Rw L [(0,true,.list (a0.map C0) .none),(1,true,.box la1 0),(3,true,.box B.length 0),(4,true,.box (B.length+1) 0),(5,true,Am g)] [[Am 0,Am 0,Am 0,Am 0,.list ([]) .full,.list ([]) .full,.list ([]) .full],[Am 9,Am 0,Am 0,Am 0,.list ([]) .full,.list ([]) .full,.list (a.map BS) b]] [(11,a.length,b)] (Hw n a0 a1 m g a=some r)) n ⟨0,([]),.full,([]),Rw,ef hs,ef hs,Owns.of_eq ((j).full 11 0) Ew,h⟩ ?_
  rintro ml7 e st ⟨g,a,b,Xl7,Rl7,rfl,rfl,j,h⟩ Ul7 Vl7
  cases ml7 with
  | zero=>cases h
  | succ ml7 =>
  rw [Hw] at h
  have z:=j.unders
  simp only [List.mem_cons,List.not_mem_nil,or_false,forall_eq_or_imp,forall_eq] at z
  refine td H t q i j ?_
  apply An;intro K8 u
  refine rg [0,1,3,4,5,10] hs ?_
  refine B6 h hs ?_ ?_<;>intro hs h
  rotate_left
  ·refine sx [3,4] hs F ?_
   exact ⟨a,b,([]),Rl7,ef hs,ef hs,Owns.of_eq (j) Ew,h⟩
  refine sk [0,1,3,4,5] hs u ?_
  clear u
  apply An;intro K11 l
  apply Ar
  obtain ⟨G,h⟩:=Aw h
  obtain ⟨E,C,w,p,h⟩:=ix C0 h
  obtain ⟨o,h⟩:=Aw h
  obtain ⟨D,k,j,f⟩:=j.append (P:=Tryz.prog) S8 (by rw [M9];rfl) (by decide) 1 o.1 o.2
  replace f:=fun (ys:List AV) B L o2=>f (a.map BS) ys B L o2 Ew
  replace f:=fun (y:AV) B L o2=>f [y] B L o2 Ew ev
  try simp only [List.mem_singleton,List.mem_cons,List.not_mem_nil,or_false,forall_eq_or_imp,forall_eq,List.map_append,List.map_cons,List.map_nil,Fe,Fj,Fq,Eu,Eo,Ft,CO,DN,Fz,Ce,Cd,DG,DK,DO,Fg,DL,Fo] at f
  have hs:=Ae p hs
  have hs:=Ae (Ty.cs_eqs a1) hs
  have hs:=Ae f hs
  refine dl 11 1 1 [0,1,3,4,5] hs PS l ?_
  clear l
  obtain ⟨J,h⟩:=Aw h
  refine rl [0,1,3,4,5] hs (fun e s=>Vl7 ml7 e s (Nat.lt_succ_self _)) ?_
  exact ⟨(g+1),(a++([(g+1,E,1,a1,[])])),D,([]),k,ef hs,ef hs,Owns.of_eq (j) Ew,h⟩
 ·clear h;rintro e st ⟨c,d,Xk4,Rk4,rfl,rfl,j,h⟩
  rw [JS] at h
  have z:=j.unders
  simp only [List.mem_cons,List.not_mem_nil,or_false,forall_eq_or_imp,forall_eq] at z
  refine td H t q i j ?_
  refine rg [3] hs ?_
  exact rt h hs i j
def Jo (n:Nat)  (b1_k4_6:List (Int × ByteArray × Int × Ty × List Vl)):Option Ty :=
 some (Ty.mk 9 0 0 0 ([]) ([]) b1_k4_6)
def GV (n:Nat) (g:List ByteArray) (q:Ty):Nat→Int→(List (Int × ByteArray × Int × Ty × List Vl))→Option Ty
 | 0,_,_=>none
 | m+1,b,b1_l7_6 =>
  if decide (b<(g.length:Int)) then
   if Bg (b+1) then
    (Cj g b).bind fun h =>
    if (b1_l7_6.length+1)*160≤140737488355328∧b1_l7_6.length+1≤4611686018427387904 then
     if Bg (b+1) then
      (GV n g q m) (b+1) (b1_l7_6++[(b+1,h,1,q,[])])
     else none
    else none
   else none
  else
   Jo n b1_l7_6
def J3 (n:Nat) (b:List ByteArray) (g:Ty):Option Ty :=
 GV n b g n 0 ([])
theorem Q1 (w0:World) (n:Nat) (B:Ao) (Rw:Av) (L:As) (a0:List ByteArray) (la1:Nat) (a1:Ty) (hla1:B[la1]? = some (a1.cs)) (r:Ty) (h:J3 n a0 a1=some r) :
  ACalls Tryz.prog w0 71 [.list (a0.map C0) .none,.box la1 0] ⟨B,Rw,L⟩ fun x st=>∃ (o0:VO) (rows:Av),x = .agg ([Am r.kind,Am r.min,Am r.max,Am r.scale,.list (r.words.map C0) .none,.list (r.elem.map IX) .none,OV o0 r.fields.length])∧st=⟨B,rows,L⟩∧Owns Rw rows [] .none [(o0,11,(r.fields).flatMap fun x=>(BS x).cells)]:=by
 rw [J3] at h
 refine ACalls.finV (YC [true,true,true,true,true,true,false] (rs:=[.cell 3 26]) Tryz.func71 rfl rfl Tryz.ntmps71 (AY Tryz.func71 rfl (by decide)) (Nat.le_of_ble_eq_true rfl) ?_)
 intro M0 W0 C u t i K
 dsimp only at C u t i K
 simp only [AA]
 have j:=Owns.none Rw
 have hs:=ZbW
 have z:=(Ak.1 hla1).1
 have hs:=Ae (Aq hla1) hs
 refine rg [0,1,3] hs ?_
 refine rg [0,1,3,4] hs ?_
 refine AB (fun e st=>∃ (d:List (Int × ByteArray × Int × Ty × List Vl)) (g:VO) (Xk4:Ao) (Rk4:Av),e=[(3,true,.box B.length 0),(4,true,.box (B.length+1) 0)]∧st=⟨B++([[Am 0,Am 0,Am 0,Am 0,.list ([]) .full,.list ([]) .full,.list ([]) .full],[Am 9,Am 0,Am 0,Am 0,.list ([]) .full,.list ([]) .full,OV g d.length]]++Xk4),Rk4,L⟩∧Owns Rw Rk4 [] .none [(g,11,d.flatMap fun x=>(BS x).cells)]∧Jo n d=some r) ?_ ?_
 ·intro K5 G
  refine rg [0,1,3,4,5] hs ?_
  apply Ar
  refine Px (B.length+1) 6 (by simp only [FC,D8,D6,C4];rfl) rfl ?_;simp +decide only [go_sem,Nat.reduceAdd,List.set_cons_zero,List.set_cons_succ]
  have j:=j.nilV 11
  refine AC (fun m e st=>∃ (c:Int) (a:List (Int × ByteArray × Int × Ty × List Vl)) (b:VO) (Xl7:Ao) (Rl7:Av),e=[(0,true,.list (a0.map C0) .none),(1,true,.box la1 0),(3,true,.box B.length 0),(4,true,.box (B.length+1) 0),(5,true,Am c)]∧st=⟨B++([[Am 0,Am 0,Am 0,Am 0,.list ([]) .full,.list ([]) .full,.list ([]) .full],[Am 9,Am 0,Am 0,Am 0,.list ([]) .full,.list ([]) .full,OV b a.length]]++Xl7),Rl7,L⟩∧Owns Rw Rl7 [] .none [(b,11,a.flatMap fun x=>(BS x).cells)]∧GV n a0 a1 m c a=some r) n ⟨0,([]),.nil,([]),Rw,ef hs,ef hs,Owns.eqV (j) fn_,h⟩ ?_
  rintro ml7 e st ⟨c,a,b,Xl7,Rl7,rfl,rfl,j,h⟩ Ul7 Vl7
  cases ml7 with
  | zero=>cases h
  | succ ml7 =>
  rw [GV] at h
  have l:=j.underV
  simp only [List.mem_cons,List.not_mem_nil,or_false,forall_eq_or_imp,forall_eq] at l
  refine A1 C u t rfl i j ow ow ?_ (vu @V0)
  apply An;intro K9 y
  refine rg [0,1,3,4,5,10] hs ?_
  refine B6 h hs ?_ ?_<;>intro hs h
  rotate_left
  ·refine sx [3,4] hs G ?_
   exact ⟨a,b,([]),Rl7,ef hs,ef hs,Owns.eqV (j) fn_,h⟩
  refine sk [0,1,3,4,5] hs y ?_
  clear y
  apply An;intro K12 p
  apply Ar
  obtain ⟨H,h⟩:=Aw h
  obtain ⟨w,E,D,v,h⟩:=ix C0 h
  obtain ⟨q,h⟩:=Aw h
  obtain ⟨F,o,j,k⟩:=j.appendV (P:=Tryz.prog) (n:=a.length) (m:=1) S8 (by rw [M9];rfl) (by decide) ((JW (f:=BS) (sz:=11) (fun _=>by simp +decide only [go_sem]) _)) q.1 q.2 [BS ((c+1,w,1,a1,[]))] rfl ((a++[(c+1,w,1,a1,[])]).flatMap fun x=>(BS x).cells) (by simp only [List.flatMap_append,List.flatMap_cons,List.flatMap_nil,List.append_nil,List.nil_append,UV])
  simp only [List.mem_singleton,forall_eq,Fe,Fj,Fq,Eu,Eo,Ft,CO,DN,Fz,Ce,Cd,DG,DK,DO,Fg,DL,Fo,Ty.cs_eqs a1,List.cons_append,List.nil_append,List.map_nil,List.map_cons] at k
  have hs:=Ae v hs
  have hs:=Ae (Ty.cs_eqs a1) hs
  have hs:=Ae k hs
  refine dl 11 1 1 [0,1,3,4,5] hs PS p ?_
  clear p
  obtain ⟨J,h⟩:=Aw h
  refine rl [0,1,3,4,5] hs (fun e s=>Vl7 ml7 e s (Nat.lt_succ_self _)) ?_
  exact ⟨(c+1),(a++[(c+1,w,1,a1,[])]),F,([]),o,ef hs,ef hs,Owns.eqV (j) fn_,h⟩
 ·clear h;rintro e st ⟨d,g,Xk4,Rk4,rfl,rfl,j,h⟩
  rw [Jo] at h
  have l:=j.underV
  simp only [List.mem_cons,List.not_mem_nil,or_false,forall_eq_or_imp,forall_eq] at l
  refine A1 C u t rfl i j ow ow ?_ (vu @V0)
  refine rg [3] hs ?_
  apply A0;simp +decide only [go_sem,Nat.reduceAdd,Aq hla1]
  have hgt:=Option.some.inj h;subst hgt
  have l:=j.underV
  simp only [List.mem_cons,List.not_mem_nil,or_false,forall_eq_or_imp,forall_eq] at l
  refine Zf7 j i rfl (by (simp +decide only [go_sem,Nat.reduceAdd,Aq hla1])<;>(try (repeat' apply Ae))<;>first | omega | assumption) (vu @V0) ⟨_,_,?_,rfl,j.sub (List.nil_sublist _)⟩
  first | rfl | (simp +decide only [go_sem,Nat.reduceAdd,Aq hla1];done) | (simp +decide only [go_sem,Nat.reduceAdd,Vl.cs,Ty.cs,Aq hla1];done)
def Bh (b:ByteArray) (g:Ex):((ByteArray × Ex)) :=
 (b,g)
theorem XX (w0:World) (B:Ao) (Rw:Av) (L:As) (a0:ByteArray) (a1:Ex) (r:(ByteArray × Ex)) (h:Bh a0 a1=r) :
  ACalls Tryz.prog w0 30 [.val (.string a0),.agg (a1.cs)] ⟨B,Rw,L⟩ fun x st=>x = .agg (.val (.string r.1)::(r.2.cs))∧st=⟨B,Rw,L⟩:=by
 rw [Bh] at h
 refine hd [.cell 4 67] Tryz.func30 Tryz.ntmps30 fun M0 W0 f c b a e d hs=>?_
 simp only [AA]
 refine rg [0,3,4] hs ?_
 refine rg [4] hs ?_
 exact rT h hs a d
theorem H6 (w0:World) (B:Ao) (Rw:Av) (L:As) (a0:ByteArray) (a1:Ex) :
  ACalls Tryz.prog w0 30 [.val (.string a0),.agg (a1.cs)] ⟨B,Rw,L⟩ fun x st=>x = .agg (.val (.string (Bh a0 a1).1)::((Bh a0 a1).2.cs))∧st=⟨B,Rw,L⟩:=XX w0 B Rw L a0 a1 _ rfl
def Jb (n:Nat)  : Option Int :=
 some (0)
def GW (n:Nat) (h:List (ByteArray × Ex)):Nat→Int→Option Int
 | 0,_=>none
 | m+1,b =>
  if decide (b<(h.length:Int)) then
   (Cj h b).bind fun q =>
   (Jv n q.2).bind fun g =>
   if !(decide (g=0)) then
    some (g)
   else
    if Bg (b+1) then
     (GW n h m) (b+1)
    else none
  else
   Jb n 
def FU (n:Nat) (b:List (ByteArray × Ex)):Option Int :=
 GW n b n 0
theorem I9 (w0:World) (hE:JX w0) (hM:Kp w0) (hP:Pow10 w0) (hT:Lib.Utf8Tabs 2 3 w0) (n:Nat) (B:Ao) (Rw:Av) (L:As) (a0:List (ByteArray × Ex)) (r:Int) (h:FU n a0=some r) :
  ACalls Tryz.prog w0 74 [.agg ([.list (a0.map Bd) .none])] ⟨B,Rw,L⟩ fun x st=>x=Am r∧st=⟨B,Rw,L⟩:=by
 rw [FU] at h
 refine hd [.tmp 2] Tryz.func74 Tryz.ntmps74 fun M0 W0 u i g b D d hs=>?_
 simp only [AA]
 refine rg [1] hs ?_
 refine AB (fun e st=>Ck e st B Rw L [] [[.list (a0.map Bd) .none]] [] (Jb n  = some r)) ?_ ?_
 ·intro K4 v
  refine rg [7,8,9] hs ?_
  apply Ar
  refine AC (fun m e st=>∃ (c:Int),Ck e st B Rw L [(7,true,.list (a0.map Bd) .none),(8,true,Am (a0.length:Int)),(9,true,Am c)] [[.list (a0.map Bd) .none]] [] (GW n a0 m c=some r)) n ⟨0,([]),Rw,ef hs,ef hs,d,h⟩ ?_
  rintro ml6 e st ⟨c,Xl6,Rl6,rfl,rfl,d,h⟩ Ul6 Vl6
  cases ml6 with
  | zero=>cases h
  | succ ml6 =>
  rw [GW] at h
  refine td u i g b d ?_
  refine rg [7,8,9,10] hs ?_
  apply An;intro K8 q
  refine B6 h hs ?_ ?_<;>intro hs h
  rotate_left
  ·refine sx [] hs v ?_
   exact ⟨([]),Rl6,ef hs,ef hs,d,h⟩
  refine sk [7,8,9] hs q ?_
  clear q
  apply An;intro K10 p
  apply Ar
  obtain ⟨y,t,h⟩:=bind_some h
  obtain ⟨z,w,j⟩:=Bl t
  have k:=Bn (f:=Bd) j
  have hs:=Ae k hs
  refine rg [4,7,8,9] hs ?_
  obtain ⟨C,o,h⟩:=bind_some h
  refine rc 2 [5,7,8,9] hs ?_;intro K13 l
  refine Ax _ (Oj w0 hE hM hP hT n _ _ _ y.2 _ o) (hv hs) ?_
  exact go (tg (a:=([5,7,8,9,17],([2],()),[7,8,9],[7,8,9],()))) h hs u i g b d trivial (q3 l p (fun e s=>Vl6 ml6 e s (Nat.lt_succ_self _)))
 ·clear h;rintro e st ⟨Xk3,Rk3,rfl,rfl,d,h⟩
  rw [Jb] at h
  refine td u i g b d ?_
  refine rg [2] hs ?_
  exact rt h hs b d
def CP (n:Nat) (b:List Part) (g:List Part):Option Bool :=
 (CQ n b g).bind fun h =>
 some (h)
theorem Kr (w0:World) (n:Nat) (B:Ao) (Rw:Av) (L:As) (a0:List Part) (la1:Nat) (a1:List Part) (hla1:B[la1]? = some ([.list (a1.map AG) .none])) (r:Bool) (h:CP n a0 a1=some r) :
  ACalls Tryz.prog w0 304 [.list (a0.map AG) .none,.box la1 0] ⟨B,Rw,L⟩ fun x st=>x = .val (.bool r)∧st=⟨B,Rw,L⟩:=by
 rw [CP] at h
 refine hd [.tmp 3] Tryz.func304 Tryz.ntmps304 fun M0 W0 g e d b i f hs=>?_
 simp only [AA]
 have c:=(Ak.1 hla1).1
 have hs:=Ae (Aq hla1) hs
 exact go (tg (a:=([0,1],[3],()))) h hs g e d b f (q1 (CX w0 n)) trivial
def EN (n:Nat) (g:Cps) (h:List Part):Option Bool :=
 (Df n g.targets (fun (b:List Part)=>CP n b h)).bind fun q =>
 some (q)
theorem Lq (w0:World) (n:Nat) (B:Ao) (Rw:Av) (L:As) (la0:Nat) (a0:Cps) (hla0:B[la0]? = some (.list (a0.rules.map Bd) .none::(.list (a0.targets.map (I8 AG)) .none::(a0.mid.cs)))) (a1:List Part) (r:Bool) (h:EN n a0 a1=some r) :
  ACalls Tryz.prog w0 243 [.box la0 0,.list (a1.map AG) .none] ⟨B,Rw,L⟩ fun x st=>x = .val (.bool r)∧st=⟨B,Rw,L⟩:=by
 rw [EN] at h
 refine hd [.tmp 4] Tryz.func243 Tryz.ntmps243 fun M0 W0 q i g a p j hs=>?_
 simp only [AA]
 have c:=(Ak.1 hla0).1
 have hs:=Ae (Aq hla0) hs
 refine rg [0,3] hs ?_
 obtain ⟨o,e,h⟩:=bind_some h
 refine rc 2 [4] hs ?_;intro K2 b
 refine Ax _ (GO w0 n _ _ _ a0.targets 304 [.box B.length 0] (fun (f:List Part)=>CP n f a1) (fun f r l m rows' d k=>by exact Kr w0 n _ _ _ f _ a1 (Di d (ef hs)) _ l) _ e) (hv hs) ?_
 refine ne hs b ?_
 clear b
 exact rt h hs a j
def Jh (n:Nat)  (b:Bool) (b0_k3:Ty) (b1_k3:Int × ByteArray × Int × Ty × List Vl):Option ((Int × ByteArray × Int × Ty × List Vl) × Bool) :=
 some ((b1_k3,b))
def GU (n:Nat) (y:List Part):Nat→Bool→Int→Ty→(Int × ByteArray × Int × Ty × List Vl)→Option ((Int × ByteArray × Int × Ty × List Vl) × Bool)
 | 0,_,_,_,_=>none
 | m+1,h,b,b0_l6,b1_l6 =>
  if decide (b<(y.length:Int)) then
   (Cj y b).bind fun q =>
   if (!(decide (q.kind=1)))||(!(decide (b0_l6.kind=9))) then
    some (((0,(⟨#[]⟩:ByteArray),0,Ty.mk 0 0 0 0 ([]) ([]) ([]),[]),false))
   else
    (Ih n b0_l6 q.name).bind fun g =>
    if !g.2 then
     some (((0,(⟨#[]⟩:ByteArray),0,Ty.mk 0 0 0 0 ([]) ([]) ([]),[]),false))
    else
     if Bg (b+1) then
      (GU n y m) g.2 (b+1) g.1.2.2.2.1 g.1
     else none
  else
   Jh n h b0_l6 b1_l6
def HF (n:Nat) (b:Ty) (g:List Part):Option ((Int × ByteArray × Int × Ty × List Vl) × Bool) :=
 GU n g n false 0 b ((0,(⟨#[]⟩:ByteArray),0,Ty.mk 0 0 0 0 ([]) ([]) ([]),[]))
theorem MV (w0:World) (n:Nat) (B:Ao) (Rw:Av) (L:As) (a0:Ty) (a1:List Part) (r:(Int × ByteArray × Int × Ty × List Vl) × Bool) (h:HF n a0 a1=some r) :
  ACalls Tryz.prog w0 165 [.agg (a0.cs),.list (a1.map AG) .none] ⟨B,Rw,L⟩ fun x st=>x = .tup [.agg (Am r.1.1::(.val (.string r.1.2.1)::(Am r.1.2.2.1::((r.1.2.2.2.1.cs)++([.list (r.1.2.2.2.2.map CZ) .none]))))),.val (.bool r.2)]∧st=⟨B,Rw,L⟩:=by
 rw [HF] at h
 refine hd [.cell 4 95,.tmp 5] Tryz.func165 Tryz.ntmps165 fun M0 W0 Y J H i hu t hs=>?_
 simp only [AA]
 refine rg [1,2,4,5] hs ?_
 refine AB (fun e st=>∃ (p:Bool) (l:Ty) (b:Int × ByteArray × Int × Ty × List Vl) (k:List AV) (o:List AV),Ck e st B Rw L [(4,true,.box (B.length+1) 0),(5,true,.val (.bool p))] [k,o] [] (k.map AV.pubCell=l.cs∧o.map AV.pubCell=Am b.1::(.val (.string b.2.1)::(Am b.2.2.1::((b.2.2.2.1.cs)++([.list (b.2.2.2.2.map CZ) .none]))))∧Jh n p l b=some r)) ?_ ?_
 ·intro K4 Q
  refine rg [2,4,5,8,9,10] hs ?_
  apply Ar
  refine AC (fun m e st=>∃ (g:Bool) (c:Int) (d:Ty) (a:Int × ByteArray × Int × Ty × List Vl) (q:List AV) (j:List AV),Ck e st B Rw L [(2,true,.box B.length 0),(4,true,.box (B.length+1) 0),(5,true,.val (.bool g)),(8,true,.list (a1.map AG) .none),(9,true,Am (a1.length:Int)),(10,true,Am c)] [q,j] [] (q.map AV.pubCell=d.cs∧j.map AV.pubCell=Am a.1::(.val (.string a.2.1)::(Am a.2.2.1::((a.2.2.2.1.cs)++([.list (a.2.2.2.2.map CZ) .none]))))∧GU n a1 m g c d a=some r)) n ⟨false,0,a0,((0,(⟨#[]⟩:ByteArray),0,Ty.mk 0 0 0 0 ([]) ([]) ([]),[])),_,_,([]),Rw,ef hs,ef hs,t,ef hs,ef hs,h⟩ ?_
  rintro ml6 e st ⟨g,c,d,a,q,j,Xl6,Rl6,rfl,rfl,t,E,G,h⟩ Ul6 Vl6
  cases ml6 with
  | zero=>cases h
  | succ ml6 =>
  rw [GU] at h
  refine E6 B.length (by first | rfl | (simp only [FC,D8,D6,C4];rfl)) E ?_;simp +decide only [go_sem,Nat.reduceAdd]
  refine E6 (B.length+1) (by first | rfl | (simp only [FC,D8,D6,C4];rfl)) G ?_;simp +decide only [go_sem,Nat.reduceAdd]
  show DF _ _ _ _ _ _ _ _ [(2,true,.box B.length 0),(4,true,.box (B.length+1) 0),(5,true,.val (.bool g)),(8,true,.list (a1.map AG) .none),(9,true,Am (a1.length:Int)),(10,true,Am c)] ⟨B++([d.cs,Am a.1::(.val (.string a.2.1)::(Am a.2.2.1::((a.2.2.2.1.cs)++([.list (a.2.2.2.2.map CZ) .none]))))]++Xl6),Rl6,L⟩
  refine td Y J H i t ?_
  refine rg [2,4,5,8,9,10,11] hs ?_
  apply An;intro K8 K
  refine B6 h hs ?_ ?_<;>intro hs h
  rotate_left
  ·refine sx [4,5] hs Q ?_
   exact ⟨g,d,a,_,_,([]),Rl6,ef hs,ef hs,t,ef hs,ef hs,h⟩
  refine sk [2,4,8,9,10] hs K ?_
  clear K
  apply An;intro K10 w
  apply Ar
  obtain ⟨u,O,h⟩:=bind_some h
  obtain ⟨V,U,C⟩:=Bl O
  have D:=Bn (f:=AG) C
  have hs:=Ae D hs
  refine rg [2,4,7,8,9,10] hs ?_
  apply An;intro K13 v
  refine rg [2,4,7,8,9,10,21] hs ?_
  refine B6 h hs ?_ ?_<;>intro hs h
  ·refine rg [4,5] hs ?_
   exact rt h hs i t
  refine sk [2,4,7,8,9,10] hs v ?_
  clear v
  apply An;intro K17 y
  obtain ⟨F,N,h⟩:=bind_some h
  refine rc 2 [2,4,5,8,9,10] hs ?_;intro K18 z
  refine Ax _ (OA w0 n _ _ _ d u.name _ N) (hv hs) ?_
  refine ne hs z ?_
  clear z
  refine rg [2,4,5,8,9,10,31] hs ?_
  refine B6 h hs ?_ ?_<;>intro hs h
  ·refine rg [4,5] hs ?_
   exact rt h hs i t
  refine sk [2,4,5,8,9,10] hs y ?_
  clear y
  refine rl [2,4,5,8,9,10] hs w ?_
  clear w
  obtain ⟨Z,h⟩:=Aw h
  refine rl [2,4,5,8,9,10] hs (fun e s=>Vl6 ml6 e s (Nat.lt_succ_self _)) ?_
  exact ⟨F.2,(c+1),F.1.2.2.2.1,F.1,_,_,([Am u.kind::(Am u.index::([.val (.string u.name)]))]),Rl6,ef hs,ef hs,t,ef hs,ef hs,h⟩
 ·clear h;rintro e st ⟨p,l,b,k,o,Xk3,Rk3,rfl,rfl,t,E,G,h⟩
  rw [Jh] at h
  refine E6 B.length (by first | rfl | (simp only [FC,D8,D6,C4];rfl)) E ?_;simp +decide only [go_sem,Nat.reduceAdd]
  refine E6 (B.length+1) (by first | rfl | (simp only [FC,D8,D6,C4];rfl)) G ?_;simp +decide only [go_sem,Nat.reduceAdd]
  show DF _ _ _ _ _ _ _ _ [(4,true,.box (B.length+1) 0),(5,true,.val (.bool p))] ⟨B++([l.cs,Am b.1::(.val (.string b.2.1)::(Am b.2.2.1::((b.2.2.2.1.cs)++([.list (b.2.2.2.2.map CZ) .none]))))]++Xk3),Rk3,L⟩
  refine td Y J H i t ?_
  refine rg [4,5] hs ?_
  exact rt h hs i t
def I6 (b:Part):Bool :=
 decide (b.kind=3)
theorem Wg (w0:World) (B:Ao) (Rw:Av) (L:As) (a0:Part) (r:Bool) (h:I6 a0=r) :
  ACalls Tryz.prog w0 341 [.agg (Am a0.kind::(Am a0.index::([.val (.string a0.name)])))] ⟨B,Rw,L⟩ fun x st=>x = .val (.bool r)∧st=⟨B,Rw,L⟩:=by
 rw [I6] at h
 refine hd [.tmp 2] Tryz.func341 Tryz.ntmps341 fun M0 W0 f c b a e d hs=>?_
 simp only [AA]
 refine rg [1] hs ?_
 refine rg [2] hs ?_
 exact rT h hs a d
theorem TU (w0:World) (B:Ao) (Rw:Av) (L:As) (a0:Part) :
  ACalls Tryz.prog w0 341 [.agg (Am a0.kind::(Am a0.index::([.val (.string a0.name)])))] ⟨B,Rw,L⟩ fun x st=>x = .val (.bool (I6 a0))∧st=⟨B,Rw,L⟩:=Wg w0 B Rw L a0 _ rfl
def NG (n:Nat) (g:List Part):Option Bool :=
 (A3 n g (fun (b:Part)=>some (I6 b))).bind fun h =>
 some (h)
theorem RZ (w0:World) (n:Nat) (B:Ao) (Rw:Av) (L:As) (a0:List Part) (r:Bool) (h:NG n a0=some r) :
  ACalls Tryz.prog w0 306 [.list (a0.map AG) .none] ⟨B,Rw,L⟩ fun x st=>x = .val (.bool r)∧st=⟨B,Rw,L⟩:=by
 rw [NG] at h
 refine hd [.tmp 2] Tryz.func306 Tryz.ntmps306 fun M0 W0 l d c a k e hs=>?_
 simp only [AA]
 refine rg [0] hs ?_
 obtain ⟨j,hy3,h⟩:=bind_some h
 refine rc 2 [2] hs ?_;intro K2 b
 refine Ax _ (C9 w0 n _ _ _ a0 341 [] (fun (x0:Part)=>some (I6 x0)) (fun x0 r hx i rows' g f=>by cases hx;exact TU w0 _ _ _ x0) _ hy3) (hv hs) ?_
 refine ne hs b ?_
 clear b
 exact rt h hs a e
def GB (g:Part) (b:Vl):Bool :=
 if decide (g.kind=1) then
  decide (b.kind=9)
 else
  if decide (g.kind=4) then
   (decide (b.kind=10))&&(decide ((b.list.length:Int)=1))
  else
   decide (b.kind=8)
theorem Pi (w0:World) (B:Ao) (Rw:Av) (L:As) (a0:Part) (a1:Vl) (r:Bool) (h:GB a0 a1=r) :
  ACalls Tryz.prog w0 339 [.agg (Am a0.kind::(Am a0.index::([.val (.string a0.name)]))),.agg (a1.cs)] ⟨B,Rw,L⟩ fun x st=>x = .val (.bool r)∧st=⟨B,Rw,L⟩:=by
 rw [GB] at h
 refine hd [.tmp 4] Tryz.func339 Tryz.ntmps339 fun M0 W0 f d c b g e hs=>?_
 simp only [AA]
 exact go (tg (a:=([2,3],[3,6],[3,6,7],([4],()),[3,12],([4],()),[3],[4],()))) h hs f d c b e trivial trivial
theorem Om (w0:World) (B:Ao) (Rw:Av) (L:As) (a0:Part) (a1:Vl) :
  ACalls Tryz.prog w0 339 [.agg (Am a0.kind::(Am a0.index::([.val (.string a0.name)]))),.agg (a1.cs)] ⟨B,Rw,L⟩ fun x st=>x = .val (.bool (GB a0 a1))∧st=⟨B,Rw,L⟩:=Pi w0 B Rw L a0 a1 _ rfl
def I7 (b:ByteArray × Vl) (g:ByteArray):Bool :=
 GP b.1 g
theorem Wp (w0:World) (B:Ao) (Rw:Av) (L:As) (a0:ByteArray × Vl) (la1:Nat) (a1:ByteArray) (hla1:B[la1]? = some ([.val (.string a1)])) (r:Bool) (h:I7 a0 a1=r) :
  ACalls Tryz.prog w0 373 [.agg (.val (.string a0.1)::(a0.2.cs)),.box la1 0] ⟨B,Rw,L⟩ fun x st=>x = .val (.bool r)∧st=⟨B,Rw,L⟩:=by
 rw [I7] at h
 refine hd [.tmp 3] Tryz.func373 Tryz.ntmps373 fun M0 W0 g d c a f e hs=>?_
 simp only [AA]
 have b:=(Ak.1 hla1).1
 have hs:=Ae (Aq hla1) hs
 refine rg [1,2] hs ?_
 refine rg [3] hs ?_
 exact rT h hs a e
theorem Ud (w0:World) (B:Ao) (Rw:Av) (L:As) (a0:ByteArray × Vl) (la1:Nat) (a1:ByteArray) (hla1:B[la1]? = some ([.val (.string a1)])) :
  ACalls Tryz.prog w0 373 [.agg (.val (.string a0.1)::(a0.2.cs)),.box la1 0] ⟨B,Rw,L⟩ fun x st=>x = .val (.bool (I7 a0 a1))∧st=⟨B,Rw,L⟩:=Wp w0 B Rw L a0 la1 a1 hla1 _ rfl
def Qo (n:Nat) (g:Vl) (h:ByteArray):Option Int :=
 (CW n g.fields (fun (b:ByteArray × Vl)=>some (I7 b h))).bind fun q =>
 some (q)
theorem YO (w0:World) (n:Nat) (B:Ao) (Rw:Av) (L:As) (a0:Vl) (a1:ByteArray) (r:Int) (h:Qo n a0 a1=some r) :
  ACalls Tryz.prog w0 363 [.agg (a0.cs),.val (.string a1)] ⟨B,Rw,L⟩ fun x st=>x=Am r∧st=⟨B,Rw,L⟩:=by
 rw [Qo] at h
 refine hd [.tmp 4] Tryz.func363 Tryz.ntmps363 fun M0 W0 k d c a j e hs=>?_
 simp only [AA]
 refine rg [2,3] hs ?_
 obtain ⟨i,hy3,h⟩:=bind_some h
 refine rc 2 [4] hs ?_;intro K2 b
 refine Ax _ (H9 w0 n _ _ _ a0.fields 373 [.box (B.length+1) 0] (fun (x0:ByteArray × Vl)=>some (I7 x0 a1)) (fun x0 r hx g rows' hB' f=>by cases hx;exact Ud w0 _ _ _ x0 _ a1 (Di hB' ev)) _ hy3) (hv hs) ?_
 refine ne hs b ?_
 clear b
 exact rt h hs a e
def Hv (n:Nat)  : Option ((List Vl)) :=
 some ([])
def KT (n:Nat) (b:Part) (g:Vl):Option ((List Vl)) :=
 if decide (b.kind=1) then
  (Qo n g b.name).bind fun q =>
  if decide (0≤q) then
   (Cj g.fields q).bind fun h =>
   some ([h.2])
  else
   Hv n 
 else
  if (decide (b.kind=3))||((decide (b.kind=4))&&(GP g.text b.name)) then
   some (g.list)
  else
   if (decide (b.kind=2))&&(decide (b.index<(g.list.length:Int))) then
    if Bg (b.index+1) then
     if 0≤b.index∧b.index≤b.index+1∧b.index+1≤(g.list.length:Int) then
      some ((g.list.take (b.index+1).toNat).drop b.index.toNat)
     else none
    else none
   else
    Hv n 
theorem Tt (w0:World) (n:Nat) (B:Ao) (Rw:Av) (L:As) (a0:Part) (a1:Vl) (r:(List Vl)) (h:KT n a0 a1=some r) :
  ACalls Tryz.prog w0 340 [.agg (Am a0.kind::(Am a0.index::([.val (.string a0.name)]))),.agg (a1.cs)] ⟨B,Rw,L⟩ fun x st=>x = .list (r.map CZ) .none∧st=⟨B,Rw,L⟩:=by
 rw [KT] at h
 refine hd [.tmp 4] Tryz.func340 Tryz.ntmps340 fun M0 W0 i d c b j f hs=>?_
 simp only [AA]
 refine rg [2,3] hs ?_
 refine AB (fun e st=>Ck e st B Rw L [] [Am a0.kind::(Am a0.index::([.val (.string a0.name)])),a1.cs] [] (Hv n  = some r)) ?_ ?_
 ·intro K4 g
  exact go (tg (a:=([2,3,6],([3,5],[3,5,15],([4],()),[],()),[2,3,23],([4],()),[2,3,41],([4],()),[],()))) h hs i d c b f (q1 (YO w0 n)) (q1 g)
 ·clear h;rintro e st ⟨Xk3,Rk3,rfl,rfl,f,h⟩
  rw [Hv] at h
  refine td i d c b f ?_
  refine rg [4] hs ?_
  exact rt h hs b f
def OE (n:Nat) (g:(List Vl)→Int→Option ((List Vl) × Int)) (b:Int) (h:List Vl):Option ((List Vl) × Int) :=
 if Bg (b+1) then
  g h (b+1)
 else none
def Ot (n:Nat)  (b:List Vl):Option ((List Vl) × Int) :=
 some ((b,0))
def OI (n:Nat)  (b:List Vl):Option ((List Vl) × Int) :=
 some ((b,0))
def Ov (n:Nat) (b:(List Vl)→Int→Option ((List Vl) × Int)) (h:Int) (g:List Vl):Option ((List Vl) × Int) :=
 OE n b h g
def MJ (n:Nat) (q:List Vl):Nat→(List Vl)→(List Vl)→Int→Option ((List Vl) × Int)
 | 0,_,_,_=>none
 | m+1,b,h,g =>
  if decide (g<(q.length:Int)) then
   (Cj h g).bind fun z =>
   (C5 n z).bind fun y =>
   if (b.length+1)*88≤140737488355328∧b.length+1≤4611686018427387904 then
    if Bg (g+1) then
     (MJ n q m) (b++([y])) h (g+1)
    else none
   else none
  else
   Ot n b
def LM (n:Nat) (q:List Vl):Nat→(List Vl)→(List Vl)→Int→Option ((List Vl) × Int)
 | 0,_,_,_=>none
 | m+1,b,h,g =>
  if decide (g<(q.length:Int)) then
   (Cj h g).bind fun z =>
   (C5 n z).bind fun y =>
   if (b.length+1)*88≤140737488355328∧b.length+1≤4611686018427387904 then
    if Bg (g+1) then
     (LM n q m) (b++([y])) h (g+1)
    else none
   else none
  else
   OI n b
def LN (n:Nat) (h:(List Vl)→Int→Option ((List Vl) × Int)) (z:List Vl) (q:Int) (x21:Part):Nat→(List Vl)→(List Vl)→Int→Option ((List Vl) × Int)
 | 0,_,_,_=>none
 | m+1,g,y,b =>
  if decide (b<(z.length:Int)) then
   (Cj y b).bind fun x33 =>
   if !(GB x21 x33) then
    some (([],22))
   else
    (KT n x21 x33).bind fun y38 =>
    if (g.length+y38.length)*88≤140737488355328∧g.length+y38.length≤4611686018427387904 then
     if Bg (b+1) then
      (LN n h z q x21 m) (g++y38) y (b+1)
     else none
    else none
  else
   Ov n h q g
def OP (n:Nat) (h:List Part) (b:List Vl):Option ((List Vl) × Int) :=
 if decide ((b.length:Int)=0) then
  (NG n h).bind fun g =>
  if !g then
   some (([],19))
  else
   MJ n b n ([]) b 0
 else
  LM n b n ([]) b 0
def G9 (n:Nat) (h:List Part):Nat→(List Vl)→Int→Option ((List Vl) × Int)
 | 0,_,_=>none
 | m+1,g,b =>
  if decide (b<(h.length:Int)) then
   (Cj h b).bind fun q =>
   LN n (G9 n h m) g b q n ([]) g 0
  else
   OP n h g
def Rr (n:Nat) (h:Vl) (g:List Part):Option ((List Vl) × Int) :=
 (Ic n g).bind fun b =>
 if !(decide (b=0)) then
  some (([],b))
 else
  G9 n g n ([h]) 0
theorem ZaU (w0:World) (hP:Pow10 w0) (n:Nat) (B:Ao) (Rw:Av) (L:As) (a0:Vl) (a1:List Part) (r:(List Vl) × Int) (h:Rr n a0 a1=some r) :
  ACalls Tryz.prog w0 305 [.agg (a0.cs),.list (a1.map AG) .none] ⟨B,Rw,L⟩ fun x st=>x = .tup [.list (r.1.map CZ) .none,Am r.2]∧st=⟨B,Rw,L⟩:=by
 rw [Rr] at h
 refine hd [.tmp 4,.tmp 5] Tryz.func305 Tryz.ntmps305 fun M0 W0 hN af ad j hu l hs=>?_
 simp only [AA]
 refine rg [1,2] hs ?_
 apply An;intro K2 bm
 obtain ⟨y4,ca,h⟩:=bind_some h
 refine rc 2 [1,2,6] hs ?_;intro K3 bu
 refine Ax _ (SN w0 hP n _ _ _ a1 _ ca) (hv hs) ?_
 refine ne hs bu ?_
 clear bu
 refine rg [1,2,6,19] hs ?_
 refine B6 h hs ?_ ?_<;>intro hs h
 ·refine rg [4,5] hs ?_
  exact rt h hs j l
 refine sk [1,2] hs bm ?_
 clear bm
 refine rg [1,7] hs ?_
 refine AB (fun e st=>∃ (c:List Vl) (E:Ev.Own),Ck e st B Rw L [(1,true,.list (a1.map AG) .none),(7,true,.list (c.map CZ) E)] [a0.cs] [(6,c.length,E)] (OP n a1 c=some r)) ?_ ?_
 ·intro K11 bf
  refine rg [1,7,23,24,25] hs ?_
  apply Ar
  refine AC (fun m e st=>∃ (k:List Vl) (b:Int) (D:Ev.Own),Ck e st B Rw L [(1,true,.list (a1.map AG) .none),(7,true,.list (k.map CZ) D),(23,true,.list (a1.map AG) .none),(24,true,Am (a1.length:Int)),(25,true,Am b)] [a0.cs] [(6,k.length,D)] (G9 n a1 m k b=some r)) n ⟨([a0]),0,.full,([]),Rw,ef hs,ef hs,Owns.of_eq ((l).full 6 (([a0]).length)) Ew,h⟩ ?_
  rintro ml13 e st ⟨k,b,D,Xl13,Rl13,rfl,rfl,l,h⟩ Ul13 Vl13
  cases ml13 with
  | zero=>cases h
  | succ ml13 =>
  rw [G9] at h
  have hU:=l.unders
  simp only [List.mem_cons,List.not_mem_nil,or_false,forall_eq_or_imp,forall_eq] at hU
  refine td hN af ad j l ?_
  refine rg [1,7,23,24,25,26] hs ?_
  apply An;intro K15 a2
  refine B6 h hs ?_ ?_<;>intro hs h
  rotate_left
  ·refine sx [1,7] hs bf ?_
   exact ⟨k,D,([]),Rl13,ef hs,ef hs,Owns.of_eq (l) Ew,h⟩
  refine sk [1,7,23,24,25] hs a2 ?_
  clear a2
  refine AB (fun e st=>∃ (aa:List Vl) (ab:Ev.Own),Ck e st B Rw L [(1,true,.list (a1.map AG) .none),(7,true,.list (aa.map CZ) ab),(23,true,.list (a1.map AG) .none),(24,true,Am (a1.length:Int)),(25,true,Am b)] [a0.cs] [(6,aa.length,ab)] (OE n (G9 n a1 ml13) b aa=some r)) ?_ ?_
  ·intro K19 bs
   apply Ar
   obtain ⟨ae,br,h⟩:=bind_some h
   obtain ⟨bw,b7,ba⟩:=Bl br
   have a8:=Bn (f:=AG) ba
   have hs:=Ae a8 hs
   refine rg [1,7,9,23,24,25] hs ?_
   refine rg [1,7,9,10,23,24,25] hs ?_
   refine AB (fun e st=>∃ (K:List Vl) (Y:Ev.Own),Ck e st B Rw L [(1,true,.list (a1.map AG) .none),(10,true,.list (K.map CZ) Y),(23,true,.list (a1.map AG) .none),(24,true,Am (a1.length:Int)),(25,true,Am b)] [a0.cs,Am ae.kind::(Am ae.index::([.val (.string ae.name)]))] [(6,K.length,Y)] (Ov n (G9 n a1 ml13) b K=some r)) ?_ ?_
   ·intro K25 bp
    refine rg [1,9,10,23,24,25,29,30,31] hs ?_
    apply Ar
    refine AC (fun m e st=>∃ (i:List Vl) (p:List Vl) (H:Int) (z:Ev.Own) (v:Ev.Own),Ck e st B Rw L [(1,true,.list (a1.map AG) .none),(9,true,.box (B.length+1) 0),(10,true,.list (i.map CZ) z),(23,true,.list (a1.map AG) .none),(24,true,Am (a1.length:Int)),(25,true,Am b),(29,true,.list (p.map CZ) v),(30,true,Am (k.length:Int)),(31,true,Am H)] [a0.cs,Am ae.kind::(Am ae.index::([.val (.string ae.name)]))] [(6,i.length,z),(6,p.length,v)] (LN n (G9 n a1 ml13) k b ae m i p H=some r)) n ⟨([]),k,0,.full,D,([]),Rl13,ef hs,ef hs,Owns.of_eq ((l).full 6 0) Ew,h⟩ ?_
    rintro ml27 e st ⟨i,p,H,z,v,Xl27,Rl27,rfl,rfl,l,h⟩ Ul27 Vl27
    cases ml27 with
    | zero=>cases h
    | succ ml27 =>
    rw [LN] at h
    have hU:=l.unders
    simp only [List.mem_cons,List.not_mem_nil,or_false,forall_eq_or_imp,forall_eq] at hU
    obtain ⟨bd,bv⟩:=hU
    refine td hN af ad j l ?_
    refine rg [1,9,10,23,24,25,29,30,31,32] hs ?_
    apply An;intro K29 az
    refine B6 h hs ?_ ?_<;>intro hs h
    rotate_left
    ·refine sx [1,10,23,24,25] hs bp ?_
     exact ⟨i,z,([]),Rl27,ef hs,ef hs,Owns.of_eq ((l).sub (List.sublist_append_left [(6,i.length,z)] [(6,p.length,v)])) Ew,h⟩
    refine sk [1,9,10,23,24,25,29,30,31] hs az ?_
    clear az
    apply An;intro K31 ax
    apply Ar
    obtain ⟨bb,be,h⟩:=bind_some h
    obtain ⟨b4,bx,bc⟩:=Bl be
    have a9:=Bn (f:=CZ) bc
    have hs:=Ae a9 hs
    refine rg [1,9,10,12,23,24,25,29,30,31] hs ?_
    apply An;intro K34 am
    refine rc 2 [1,9,10,12,23,24,25,29,30,31,38] hs ?_;intro K35 au
    refine Ax _ (Om w0 _ _ _ ae bb) (hv hs) ?_
    refine ne hs au ?_
    clear au
    refine B6 h hs ?_ ?_<;>intro hs h
    ·refine rg [4,5] hs ?_
     exact rt h hs j l
    refine sk [1,9,10,12,23,24,25,29,30,31] hs am ?_
    clear am
    obtain ⟨a7,bj,h⟩:=bind_some h
    obtain ⟨ao,h⟩:=Aw h
    obtain ⟨b1,ai,l,Q⟩:=l.append (P:=Tryz.prog) LZ (by rw [H2];rfl) (by decide) a7.length ao.1 ao.2
    replace Q:=fun (ys:List AV) B L o2=>Q (i.map CZ) ys B L o2 Ew
    replace Q:=fun B L o2=>Q (a7.map CZ) B L o2 Ew ev
    try simp only [List.mem_singleton,List.mem_cons,List.not_mem_nil,or_false,forall_eq_or_imp,forall_eq,List.map_append,List.map_cons,List.map_nil,Fe,Fj,Fq,Eu,Eo,Ft,CO,DN,Fz,Ce,Cd,DG,DK,DO,Fg,DL,Fo] at Q
    have hs:=Ae Q hs
    refine rk 2 [1,9,10,23,24,25,29,30,31] hs ?_
    refine Ax _ (Tt w0 n _ _ _ ae bb _ bj) (hv hs) ?_
    refine ne hs ax ?_
    clear ax
    obtain ⟨cd,h⟩:=Aw h
    refine rl [1,9,10,23,24,25,29,30,31] hs (fun e s=>Vl27 ml27 e s (Nat.lt_succ_self _)) ?_
    exact ⟨(i++a7),p,(H+1),b1,v,([bb.cs]),ai,ef hs,ef hs,Owns.of_eq (((l).swap (List.Perm.swap _ _ _)).swap (List.Perm.swap _ _ _)) Ew,h⟩
   ·clear h;rintro e st ⟨K,Y,Xk24,Rk24,rfl,rfl,l,h⟩
    rw [Ov] at h
    exact go (tg (a:=([1,7,23,24,25],()))) h hs hN af ad j l trivial (q1 bs)
  ·clear h;rintro e st ⟨aa,ab,Xk18,Rk18,rfl,rfl,l,h⟩
   rw [OE] at h
   exact go (tg (a:=([1,7,23,24,25],()))) h hs hN af ad j l trivial (q1 (fun e s=>Vl13 ml13 e s (Nat.lt_succ_self _)))
 ·clear h;rintro e st ⟨c,E,Xk10,Rk10,rfl,rfl,l,h⟩
  rw [OP] at h
  have hU:=l.unders
  simp only [List.mem_cons,List.not_mem_nil,or_false,forall_eq_or_imp,forall_eq] at hU
  refine td hN af ad j l ?_
  apply An;intro K45 ah
  apply An;intro K46 ag
  rcases Bool.eq_false_or_eq_true (decide ((c.length:Int)=0)) with hf47 | hf47
  ·replace h:=Bq h hf47
   obtain ⟨ce,bn,h⟩:=bind_some h
   have hs:=Ae hf47 hs
   refine rk 2 [7,54] hs ?_
   refine Ax _ (RZ w0 n _ _ _ a1 _ bn) (hv hs) ?_
   refine ne hs ag ?_
   clear ag
   refine B6 h hs ?_ ?_<;>intro hs h
   ·refine rg [4,5] hs ?_
    exact rt h hs j l
   refine sk [7] hs ah ?_
   clear ah
   refine rg [7,13] hs ?_
   refine AB (fun e st=>∃ (N:List Vl) (O:Ev.Own),Ck e st B Rw L [(13,true,.list (N.map CZ) O)] [a0.cs] [(6,N.length,O)] (Ot n N=some r)) ?_ ?_
   ·intro K54 bt
    refine rg [13,55,56,57] hs ?_
    apply Ar
    refine AC (fun m e st=>∃ (g:List Vl) (t:List Vl) (J:Int) (q:Ev.Own) (u:Ev.Own),Ck e st B Rw L [(13,true,.list (g.map CZ) q),(55,true,.list (t.map CZ) u),(56,true,Am (c.length:Int)),(57,true,Am J)] [a0.cs] [(6,g.length,q),(6,t.length,u)] (MJ n c m g t J=some r)) n ⟨([]),c,0,.full,E,([]),Rk10,ef hs,ef hs,Owns.of_eq ((l).full 6 0) Ew,h⟩ ?_
    rintro ml56 e st ⟨g,t,J,q,u,Xl56,Rl56,rfl,rfl,l,h⟩ Ul56 Vl56
    cases ml56 with
    | zero=>cases h
    | succ ml56 =>
    rw [MJ] at h
    have hU:=l.unders
    simp only [List.mem_cons,List.not_mem_nil,or_false,forall_eq_or_imp,forall_eq] at hU
    obtain ⟨bd,bv⟩:=hU
    refine td hN af ad j l ?_
    refine rg [13,55,56,57,58] hs ?_
    apply An;intro K58 ay
    refine B6 h hs ?_ ?_<;>intro hs h
    rotate_left
    ·refine sx [13] hs bt ?_
     exact ⟨g,q,([]),Rl56,ef hs,ef hs,Owns.of_eq ((l).sub (List.sublist_append_left [(6,g.length,q)] [(6,t.length,u)])) Ew,h⟩
    refine sk [13,55,56,57] hs ay ?_
    clear ay
    apply An;intro K60 av
    apply Ar
    obtain ⟨bh,bg,h⟩:=bind_some h
    obtain ⟨b5,b3,a3⟩:=Bl bg
    have a6:=Bn (f:=CZ) a3
    have hs:=Ae a6 hs
    refine rg [13,15,55,56,57] hs ?_
    obtain ⟨bz,bo,h⟩:=bind_some h
    obtain ⟨aw,h⟩:=Aw h
    obtain ⟨b2,ak,l,U⟩:=l.append (P:=Tryz.prog) LZ (by rw [H2];rfl) (by decide) 1 aw.1 aw.2
    replace U:=fun (ys:List AV) B L o2=>U (g.map CZ) ys B L o2 Ew
    replace U:=fun (y:AV) B L o2=>U [y] B L o2 Ew ev
    try simp only [List.mem_singleton,List.mem_cons,List.not_mem_nil,or_false,forall_eq_or_imp,forall_eq,List.map_append,List.map_cons,List.map_nil,Fe,Fj,Fq,Eu,Eo,Ft,CO,DN,Fz,Ce,Cd,DG,DK,DO,Fg,DL,Fo] at U
    have hs:=Ae U hs
    refine rk 2 [13,55,56,57] hs ?_
    refine Ax _ (Iy w0 n _ _ _ bh _ bo) (hv hs) ?_
    refine ne hs av ?_
    clear av
    obtain ⟨cb,h⟩:=Aw h
    refine rl [13,55,56,57] hs (fun e s=>Vl56 ml56 e s (Nat.lt_succ_self _)) ?_
    exact ⟨(g++([bz])),t,(J+1),b2,u,([bh.cs]),ak,ef hs,ef hs,Owns.of_eq (((l).swap (List.Perm.swap _ _ _)).swap (List.Perm.swap _ _ _)) Ew,h⟩
   ·clear h;rintro e st ⟨N,O,Xk53,Rk53,rfl,rfl,l,h⟩
    rw [Ot] at h
    exact go (tg (a:=([4,5],()))) h hs hN af ad j l trivial trivial
  ·replace h:=Bo h hf47
   have hs:=Ae hf47 hs
   refine rk 2 [7,54] hs ?_
   refine G4 ?_
   refine ne hs ag ?_
   clear ag
   refine A4 false ev (ef hs) (fun hb70=>by cases hb70) (fun hb70=>?_)
   refine sk [7] hs ah ?_
   clear ah
   refine rg [7,13] hs ?_
   refine AB (fun e st=>∃ (G:List Vl) (Z:Ev.Own),Ck e st B Rw L [(13,true,.list (G.map CZ) Z)] [a0.cs] [(6,G.length,Z)] (OI n G=some r)) ?_ ?_
   ·intro K74 bq
    refine rg [13,55,56,57] hs ?_
    apply Ar
    refine AC (fun m e st=>∃ (d:List Vl) (C:List Vl) (F:Int) (w:Ev.Own) (o:Ev.Own),Ck e st B Rw L [(13,true,.list (d.map CZ) w),(55,true,.list (C.map CZ) o),(56,true,Am (c.length:Int)),(57,true,Am F)] [a0.cs] [(6,d.length,w),(6,C.length,o)] (LM n c m d C F=some r)) n ⟨([]),c,0,.full,E,([]),Rk10,ef hs,ef hs,Owns.of_eq ((l).full 6 0) Ew,h⟩ ?_
    rintro ml76 e st ⟨d,C,F,w,o,Xl76,Rl76,rfl,rfl,l,h⟩ Ul76 Vl76
    cases ml76 with
    | zero=>cases h
    | succ ml76 =>
    rw [LM] at h
    have hU:=l.unders
    simp only [List.mem_cons,List.not_mem_nil,or_false,forall_eq_or_imp,forall_eq] at hU
    obtain ⟨bd,bv⟩:=hU
    refine td hN af ad j l ?_
    refine rg [13,55,56,57,58] hs ?_
    apply An;intro K78 ap
    refine B6 h hs ?_ ?_<;>intro hs h
    rotate_left
    ·refine sx [13] hs bq ?_
     exact ⟨d,w,([]),Rl76,ef hs,ef hs,Owns.of_eq ((l).sub (List.sublist_append_left [(6,d.length,w)] [(6,C.length,o)])) Ew,h⟩
    refine sk [13,55,56,57] hs ap ?_
    clear ap
    apply An;intro K80 aq
    apply Ar
    obtain ⟨bk,bi,h⟩:=bind_some h
    obtain ⟨b9,b8,a5⟩:=Bl bi
    have a4:=Bn (f:=CZ) a5
    have hs:=Ae a4 hs
    refine rg [13,15,55,56,57] hs ?_
    obtain ⟨b0,bl,h⟩:=bind_some h
    obtain ⟨ar,h⟩:=Aw h
    obtain ⟨b6,aj,l,V⟩:=l.append (P:=Tryz.prog) LZ (by rw [H2];rfl) (by decide) 1 ar.1 ar.2
    replace V:=fun (ys:List AV) B L o2=>V (d.map CZ) ys B L o2 Ew
    replace V:=fun (y:AV) B L o2=>V [y] B L o2 Ew ev
    try simp only [List.mem_singleton,List.mem_cons,List.not_mem_nil,or_false,forall_eq_or_imp,forall_eq,List.map_append,List.map_cons,List.map_nil,Fe,Fj,Fq,Eu,Eo,Ft,CO,DN,Fz,Ce,Cd,DG,DK,DO,Fg,DL,Fo] at V
    have hs:=Ae V hs
    refine rk 2 [13,55,56,57] hs ?_
    refine Ax _ (Iy w0 n _ _ _ bk _ bl) (hv hs) ?_
    refine ne hs aq ?_
    clear aq
    obtain ⟨cc,h⟩:=Aw h
    refine rl [13,55,56,57] hs (fun e s=>Vl76 ml76 e s (Nat.lt_succ_self _)) ?_
    exact ⟨(d++([b0])),C,(F+1),b6,o,([bk.cs]),aj,ef hs,ef hs,Owns.of_eq (((l).swap (List.Perm.swap _ _ _)).swap (List.Perm.swap _ _ _)) Ew,h⟩
   ·clear h;rintro e st ⟨G,Z,Xk73,Rk73,rfl,rfl,l,h⟩
    rw [OI] at h
    exact go (tg (a:=([4,5],()))) h hs hN af ad j l trivial trivial
def Vq (n:Nat) (y:Vl) (h:List Part):Option (Vl × Int) :=
 (Rr n y h).bind fun b =>
 if !(decide (b.2=0)) then
  some ((Vl.mk 0 0 0 (⟨#[]⟩:ByteArray) ([]) ([]),b.2))
 else
  (NG n h).bind fun q =>
  if q then
   some ((Vl.mk 8 0 0 (⟨#[]⟩:ByteArray) b.1 ([]),0))
  else
   (Cj b.1 0).bind fun g =>
   some ((g,0))
theorem ZbP (w0:World) (hP:Pow10 w0) (n:Nat) (B:Ao) (Rw:Av) (L:As) (a0:Vl) (a1:List Part) (r:Vl × Int) (h:Vq n a0 a1=some r) :
  ACalls Tryz.prog w0 244 [.agg (a0.cs),.list (a1.map AG) .none] ⟨B,Rw,L⟩ fun x st=>x = .tup [.agg (r.1.cs),Am r.2]∧st=⟨B,Rw,L⟩:=by
 rw [Vq] at h
 refine hd [.cell 4 34,.tmp 5] Tryz.func244 Tryz.ntmps244 fun M0 W0 f d c b g e hs=>?_
 simp only [AA]
 exact go (tg (a:=([1,2,4],[1,4,6,7],[1,4,6,7,14],([4,5],()),[4,6,19],([4,5],()),[4,6],[4,5],()))) h hs f d c b e (q2 (ZaU w0 hP n) (RZ w0 n)) trivial
def Cc (n:Nat)  (b2_k31:Vl):Option (Ex × Bool × Bool) :=
 some ((Ex.mk 1 0 (⟨#[]⟩:ByteArray) ([b2_k31]) ([]),true,true))
def BI (n:Nat)  : Option (Ex × Bool × Bool) :=
 some ((Ex.mk 0 0 (⟨#[]⟩:ByteArray) ([]) ([]),false,false))
def CB (n:Nat) (a0:Cps) (g:List Part):Nat→Int→Option (Ex × Bool × Bool)
 | 0,_=>none
 | m+1,b =>
  if decide (b<(g.length:Int)) then
   if Bg (b+1) then
    if 0≤0∧0≤b+1∧b+1≤(g.length:Int) then
     if Bg (b+1) then
      if 0≤b+1∧b+1≤(g.length:Int)∧(g.length:Int)≤(g.length:Int) then
       (HF n a0.mid (g.take (b+1).toNat)).bind fun h =>
       (EN n a0 (g.take (b+1).toNat)).bind fun z =>
       if (!h.2)||((decide (h.1.2.2.1=2))&&(!z)) then
        BI n 
       else
        if (!(decide (h.1.2.2.1=3)))||z then
         if Bg (b+1) then
          (CB n a0 g m) (b+1)
         else none
        else
         (Cj h.1.2.2.2.2 0).bind fun y =>
         if decide (0<(((g.drop (b+1).toNat).length:Int))) then
          (Vq n y (g.drop (b+1).toNat)).bind fun q =>
          if !(decide (q.2=0)) then
           BI n 
          else
           Cc n q.1
         else
          Cc n y
      else none
     else none
    else none
   else none
  else
   BI n 
def Et (n:Nat) (b:Cps) (g:List Part):Option (Ex × Bool × Bool) :=
 CB n b g n 0
theorem Ku (w0:World) (hP:Pow10 w0) (n:Nat) (B:Ao) (Rw:Av) (L:As) (la0:Nat) (a0:Cps) (hla0:B[la0]? = some (.list (a0.rules.map Bd) .none::(.list (a0.targets.map (I8 AG)) .none::(a0.mid.cs)))) (a1:List Part) (r:Ex × Bool × Bool) (h:Et n a0 a1=some r) :
  ACalls Tryz.prog w0 164 [.box la0 0,.list (a1.map AG) .none] ⟨B,Rw,L⟩ fun x st=>x = .tup [.agg (r.1.cs),.val (.bool r.2.1),.val (.bool r.2.2)]∧st=⟨B,Rw,L⟩:=by
 rw [Et] at h
 refine hd [.cell 4 65,.tmp 5,.tmp 6] Tryz.func164 Tryz.ntmps164 fun M0 W0 E l k b hu j hs=>?_
 simp only [AA]
 have U:=(Ak.1 hla0).1
 have hs:=Ae (Aq hla0) hs
 refine rg [0,1,4] hs ?_
 refine AB (fun e st=>Ck e st B Rw L [(4,true,.box B.length 0)] [[Am 0,Am 0,.val (.string (⟨#[]⟩:ByteArray)),.list ([]) .full,.list ([]) .full]] [] (BI n  = some r)) ?_ ?_
 ·intro K4 D
  refine rg [0,1,4,17,18] hs ?_
  apply Ar
  refine AC (fun m e st=>∃ (c:Int),Ck e st B Rw L [(0,true,.box la0 0),(1,true,.list (a1.map AG) .none),(4,true,.box B.length 0),(17,true,Am (a1.length:Int)),(18,true,Am c)] [[Am 0,Am 0,.val (.string (⟨#[]⟩:ByteArray)),.list ([]) .full,.list ([]) .full]] [] (CB n a0 a1 m c=some r)) n ⟨0,([]),Rw,ef hs,ef hs,j,h⟩ ?_
  rintro ml6 e st ⟨c,Xl6,Rl6,rfl,rfl,j,h⟩ Ul6 Vl6
  cases ml6 with
  | zero=>cases h
  | succ ml6 =>
  rw [CB] at h
  refine td E l k b j ?_
  refine rg [0,1,4,17,18,19] hs ?_
  apply An;intro K8 K
  refine B6 h hs ?_ ?_<;>intro hs h
  rotate_left
  ·refine sx [4] hs D ?_
   exact ⟨([]),Rl6,ef hs,ef hs,j,h⟩
  refine sk [0,1,4,17,18] hs K ?_
  clear K
  apply An;intro K10 J
  apply Ar
  refine rg [0,1,4,7,17,18] hs ?_
  obtain ⟨aa,h⟩:=Aw h
  obtain ⟨ae,h⟩:=Aw h
  obtain ⟨ad,h⟩:=Aw h
  obtain ⟨ab,h⟩:=Aw h
  refine dg 10 1 1 [0,1,4,8,9,17,18] hs PS ?_
  obtain ⟨i,N,h⟩:=bind_some h
  refine rc 2 [0,1,4,8,9,10,11,17,18] hs ?_;intro K17 q
  refine Ax _ (MV w0 n _ _ _ a0.mid (a1.take (c+1).toNat) _ N) (hv hs) ?_
  refine ne hs q ?_
  clear q
  obtain ⟨af,H,h⟩:=bind_some h
  refine rc 2 [0,1,4,9,10,11,12,17,18] hs ?_;intro K19 y
  refine Ax _ (Lq w0 n _ _ _ la0 a0 (ef hs) (a1.take (c+1).toNat) _ H) (hv hs) ?_
  refine ne hs y ?_
  clear y
  apply An;intro K21 t
  refine rg [0,1,4,9,10,12,17,18,51] hs ?_
  refine B6 h hs ?_ ?_<;>intro hs h
  ·exact go (tg (a:=([4],()))) h hs E l k b j trivial (q1 D)
  refine sk [0,1,4,9,10,12,17,18] hs t ?_
  clear t
  apply An;intro K24 p
  refine rg [0,1,4,9,10,17,18,57] hs ?_
  refine B6 h hs ?_ ?_<;>intro hs h
  ·exact go (tg (a:=([0,1,4,17,18],[0,1,4,17,18],()))) h hs E l k b j trivial (q2 J (fun e s=>Vl6 ml6 e s (Nat.lt_succ_self _)))
  refine sk [4,9,10] hs p ?_
  clear p
  obtain ⟨G,O,h⟩:=bind_some h
  obtain ⟨V,Z,z⟩:=Bl O
  have o:=Bn (f:=CZ) z
  have C:(i.1.2.2.2.2.map CZ).getD 0 .junk=_:=o
  have hs:=Ae o hs
  have hs:=Ae C hs
  refine rg [4,9,13] hs ?_
  refine AB (fun e st=>∃ (d:Vl) (g:List AV),Ck e st B Rw L [(4,true,.box B.length 0),(13,true,.box (B.length+2) 0)] [[Am 0,Am 0,.val (.string (⟨#[]⟩:ByteArray)),.list ([]) .full,.list ([]) .full],Am i.1.1::(.val (.string i.1.2.1)::(Am i.1.2.2.1::((i.1.2.2.2.1.cs)++([.list (i.1.2.2.2.2.map CZ) .none])))),g] [] (g.map AV.pubCell=d.cs∧Cc n d=some r)) ?_ ?_
  ·intro K32 u
   refine rg [4,9,13,64] hs ?_
   refine B6 h hs ?_ ?_<;>intro hs h
   ·obtain ⟨F,Q,h⟩:=bind_some h
    refine rc 2 [4,13,14,15] hs ?_;intro K35 v
    refine Ax _ (ZbP w0 hP n _ _ _ G (a1.drop (c+1).toNat) _ Q) (hv hs) ?_
    refine ne hs v ?_
    clear v
    apply An;intro K37 w
    refine rg [4,13,14,72] hs ?_
    refine B6 h hs ?_ ?_<;>intro hs h
    ·exact go (tg (a:=([4],()))) h hs E l k b j trivial (q1 D)
    refine sk [4,13,14] hs w ?_
    clear w
    refine rl [4,13] hs u ?_
    exact ⟨F.1,_,([F.1.cs]),Rl6,ef hs,ef hs,j,ef hs,h⟩
   refine sk [4,13] hs u ?_
   exact ⟨G,_,([]),Rl6,ef hs,ef hs,j,ef hs,h⟩
  ·clear h;rintro e st ⟨d,g,Xk31,Rk31,rfl,rfl,j,Y,h⟩
   rw [Cc] at h
   refine E6 (B.length+2) (by first | rfl | (simp only [FC,D8,D6,C4];rfl)) Y ?_;simp +decide only [go_sem,Nat.reduceAdd]
   show DF _ _ _ _ _ _ _ _ [(4,true,.box B.length 0),(13,true,.box (B.length+2) 0)] ⟨B++([[Am 0,Am 0,.val (.string (⟨#[]⟩:ByteArray)),.list ([]) .full,.list ([]) .full],Am i.1.1::(.val (.string i.1.2.1)::(Am i.1.2.2.1::((i.1.2.2.2.1.cs)++([.list (i.1.2.2.2.2.map CZ) .none])))),d.cs]++Xk31),Rk31,L⟩
   refine td E l k b j ?_
   refine rg [4,5,6] hs ?_
   exact rt h hs b j
 ·clear h;rintro e st ⟨Xk3,Rk3,rfl,rfl,j,h⟩
  rw [BI] at h
  refine td E l k b j ?_
  refine rg [4,5,6] hs ?_
  exact rt h hs b j
def BQ (n:Nat) (b:List Part) (h:List Part):Option Bool :=
 if decide (0<(b.length:Int)) then
  (CQ n h b).bind fun g =>
  some (g)
 else
  some (false)
theorem I3 (w0:World) (n:Nat) (B:Ao) (Rw:Av) (L:As) (a0:List Part) (la1:Nat) (a1:List Part) (hla1:B[la1]? = some ([.list (a1.map AG) .none])) (r:Bool) (h:BQ n a0 a1=some r) :
  ACalls Tryz.prog w0 163 [.list (a0.map AG) .none,.box la1 0] ⟨B,Rw,L⟩ fun x st=>x = .val (.bool r)∧st=⟨B,Rw,L⟩:=by
 rw [BQ] at h
 refine hd [.tmp 3] Tryz.func163 Tryz.ntmps163 fun M0 W0 g e d b i f hs=>?_
 simp only [AA]
 have c:=(Ak.1 hla1).1
 have hs:=Ae (Aq hla1) hs
 exact go (tg (a:=([0,1],([3],()),[3],()))) h hs g e d b f (q1 (CX w0 n)) trivial
def Ek (rec:Ty→Option Bool) (b:Int × ByteArray × Int × Ty × List Vl):Option Bool :=
 if decide (b.2.2.1=3) then
  some (true)
 else
  (rec b.2.2.2.1).bind fun g =>
  some (g)
theorem M4 (w0:World) (rec:Ty→Option Bool) (ih:∀ (B:Ao) (Rw:Av) (L:As) (a0:Ty) (r:Bool) (h:rec a0=some r),ACalls Tryz.prog w0 166 [.agg (a0.cs)] ⟨B,Rw,L⟩ fun x st=>x = .val (.bool r)∧st=⟨B,Rw,L⟩) (B:Ao) (Rw:Av) (L:As) (a0:Int × ByteArray × Int × Ty × List Vl) (r:Bool) (h:Ek rec a0=some r) :
  ACalls Tryz.prog w0 246 [.agg (Am a0.1::(.val (.string a0.2.1)::(Am a0.2.2.1::((a0.2.2.2.1.cs)++([.list (a0.2.2.2.2.map CZ) .none])))))] ⟨B,Rw,L⟩ fun x st=>x = .val (.bool r)∧st=⟨B,Rw,L⟩:=by
 rw [Ek] at h
 refine hd [.tmp 2] Tryz.func246 Tryz.ntmps246 fun M0 W0 f d c b g e hs=>?_
 simp only [AA]
 exact go (tg (a:=([1],([2],()),[2],()))) h hs f d c b e (q1 ih) trivial
def FY (n:Nat)  : Option Int :=
 some ((-1))
def D9 (n:Nat) (h:List Ty) (y:Ty→Option Bool):Nat→Int→Option Int
 | 0,_=>none
 | m+1,b =>
  if decide (b<(h.length:Int)) then
   (Cj h b).bind fun q =>
   (y q).bind fun g =>
   if g then
    some (b)
   else
    if Bg (b+1) then
     (D9 n h y m) (b+1)
    else none
  else
   FY n 
def GG (n:Nat) (b:List Ty) (g:Ty→Option Bool):Option Int :=
 D9 n b g n 0
theorem Nr (w0:World) (n:Nat) (B:Ao) (Rw:Av) (L:As) (a0:List Ty) (fa1:FuncId) (ca1:List AV) (a1:Ty→Option Bool) (ha1:∀ (x0:Ty) r,a1 x0=some r→∀ B' rows,B <+: B'→Rw <+: rows→ACalls Tryz.prog w0 fa1 ([.agg (x0.cs)]++ca1) ⟨B',rows,L⟩ fun v s=>v = .val (.bool r)∧s=⟨B',rows,L⟩) (r:Int) (h:GG n a0 a1=some r) :
  ACalls Tryz.prog w0 307 [.list (a0.map IX) .none,.clo fa1 ca1] ⟨B,Rw,L⟩ fun x st=>x=Am r∧st=⟨B,Rw,L⟩:=by
 rw [GG] at h
 refine hd [.tmp 4] Tryz.func307 Tryz.ntmps307 fun M0 W0 k i g b l f hs=>?_
 simp only [AA]
 have c:=BJ (l (.clo fa1 ca1) (by simp))
 refine rg [0,1] hs ?_
 refine AB (fun e st=>Ck e st B Rw L [] [] [] (FY n  = some r)) ?_ ?_
 ·intro K4 j
  refine rg [0,1,7,8] hs ?_
  apply Ar
  refine AC (fun m e st=>∃ (d:Int),Ck e st B Rw L [(0,true,.list (a0.map IX) .none),(1,true,.clo fa1 ca1),(7,true,Am (a0.length:Int)),(8,true,Am d)] [] [] (D9 n a0 a1 m d=some r)) n ⟨0,([]),Rw,ef hs,ef hs,f,h⟩ ?_
  rintro ml6 e st ⟨d,Xl6,Rl6,rfl,rfl,f,h⟩ Ul6 Vl6
  cases ml6 with
  | zero=>cases h
  | succ ml6 =>
  rw [D9] at h
  refine A1 k i g rfl b f (LI c f) (LI c f) ?_
  exact go (tg (a:=([0,1,7,8,9],([0,1,7,8],[0,1,5,7,8],[0,1,5,7,8,16],([4],()),[0,1,7,8],[0,1,7,8],()),[],()))) h hs k i g b f (q1 ha1) (q2 j (fun e s=>Vl6 ml6 e s (Nat.lt_succ_self _)))
 ·clear h;rintro e st ⟨Xk3,Rk3,rfl,rfl,f,h⟩
  rw [FY] at h
  refine A1 k i g rfl b f (LI c f) (LI c f) ?_
  refine rg [4] hs ?_
  exact rt h hs b f
def EV (n:Nat) (b:List Ty) (g:Ty→Option Bool):Option Bool :=
 (GG n b g).bind fun h =>
 some (decide (0≤h))
theorem Hn (w0:World) (n:Nat) (B:Ao) (Rw:Av) (L:As) (a0:List Ty) (fa1:FuncId) (ca1:List AV) (a1:Ty→Option Bool) (ha1:∀ (x0:Ty) r,a1 x0=some r→∀ B' rows,B <+: B'→Rw <+: rows→ACalls Tryz.prog w0 fa1 ([.agg (x0.cs)]++ca1) ⟨B',rows,L⟩ fun v s=>v = .val (.bool r)∧s=⟨B',rows,L⟩) (r:Bool) (h:EV n a0 a1=some r) :
  ACalls Tryz.prog w0 245 [.list (a0.map IX) .none,.clo fa1 ca1] ⟨B,Rw,L⟩ fun x st=>x = .val (.bool r)∧st=⟨B,Rw,L⟩:=by
 rw [EV] at h
 refine hd [.tmp 4] Tryz.func245 Tryz.ntmps245 fun M0 W0 o j i b l g hs=>?_
 simp only [AA]
 have e:=BJ (l (.clo fa1 ca1) (by simp))
 refine rg [0,1] hs ?_
 obtain ⟨m,f,h⟩:=bind_some h
 refine rc 2 [4] hs ?_;intro K2 c
 refine Ax _ (Nr w0 n _ _ _ a0 fa1 ca1 a1 (fun x0 r k d a q1 q2=>ha1 x0 r k d a (List.IsPrefix.trans px q1) (g.pre.trans q2)) _ f) (hv hs) ?_
 refine ne hs c ?_
 clear c
 exact rt h hs b g
end Go.Proofs.YtmcnjijeocmkgaaGreatDoor
