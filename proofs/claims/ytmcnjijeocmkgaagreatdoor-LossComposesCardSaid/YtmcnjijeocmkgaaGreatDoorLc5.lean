/-
  Part 5 of the proof: rules and walks that the claim's last text uses.
-/
import Derived.BigQuiet
import Derived.Deep.LoopGhost
import Derived.Deep.QuietTactic
import Derived.Ground.Names2Prog
import Derived.Ground.NamesProg
import Derived.Ground.SlgfProg
import Derived.Ground.SlgnProg
import Derived.Ground.SlsfProg
import Derived.Laws.RangeAny
import Derived.Lib.OthersKept
import Derived.Shelf.LaysC
import Derived.Shelf.LaysM
import Derived.Shelf.Slices.Cells
import Derived.Shelf.Slices.Clone
import Derived.Shelf.Slices.CompactS
import Derived.Shelf.SlicesE.Clone
import Derived.Shelf.SlicesE.Compact
import Derived.Shelf.SlicesE.DeleteFunc
import Derived.Shelf.SlicesE.Equal
import Derived.Shelf.SlicesE.IndexFunc
import Derived.Shelf.Small.Bits
import Derived.Shelf.Small.Strs
import Derived.Shelf.Small.Utf8
import Derived.Shelf.Sort.Plain
import Derived.Shelf.Spec.SlicesInsertGrow
import Derived.Shelf.Strconv.Atoi
import Derived.Shelf.Strconv.AtoiAll
import Derived.Shelf.Strconv.AtoiErrFast
import Derived.Shelf.Strconv.AtoiFail
import Derived.Shelf.Strconv.AtoiInnerAll
import Derived.Shelf.Strconv.AtoiLong
import Derived.Shelf.Strconv.Clone
import Derived.Shelf.Strconv.Lower
import Derived.Shelf.Strconv.ParseInt10
import Derived.Shelf.Strconv.ParseIntEmpty
import Derived.Shelf.Strconv.ParseUint10
import Derived.Shelf.Strconv.ParseUint10Any
import Derived.Shelf.Strconv.ParseUint10Empty
import Derived.Shelf.Strconv.RangeError
import Derived.Shelf.Strconv.SyntaxError
import Derived.Shelf.Strconv.ToError
import Derived.Shelf.Strconv.ToErrorRange
import Derived.Shelf.Strings.AsciiSet
import Derived.Shelf.Strings.Cut
import Derived.Shelf.Strings.IndexAny
import Derived.Shelf.Strings.IndexAnyAll
import Derived.Shelf.Strings.Prefix
import Derived.Shelf.Strings.Repeat
import Derived.Shelf.Strings.Runes
import Derived.Shelf.Strings.Search1
import Derived.Shelf.Strings.Search2
import Derived.Shelf.Strings.Shaped
import Derived.Test.YtmcnjijeocmkgaaGreatDoorProg
import Derived.WalkMore
import Derived.WalkSmall
import Derived.Test.YtmcnjijeocmkgaaGreatDoorLc4
set_option linter.unusedSimpArgs false
set_option linter.unusedVariables false
set_option maxRecDepth 100000
set_option maxHeartbeats 4000000
namespace Go.Proofs.YtmcnjijeocmkgaaGreatDoor
open Go Go.RowKit Go.Ev
def PO (rec:Ty→Vl→Option Bool) (n:Nat) (h:Ty) (q:Vl):Option Bool :=
 (A2 n h.fields (fun (g:Int × ByteArray × Int × Ty × List Vl)=>Lr n g q)).bind fun b =>
 some (!b)
def Rx (rec:Ty→Vl→Option Bool) (n:Nat)  : Option Bool :=
 some (true)
def I2 (rec:Ty→Vl→Option Bool) (n:Nat) (y:Ty) (q:Vl):Nat→Int→Option Bool
 | 0,_=>none
 | m+1,b =>
  if decide (b<(q.fields.length:Int)) then
   (B6 q.fields b).bind fun g =>
   (JK n y g.1).bind fun h =>
   if !h.2 then
    some (false)
   else
    (rec h.1.2.2.2.1 g.2).bind fun z =>
    if !z then
     some (false)
    else
     if Bj (b+1) then
      (I2 rec n y q m) (b+1)
     else none
  else
   PO rec n y q 
def Db (rec:Ty→Vl→Option Bool) (n:Nat) (b:Ty) (g:Vl) (h:Bool):Option Bool :=
 if h then
  some ((decide (b.min≤g.int)&&decide (g.int≤b.max))&&(decide (g.scale=b.scale)))
 else
  if decide (b.kind=4) then
   if decide (0<(b.words.length:Int)) then
    (D3 n b.words g.text).bind fun y27 =>
    some (y27)
   else
    some (decide (b.min≤(g.text.size:Int))&&decide ((g.text.size:Int)≤b.max))
  else
   if decide (b.kind=5) then
    some (decide (b.min≤(g.text.size:Int))&&decide ((g.text.size:Int)≤b.max))
   else
    if decide (b.kind=8) then
     if decide (b.min≤(g.list.length:Int))&&decide ((g.list.length:Int)≤b.max) then
      (C7 n g.list (fun (x0:Vl)=>Lp rec x0 b)).bind fun y =>
      some (!y)
     else
      some (false)
    else
     if decide (b.kind=10) then
      (JK n b g.text).bind fun q =>
      if q.2 then
       (B6 g.list 0).bind fun z =>
       (rec q.1.2.2.2.1 z).bind fun y44 =>
       some (y44)
      else
       some (false)
     else
      if decide (b.kind=9) then
       I2 rec n b g n 0
      else
       Rx rec n 
def Ul (rec:Ty→Vl→Option Bool) (n:Nat) (b:Ty) (g:Vl):Option Bool :=
 if !(decide (g.kind=b.kind)) then
  some (false)
 else
  if decide (b.kind=2) then
   Db rec n b g true
  else
   if decide (b.kind=6) then
    Db rec n b g true
   else
    if decide (b.kind=7) then
     Db rec n b g true
    else
     Db rec n b g (decide (b.kind=3))
def JR:Nat→Ty→Vl→Option Bool
 | 0,_,_=>none
 | n+1,b,g=>Ul (JR n) n b g
def XZ (w0:World) (F:Ty→Vl→Option Bool):Prop:=∀ (B:As) (Rw:Ax) (L:Aw) (b:Ty) (g:Vl) (r:Bool),F b g=some r→ACalls Tryz.prog w0 201 [.agg (b.cs),.agg (g.cs)] ⟨B,Rw,L⟩ fun x st=>x = .val (.bool r)∧st=⟨B,Rw,L⟩
theorem ZaH (w0:World) (rec:Ty→Vl→Option Bool) (ih:XZ w0 rec) (n:Nat):XZ w0 (Ul rec n):=by
 intro B Rw L a0 a1 r h
 rw [Ul] at h
 refine hd [.tmp 4] Tryz.func201 Tryz.ntmps201 fun M0 W0 k f g b F i hs=>?_
 simp only [AB]
 refine rg [2,3] hs ?_
 apply Ap;intro K2 v
 refine rg [2,3,15] hs ?_
 refine Cj h hs ?_ ?_<;>intro hs h
 ·refine rg [4] hs ?_
  exact rt h hs b i
 refine sk [2,3] hs v ?_
 clear v
 refine AA (fun e st=>Ck e st B Rw L [] [a0.cs,a1.cs] [] (Rx rec n  = some r)) ?_ ?_
 ·intro K8 y
  refine rg [2,3,17] hs ?_
  apply Au
  refine AA (fun e st=>∃ (d:Bool),Ck e st B Rw L [(2,true,.box B.length 0),(3,true,.box (B.length+1) 0),(17,true,Am a0.kind),(18,true,.val (.bool d))] [a0.cs,a1.cs] [] (Db rec n a0 a1 d=some r)) ?_ ?_
  ·intro K12 u
   exact go (tg (a:=([2,3,17,18],([2,3,17,18],()),[2,3,17,18],([2,3,17,18],()),[2,3,17,18],([2,3,17,18],()),[2,3,17,18],()))) h hs k f g b i trivial (q1 u)
  ·clear h;rintro e st ⟨d,Xk11,Rk11,rfl,rfl,i,h⟩
   rw [Db] at h
   refine td k f g b i ?_
   refine Cj h hs ?_ ?_<;>intro hs h
   ·exact go (tg (a:=([4],()))) h hs k f g b i (q1 (Ri w0)) trivial
   refine rg [2,3,17,37] hs ?_
   refine Cj h hs ?_ ?_<;>intro hs h
   ·exact go (tg (a:=([2,3,42],([4],()),[2,3],[4],()))) h hs k f g b i (q2 (OK w0 n) (Ri w0)) trivial
   refine rg [2,3,17,56] hs ?_
   refine Cj h hs ?_ ?_<;>intro hs h
   ·exact go (tg (a:=([4],()))) h hs k f g b i (q1 (Ri w0)) trivial
   refine rg [2,3,17,66] hs ?_
   refine Cj h hs ?_ ?_<;>intro hs h
   ·apply Ap;intro K34 j
    rcases Bool.eq_false_or_eq_true (decide (a0.min≤(a1.list.length:Int))&&decide ((a1.list.length:Int)≤a0.max)) with hf35 | hf35
    ·replace h:=AW h hf35
     obtain ⟨E,q,h⟩:=bind_some h
     have hs:=Ae hf35 hs
     refine rk 3 [4] hs ?_
     refine Az _ (Ri w0 _ _ _ (a1.list.length:Int) a0.min a0.max) (hv hs) ?_
     refine nc hs ?_
     refine Az _ (M5 w0 n _ _ _ a1.list 269 [.box B.length 0] (fun (p:Vl)=>Lp rec p a0) (fun p r z D rows' o x=>by exact Zap w0 rec ih _ _ _ p _ a0 (EV o (ef hs)) _ z) _ q) (hv hs) ?_
     refine ne hs j ?_
     clear j
     exact rt h hs b i
    ·replace h:=AX h hf35
     exact go (tg (a:=([4],()))) h (Ae hf35 hs) k f g b i (q1 (Ri w0)) (q1 j)
   refine rg [2,3,17,83] hs ?_
   refine Cj h hs ?_ ?_<;>intro hs h
   ·exact go (tg (a:=([3,5,6],([11,4],()),[11,4],()))) h hs k f g b i (q2 (QZ w0 n) ih) trivial
   refine rg [2,3,102] hs ?_
   refine Cj h hs ?_ ?_<;>intro hs h
   ·refine AA (fun e st=>Ck e st B Rw L [(2,true,.box B.length 0),(3,true,.box (B.length+1) 0)] [a0.cs,a1.cs] [] (PO rec n a0 a1  = some r)) ?_ ?_
    ·intro K49 w
     refine rg [2,3,105,106,107] hs ?_
     apply Au
     refine AC (fun m e st=>∃ (c:Int),Ck e st B Rw L [(2,true,.box B.length 0),(3,true,.box (B.length+1) 0),(105,true,.list (a1.fields.map Qc) .none),(106,true,Am (a1.fields.length:Int)),(107,true,Am c)] [a0.cs,a1.cs] [] (I2 rec n a0 a1 m c=some r)) n ⟨0,([]),Rk11,ef hs,ef hs,i,h⟩ ?_
     rintro ml51 e st ⟨c,Xl51,Rl51,rfl,rfl,i,h⟩ Ul51 Vl51
     cases ml51 with
     | zero=>cases h
     | succ ml51 =>
     rw [I2] at h
     exact go (tg (a:=([2,3,105,106,107,108],([2,3,105,106,107],[2,3,8,105,106,107],[2,3,8,9,10,105,106,107],([2,3,105,106,107,127],[4],()),[2,3,105,106,107,127],([4],()),[2,3,105,106,107],[2,3,105,106,107],()),[2,3],()))) h hs k f g b i (q2 (QZ w0 n) ih) (q2 w (fun e s=>Vl51 ml51 e s (Nat.lt_succ_self _)))
    ·clear h;rintro e st ⟨Xk48,Rk48,rfl,rfl,i,h⟩
     rw [PO] at h
     refine td k f g b i ?_
     obtain ⟨C,t,h⟩:=bind_some h
     refine rc 2 [4] hs ?_;intro K68 l
     refine Az _ (Es w0 n _ _ _ a0.fields 270 [.box (B.length+1) 0] (fun (p:Int × ByteArray × Int × Ty × List Vl)=>Lr n p a1) (fun p r z D rows' o x=>by exact Zba w0 n _ _ _ p _ a1 (EV o (ef hs)) _ z) _ t) (hv hs) ?_
     refine ne hs l ?_
     clear l
     exact rt h hs b i
   refine sk [] hs y ?_
   exact ⟨([]),Rk11,ef hs,ef hs,i,h⟩
 ·clear h;rintro e st ⟨Xk7,Rk7,rfl,rfl,i,h⟩
  rw [Rx] at h
  refine td k f g b i ?_
  refine rg [4] hs ?_
  exact rt h hs b i
theorem YT (w0:World):∀ n:Nat,XZ w0 (JR n)
 | 0=>fun _ _ _ _ _ _ h=>(nomatch h)
 | n+1=>ZaH w0 (JR n) (YT w0 n) n
def J9 (n:Nat) (q:Ty) (b:Vl):Option Bool :=
 (HZ n b).bind fun g =>
 if decide (g=0) then
  (JR n q b).bind fun h =>
  some (h)
 else
  some (false)
theorem Yi (w0:World) (hT:Lib.Utf8Tabs 2 3 w0) (n:Nat) (B:As) (Rw:Ax) (L:Aw) (a0:Ty) (a1:Vl) (r:Bool) (h:J9 n a0 a1=some r) :
  ACalls Tryz.prog w0 123 [.agg (a0.cs),.agg (a1.cs)] ⟨B,Rw,L⟩ fun x st=>x = .val (.bool r)∧st=⟨B,Rw,L⟩:=by
 rw [J9] at h
 refine hd [.tmp 4] Tryz.func123 Tryz.ntmps123 fun M0 W0 e d c b g f hs=>?_
 simp only [AB]
 exact go (tg (a:=([2,3],([4],()),[4],()))) h hs e d c b f (q2 (QW w0 hT n) (YT w0 n)) trivial
def Ff (b:Int × ByteArray × Int × Ty × List Vl) (g:Int × ByteArray × Int × Ty × List Vl):Bool :=
 (G5 b.2.1 g.2.1)||(decide (b.1=g.1))
theorem Yf (w0:World) (B:As) (Rw:Ax) (L:Aw) (a0:Int × ByteArray × Int × Ty × List Vl) (la1:Nat) (a1:Int × ByteArray × Int × Ty × List Vl) (hla1:B[la1]? = some (Am a1.1::(.val (.string a1.2.1)::(Am a1.2.2.1::((a1.2.2.2.1.cs)++([.list (a1.2.2.2.2.map BZ) .none])))))) (r:Bool) (h:Ff a0 a1=r) :
  ACalls Tryz.prog w0 308 [.agg (Am a0.1::(.val (.string a0.2.1)::(Am a0.2.2.1::((a0.2.2.2.1.cs)++([.list (a0.2.2.2.2.map BZ) .none]))))),.box la1 0] ⟨B,Rw,L⟩ fun x st=>x = .val (.bool r)∧st=⟨B,Rw,L⟩:=by
 rw [Ff] at h
 refine hd [.tmp 3] Tryz.func308 Tryz.ntmps308 fun M0 W0 f e c a g d hs=>?_
 simp only [AB]
 have b:=(Ak.1 hla1).1
 have hs:=Ae (An hla1) hs
 refine rg [1,2] hs ?_
 refine rg [3] hs ?_
 exact rT h hs a d
theorem Wh (w0:World) (B:As) (Rw:Ax) (L:Aw) (a0:Int × ByteArray × Int × Ty × List Vl) (la1:Nat) (a1:Int × ByteArray × Int × Ty × List Vl) (hla1:B[la1]? = some (Am a1.1::(.val (.string a1.2.1)::(Am a1.2.2.1::((a1.2.2.2.1.cs)++([.list (a1.2.2.2.2.map BZ) .none])))))) :
  ACalls Tryz.prog w0 308 [.agg (Am a0.1::(.val (.string a0.2.1)::(Am a0.2.2.1::((a0.2.2.2.1.cs)++([.list (a0.2.2.2.2.map BZ) .none]))))),.box la1 0] ⟨B,Rw,L⟩ fun x st=>x = .val (.bool (Ff a0 a1))∧st=⟨B,Rw,L⟩:=Yf w0 B Rw L a0 la1 a1 hla1 _ rfl
def Ns (n:Nat) (g:Ty) (h:Int):Option Int :=
 (B6 g.fields h).bind fun b =>
 if b.2.1.size≤maxLen then
  if !(FO b.2.1) then
   some (12)
  else
   if !(decide (1≤b.1)&&decide (b.1≤9999)) then
    some (2)
   else
    if 0≤0∧0≤h∧h≤(g.fields.length:Int) then
     (A2 n (g.fields.take h.toNat) (fun (y:Int × ByteArray × Int × Ty × List Vl)=>some (Ff y b))).bind fun q =>
     if q then
      some (7)
     else
      if (!(decide (1≤b.2.2.1)&&decide (b.2.2.1≤3)))||((decide (g.kind=10))&&(!(decide (b.2.2.1=1)))) then
       some (11)
      else
       if (decide (b.2.2.1=3))&&(decide ((b.2.2.2.2.length:Int)=0)) then
        some (4)
       else
        if (decide (1<(b.2.2.2.2.length:Int)))||((!(decide (b.2.2.1=3)))&&(decide (0<(b.2.2.2.2.length:Int)))) then
         some (3)
        else
         some (0)
    else none
 else none
theorem ZaS (w0:World) (n:Nat) (B:As) (Rw:Ax) (L:Aw) (a0:Ty) (a1:Int) (r:Int) (h:Ns n a0 a1=some r) :
  ACalls Tryz.prog w0 255 [.agg (a0.cs),Am a1] ⟨B,Rw,L⟩ fun x st=>x=Am r∧st=⟨B,Rw,L⟩:=by
 rw [Ns] at h
 refine hd [.tmp 4] Tryz.func255 Tryz.ntmps255 fun M0 W0 u j o b z l hs=>?_
 simp only [AB]
 refine rg [1,2] hs ?_
 obtain ⟨x3,k,h⟩:=bind_some h
 obtain ⟨q,t,g⟩:=Bt k
 have e:=Bv (f:=CW) g
 have hs:=Ae e hs
 refine rg [1,2,5] hs ?_
 apply Ap;intro K4 m
 apply Au
 obtain ⟨p,h⟩:=Av h
 refine rc 2 [1,2,5,11] hs ?_;intro K5 c
 refine Az _ (PP w0 _ _ _ x3.2.1 p) (hv hs) ?_
 refine ne hs c ?_
 clear c
 refine Cj h hs ?_ ?_<;>intro hs h
 ·refine rg [4] hs ?_
  exact rt h hs b l
 refine rc 2 [1,2,5,16] hs ?_;intro K9 i
 refine Az _ (Ri w0 _ _ _ x3.1 1 9999) (hv hs) ?_
 refine ne hs i ?_
 clear i
 refine Cj h hs ?_ ?_<;>intro hs h
 ·refine rg [4] hs ?_
  exact rt h hs b l
 obtain ⟨s,h⟩:=Av h
 obtain ⟨w,hy14,h⟩:=bind_some h
 refine rc 2 [2,5,21] hs ?_;intro K12 d
 refine Az _ (Es w0 n _ _ _ (a0.fields.take a1.toNat) 308 [.box (B.length+1) 0] (fun (x0:Int × ByteArray × Int × Ty × List Vl)=>some (Ff x0 x3)) (fun x0 r hx y rows' hB' v=>by cases hx;exact Wh w0 _ _ _ x0 _ x3 (EV hB' (ef hs))) _ hy14) (hv hs) ?_
 exact go (tg (a:=(([4],()),[5,28],([4],()),[5,43],([4],()),[53],([4],()),[],[4],()))) h hs u j o b l (q1 (Ri w0)) (q2 d m)
def IW  (b:Bool):Int :=
 if b then
  3
 else
  0
def LC (b:Ty) (g:Lim):Int :=
 if (!g.bounds)&&((!(decide (b.min=0)))||(!(decide (b.max=0)))) then
  IW  true
 else
  if (!g.scale)&&(!(decide (b.scale=0))) then
   IW  true
  else
   if (!g.text)&&(decide (0<(b.words.length:Int))) then
    IW  true
   else
    if (!g.list)&&(decide (0<(b.elem.length:Int))) then
     IW  true
    else
     IW  ((!g.fields)&&(decide (0<(b.fields.length:Int))))
theorem Zc3 (w0:World) (B:As) (Rw:Ax) (L:Aw) (a0:Ty) (a1:Lim) (r:Int) (h:LC a0 a1=r) :
  ACalls Tryz.prog w0 253 [.agg (a0.cs),.agg (.val (.string a1.name)::(Am a1.low::(Am a1.high::(.val (.bool a1.bounds)::(.val (.bool a1.scale)::(.val (.bool a1.text)::(.val (.bool a1.list)::([.val (.bool a1.fields)]))))))))] ⟨B,Rw,L⟩ fun x st=>x=Am r∧st=⟨B,Rw,L⟩:=by
 rw [LC] at h
 refine hd [.tmp 4] Tryz.func253 Tryz.ntmps253 fun M0 W0 k f d c l i hs=>?_
 simp only [AB]
 refine rg [2,3] hs ?_
 apply Ap;intro K2 j
 apply Au
 refine AA (fun e st=>∃ (b:Bool),Ck e st B Rw L [(5,true,.val (.bool b))] [a0.cs,.val (.string a1.name)::(Am a1.low::(Am a1.high::(.val (.bool a1.bounds)::(.val (.bool a1.scale)::(.val (.bool a1.text)::(.val (.bool a1.list)::([.val (.bool a1.fields)])))))))] [] (IW  b=r)) ?_ ?_
 ·intro K5 g
  exact go (tg (a:=([2,3,5],([5],()),[2,3,5],([5],()),[2,3,5],([5],()),[2,3,5],([5],()),[5],()))) h hs k f d c i trivial (q1 g)
 ·clear h;rintro e st ⟨b,Xk4,Rk4,rfl,rfl,i,h⟩
  rw [IW] at h
  exact go (tg (a:=(([4],()),[],[4],()))) h hs k f d c i trivial (q1 j)
theorem ZaG (w0:World) (B:As) (Rw:Ax) (L:Aw) (a0:Ty) (a1:Lim) :
  ACalls Tryz.prog w0 253 [.agg (a0.cs),.agg (.val (.string a1.name)::(Am a1.low::(Am a1.high::(.val (.bool a1.bounds)::(.val (.bool a1.scale)::(.val (.bool a1.text)::(.val (.bool a1.list)::([.val (.bool a1.fields)]))))))))] ⟨B,Rw,L⟩ fun x st=>x=Am (LC a0 a1)∧st=⟨B,Rw,L⟩:=Zc3 w0 B Rw L a0 a1 _ rfl
def IZ  : ((List Lim)) :=
 [Lim.mk (⟨#[]⟩:ByteArray) 0 0 false false false false false,Lim.mk ((⟨#[98,111,111,108]⟩:ByteArray)) 0 0 false false false false false,Lim.mk ((⟨#[105,110,116]⟩:ByteArray)) ((-999999999999999)) 999999999999999 true false false false false,Lim.mk ((⟨#[100,101,99,105,109,97,108]⟩:ByteArray)) ((-999999999999999)) 999999999999999 true true false false false,Lim.mk ((⟨#[116,101,120,116]⟩:ByteArray)) 0 1024 true false true false false,Lim.mk ((⟨#[98,121,116,101,115]⟩:ByteArray)) 0 1024 true false false false false,Lim.mk ((⟨#[100,97,116,101]⟩:ByteArray)) ((-719162)) 2932896 true false false false false,Lim.mk ((⟨#[116,105,109,101]⟩:ByteArray)) ((-62135596800000)) 253402300799999 true false false false false,Lim.mk ((⟨#[108,105,115,116]⟩:ByteArray)) 0 256 true false false true false,Lim.mk ((⟨#[114,101,99,111,114,100]⟩:ByteArray)) 0 0 false false false false true,Lim.mk ((⟨#[118,97,114,105,97,110,116]⟩:ByteArray)) 0 0 false false false false true]
theorem Za1 (w0:World) (B:As) (Rw:Ax) (L:Aw)  (r:(List Lim)) (h:IZ  = r) :
  ACalls Tryz.prog w0 252 [] ⟨B,Rw,L⟩ fun x st=>x = .agg (r.flatMap fun x=>(Yw x).cells)∧st=⟨B,Rw,L⟩:=by
 rw [IZ] at h
 refine hd [.cell 0 259] Tryz.func252 Tryz.ntmps252 fun M0 W0 e d b a f c hs=>?_
 simp only [AB]
 refine rg [0] hs ?_
 refine rg [0] (al hs) ?_
 exact rT h hs a c
theorem ZB (w0:World) (B:As) (Rw:Ax) (L:Aw)  :
  ACalls Tryz.prog w0 252 [] ⟨B,Rw,L⟩ fun x st=>x = .agg ((IZ ).flatMap fun x=>(Yw x).cells)∧st=⟨B,Rw,L⟩:=Za1 w0 B Rw L  _ rfl
def NA (b:ByteArray):Vl :=
 Vl.mk 4 0 0 b ([]) ([])
theorem Zco (w0:World) (B:As) (Rw:Ax) (L:Aw) (a0:ByteArray) (r:Vl) (h:NA a0=r) :
  ACalls Tryz.prog w0 190 [.val (.string a0)] ⟨B,Rw,L⟩ fun x st=>x = .agg (r.cs)∧st=⟨B,Rw,L⟩:=by
 rw [NA] at h
 refine hd [.cell 2 34] Tryz.func190 Tryz.ntmps190 fun M0 W0 e d b a f c hs=>?_
 simp only [AB]
 refine rg [0,2] hs ?_
 refine rg [2] hs ?_
 exact rT h hs a c
theorem Zaj (w0:World) (B:As) (Rw:Ax) (L:Aw) (a0:ByteArray) :
  ACalls Tryz.prog w0 190 [.val (.string a0)] ⟨B,Rw,L⟩ fun x st=>x = .agg ((NA a0).cs)∧st=⟨B,Rw,L⟩:=Zco w0 B Rw L a0 _ rfl
def MU (n:Nat)  : Option Int :=
 some (0)
def Gm (n:Nat) (q:Ty):Nat→Int→Option Int
 | 0,_=>none
 | m+1,b =>
  if decide (b<(q.words.length:Int)) then
   (B6 q.words b).bind fun g =>
   (HZ n (NA g)).bind fun h =>
   if !(decide (h=0)) then
    some (h)
   else
    if decide (0<b) then
     if Bj (b-1) then
      (B6 q.words (b-1)).bind fun y =>
      if G5 g y then
       some (7)
      else
       if Bj (b-1) then
        if sLt g y then
         some (24)
        else
         if Bj (b+1) then
          (Gm n q m) (b+1)
         else none
       else none
     else none
    else
     if Bj (b+1) then
      (Gm n q m) (b+1)
     else none
  else
   MU n 
def Nz (n:Nat) (b:Ty):Option Int :=
 if (!(decide (b.min=0)))||(!(decide (b.max=0))) then
  some (3)
 else
  if decide (64<(b.words.length:Int)) then
   some (9)
  else
   Gm n b n 0
theorem ZaX (w0:World) (hT:Lib.Utf8Tabs 2 3 w0) (n:Nat) (B:As) (Rw:Ax) (L:Aw) (a0:Ty) (r:Int) (h:Nz n a0=some r) :
  ACalls Tryz.prog w0 254 [.agg (a0.cs)] ⟨B,Rw,L⟩ fun x st=>x=Am r∧st=⟨B,Rw,L⟩:=by
 rw [Nz] at h
 refine hd [.tmp 2] Tryz.func254 Tryz.ntmps254 fun M0 W0 k j f b l d hs=>?_
 simp only [AB]
 refine rg [1] hs ?_
 apply Ap;intro K2 g
 apply Au
 refine rg [1,6] hs ?_
 refine Cj h hs ?_ ?_<;>intro hs h
 ·refine rg [2] hs ?_
  exact rt h hs b d
 refine rg [1,15] hs ?_
 refine Cj h hs ?_ ?_<;>intro hs h
 ·refine rg [2] hs ?_
  exact rt h hs b d
 refine sk [1] hs g ?_
 clear g
 refine AA (fun e st=>Ck e st B Rw L [] [a0.cs] [] (MU n  = some r)) ?_ ?_
 ·intro K11 i
  refine rg [1,21,22,23] hs ?_
  apply Au
  refine AC (fun m e st=>∃ (c:Int),Ck e st B Rw L [(1,true,.box B.length 0),(21,true,.list (a0.words.map Eo) .none),(22,true,Am (a0.words.length:Int)),(23,true,Am c)] [a0.cs] [] (Gm n a0 m c=some r)) n ⟨0,([]),Rw,ef hs,ef hs,d,h⟩ ?_
  rintro ml13 e st ⟨c,Xl13,Rl13,rfl,rfl,d,h⟩ Ul13 Vl13
  cases ml13 with
  | zero=>cases h
  | succ ml13 =>
  rw [Gm] at h
  exact go (tg (a:=([1,21,22,23,24],([1,21,22,23],[1,3,4,21,22,23],[1,3,4,5,21,22,23],[1,3,4,5,21,22,23,32],([2],()),[1,3,4,21,22,23],([1,3,4,21,22,23,45],([2],()),[1,3,4,21,22,23],[1,21,22,23,57],([2],()),[1,21,22,23],[1,21,22,23],()),[1,3,4,21,22,23,45],[1,3,4,21,22,23],[1,21,22,23,57],[1,21,22,23],[1,21,22,23],()),[],()))) h hs k j f b d (q2 (Zaj w0) (QW w0 hT n)) (q2 i (fun e s=>Vl13 ml13 e s (Nat.lt_succ_self _)))
 ·clear h;rintro e st ⟨Xk10,Rk10,rfl,rfl,d,h⟩
  rw [MU] at h
  refine td k j f b d ?_
  refine rg [2] hs ?_
  exact rt h hs b d
def SH (n:Nat)  : Option Int :=
 some (0)
def IR (n:Nat) (h:Ty):Nat→Int→Option Int
 | 0,_=>none
 | m+1,b =>
  if decide (b<(h.fields.length:Int)) then
   (Ns n h b).bind fun g =>
   if !(decide (g=0)) then
    some (g)
   else
    if Bj (b+1) then
     (IR n h m) (b+1)
    else none
  else
   SH n 
def I1 (n:Nat) (g:Ty) (b:Bool):Option Int :=
 if b then
  some (4)
 else
  if (decide (g.kind=8))&&(decide (1<(g.elem.length:Int))) then
   some (3)
  else
   if decide (64<(g.fields.length:Int)) then
    some (9)
   else
    IR n g n 0
def Lo (n:Nat) (b:Ty):Option Int :=
 if (decide (b.kind=8))&&(decide ((b.elem.length:Int)=0)) then
  I1 n b true
 else
  I1 n b ((decide (b.kind=10))&&(decide ((b.fields.length:Int)=0)))
def Nw (n:Nat) (g:Ty) (b:Bool):Option Int :=
 if b then
  some (2)
 else
  Lo n g 
def Re (n:Nat) (b:Ty):Option Int :=
 if !(decide (1≤b.kind)&&decide (b.kind≤10)) then
  some (11)
 else
  (B6 (IZ ) b.kind).bind fun g =>
  if !(decide ((LC b g)=0)) then
   some (LC b g)
  else
   if (decide (b.kind=4))&&(decide (0<(b.words.length:Int))) then
    (Nz n b).bind fun h =>
    if !(decide (h=0)) then
     some (h)
    else
     Lo n b 
   else
    if g.bounds&&(((decide (b.max<b.min))||(decide (b.min<g.low)))||(decide (g.high<b.max))) then
     Nw n b true
    else
     Nw n b (g.scale&&(!(decide (0≤b.scale)&&decide (b.scale≤12))))
theorem Zeo (w0:World) (hT:Lib.Utf8Tabs 2 3 w0) (n:Nat) (B:As) (Rw:Ax) (L:Aw) (a0:Ty) (r:Int) (h:Re n a0=some r) :
  ACalls Tryz.prog w0 172 [.agg (a0.cs)] ⟨B,Rw,L⟩ fun x st=>x=Am r∧st=⟨B,Rw,L⟩:=by
 rw [Re] at h
 refine hd [.tmp 2] Tryz.func172 Tryz.ntmps172 fun M0 W0 t l o b O k hs=>?_
 simp only [AB]
 refine rg [1] hs ?_
 apply Ap;intro K2 H
 refine rc 2 [1,11] hs ?_;intro K3 C
 refine Az _ (Ri w0 _ _ _ a0.kind 1 10) (hv hs) ?_
 refine ne hs C ?_
 clear C
 refine Cj h hs ?_ ?_<;>intro hs h
 ·have p:=hs.1
  refine rg [2] hs ?_
  exact rt h hs b k
 have p:=hs.1
 refine sk [1] hs H ?_
 clear H
 apply Ap;intro K6 y
 obtain ⟨c,K,h⟩:=bind_some h
 obtain ⟨N,u,z⟩:=Bt K
 have j:=Oa (f:=fun x=>(Yw x).cells) 8 (fun _=>rfl) z
 have E:(IZ ).length=11:=rfl
 first | rw [E] at u | simp only [List.length_cons,List.length_nil,Nat.reduceAdd,Nat.zero_add] at u
 simp only [Ge,Gi,F3,ES,EY,F7,Dn,D5,F2,CN,CM,Ej,D7,Ef,F4,Ee,FZ,TW] at j
 apply Gt OJ [4,5] [1,3] kr (fun s=>∃ (X:As) (rows:Ax),s=⟨B++([a0.cs]++X),rows,L⟩) 3 (B.length+1)
 ·simp +decide only [go_sem,Nat.reduceAdd]
 ·rintro s ⟨X,rows,rfl⟩
  refine ⟨2,?_⟩
  rw [Aq];simp +decide only [go_sem,Nat.reduceAdd,Dw,p,j]
  have hs:=Ae j hs
  (repeat' apply Ae)<;>first | refine Az _ (ZB w0 _ _ _ ) (hv hs) ?_ | exact cl
  rw [Aq];simp +decide only [go_sem,Nat.reduceAdd,p,j]
  (repeat' apply Ae)<;>first | rfl | exact cl
 ·exact gd (tg (a:=(4,5,[1,3]))) (Ae j hs)
 simp +decide only [go_sem,Nat.reduceAdd,p,j]
 (repeat' apply Ae)<;>first | refine y _ _ ?_ | exact cl
 clear y
 apply Ap;intro K8 G
 have hs:=Ae j hs
 refine rc 2 [1,3,4] hs ?_;intro K9 J
 refine Az _ (ZaG w0 _ _ _ a0 c) (hv hs) ?_
 refine ne hs J ?_
 clear J
 refine rg [1,3,4,20] hs ?_
 refine Cj h hs ?_ ?_<;>intro hs h
 ·refine rg [2] hs ?_
  exact rt h hs b k
 refine sk [1,3] hs G ?_
 clear G
 refine AA (fun e st=>Ck e st B Rw L [(1,true,.box B.length 0)] [a0.cs,.val (.string c.name)::(Am c.low::(Am c.high::(.val (.bool c.bounds)::(.val (.bool c.scale)::(.val (.bool c.text)::(.val (.bool c.list)::([.val (.bool c.fields)])))))))] [] (Lo n a0  = some r)) ?_ ?_
 ·intro K15 v
  apply Au
  refine rg [1,3,22] hs ?_
  refine Cj h hs ?_ ?_<;>intro hs h
  ·exact go (tg (a:=([1,5],[1,5,35],([2],()),[1],()))) h hs t l o b k (q1 (ZaX w0 hT n)) (q1 v)
  refine AA (fun e st=>∃ (i:Bool),Ck e st B Rw L [(1,true,.box B.length 0),(37,true,.val (.bool i))] [a0.cs,.val (.string c.name)::(Am c.low::(Am c.high::(.val (.bool c.bounds)::(.val (.bool c.scale)::(.val (.bool c.text)::(.val (.bool c.list)::([.val (.bool c.fields)])))))))] [] (Nw n a0 i=some r)) ?_ ?_
  ·intro K25 w
   refine rg [1,3,37] hs ?_
   refine Cj h hs ?_ ?_<;>intro hs h
   ·refine sk [1,37] hs w ?_
    exact ⟨true,([]),Rw,ef hs,ef hs,k,h⟩
   refine rk 2 [1,37] hs ?_
   refine QB _ (fun _=>Ri w0 _ _ _ a0.scale 0 12) (hv hs) ?_
   exact go (tg (a:=((),()))) h hs t l o b k trivial (q1 w)
  ·clear h;rintro e st ⟨i,Xk24,Rk24,rfl,rfl,k,h⟩
   rw [Nw] at h
   exact go (tg (a:=(([2],()),[1],()))) h hs t l o b k trivial (q1 v)
 ·clear h;rintro e st ⟨Xk14,Rk14,rfl,rfl,k,h⟩
  rw [Lo] at h
  refine td t l o b k ?_
  apply Ap;intro K30 q
  apply Au
  refine AA (fun e st=>∃ (g:Bool),Ck e st B Rw L [(1,true,.box B.length 0),(69,true,.val (.bool g))] [a0.cs,.val (.string c.name)::(Am c.low::(Am c.high::(.val (.bool c.bounds)::(.val (.bool c.scale)::(.val (.bool c.text)::(.val (.bool c.list)::([.val (.bool c.fields)])))))))] [] (I1 n a0 g=some r)) ?_ ?_
  ·intro K33 F
   exact go (tg (a:=([1,69],([1,69],()),[1,69],()))) h hs t l o b k trivial (q1 F)
  ·clear h;rintro e st ⟨g,Xk32,Rk32,rfl,rfl,k,h⟩
   rw [I1] at h
   refine td t l o b k ?_
   refine Cj h hs ?_ ?_<;>intro hs h
   ·refine rg [2] hs ?_
    exact rt h hs b k
   refine rg [1,88] hs ?_
   refine Cj h hs ?_ ?_<;>intro hs h
   ·refine rg [2] hs ?_
    exact rt h hs b k
   refine rg [1,98] hs ?_
   refine Cj h hs ?_ ?_<;>intro hs h
   ·refine rg [2] hs ?_
    exact rt h hs b k
   refine sk [1] hs q ?_
   clear q
   refine AA (fun e st=>Ck e st B Rw L [] [a0.cs,.val (.string c.name)::(Am c.low::(Am c.high::(.val (.bool c.bounds)::(.val (.bool c.scale)::(.val (.bool c.text)::(.val (.bool c.list)::([.val (.bool c.fields)])))))))] [] (SH n  = some r)) ?_ ?_
   ·intro K46 D
    refine rg [1,105,106] hs ?_
    apply Au
    refine AC (fun m e st=>∃ (d:Int),Ck e st B Rw L [(1,true,.box B.length 0),(105,true,Am (a0.fields.length:Int)),(106,true,Am d)] [a0.cs,.val (.string c.name)::(Am c.low::(Am c.high::(.val (.bool c.bounds)::(.val (.bool c.scale)::(.val (.bool c.text)::(.val (.bool c.list)::([.val (.bool c.fields)])))))))] [] (IR n a0 m d=some r)) n ⟨0,([]),Rk32,ef hs,ef hs,k,h⟩ ?_
    rintro ml48 e st ⟨d,Xl48,Rl48,rfl,rfl,k,h⟩ Ul48 Vl48
    cases ml48 with
    | zero=>cases h
    | succ ml48 =>
    rw [IR] at h
    exact go (tg (a:=([1,105,106,107],([1,105,106],[1,6,105,106],[1,7,105,106],[1,7,105,106,113],([2],()),[1,105,106],[1,105,106],()),[],()))) h hs t l o b k (q1 (ZaS w0 n)) (q2 D (fun e s=>Vl48 ml48 e s (Nat.lt_succ_self _)))
   ·clear h;rintro e st ⟨Xk45,Rk45,rfl,rfl,k,h⟩
    rw [SH] at h
    refine td t l o b k ?_
    refine rg [2] hs ?_
    exact rt h hs b k
def Pq (rec:Ty→Int→Int→Option (Int × Int)) (n:Nat)  (pla2_k18:Int):Option (Int × Int) :=
 some ((0,pla2_k18))
def C0 (rec:Ty→Int→Int→Option (Int × Int)) (n:Nat) (y:Ty) (a1:Int) (h:(List Ty)):Nat→Int→Int→Option (Int × Int)
 | 0,_,_=>none
 | m+1,b,pla2_l22 =>
  if decide (b<(h.length:Int)) then
   (B6 h b).bind fun z =>
   if Bj (a1+1) then
    (rec z (a1+1) pla2_l22).bind fun g =>
    if !(decide (g.1=0)) then
     some ((g.1,g.2))
    else
     if decide (y.kind=9) then
      (B6 y.fields b).bind fun q =>
      if decide (q.2.2.1=3) then
       (B6 q.2.2.2.2 0).bind fun x40 =>
       (J9 n z x40).bind fun y41 =>
       if !y41 then
        some ((18,g.2))
       else
        if Bj (b+1) then
         (C0 rec n y a1 h m) (b+1) g.2
        else none
      else
       if Bj (b+1) then
        (C0 rec n y a1 h m) (b+1) g.2
       else none
     else
      if Bj (b+1) then
       (C0 rec n y a1 h m) (b+1) g.2
      else none
   else none
  else
   Pq rec n pla2_l22
def PH (rec:Ty→Int→Int→Option (Int × Int)) (n:Nat) (h:Ty) (y:Int) (b:Int):Option (Int × Int) :=
 if decide (b=0) then
  some ((9,b))
 else
  if decide (8<y) then
   some ((23,b))
  else
   if Bj (b-1) then
    (Re n h).bind fun g =>
    if !(decide (g=0)) then
     some ((g,b-1))
    else
     (JD n h).bind fun q =>
     C0 rec n h y q n 0 (b-1)
   else none
def JL:Nat→Ty→Int→Int→Option (Int × Int)
 | 0,_,_,_=>none
 | n+1,g,h,b=>PH (JL n) n g h b
def S3 (w0:World) (F:Ty→Int→Int→Option (Int × Int)):Prop:=∀ (B:As) (Rw:Ax) (L:Aw) (g:Ty) (h:Int) (la2:Nat) (b:Int) (hla2:B[la2]? = some ([Am b])) (r:Int × Int),F g h b=some r→ACalls Tryz.prog w0 82 [.agg (g.cs),Am h,.box la2 0] ⟨B,Rw,L⟩ fun x st=>x=Am r.1∧st=⟨(B.set la2 [Am r.2]),Rw,L⟩
theorem X0 (w0:World) (hT:Lib.Utf8Tabs 2 3 w0) (rec:Ty→Int→Int→Option (Int × Int)) (ih:S3 w0 rec) (n:Nat):S3 w0 (PH rec n):=by
 intro B Rw L a0 a1 l a2 t r h
 rw [PH] at h
 refine hd [.tmp 6] Tryz.func82 Tryz.ntmps82 fun M0 W0 D i k c hu j hs=>?_
 simp only [AB]
 have Q:=(Ak.1 t).1
 have hs:=Ae (An t) hs
 refine rg [1,2,3] hs ?_
 apply Ap;intro K2 O
 apply Au
 refine rg [1,2,3,11] hs ?_
 refine Cj h hs ?_ ?_<;>intro hs h
 ·have U:=hs.1
  refine rg [6] hs ?_
  exact rt h hs c j
 have U:=hs.1
 refine rg [1,2,3,16] hs ?_
 refine Cj h hs ?_ ?_<;>intro hs h
 ·have Y:=hs.1
  refine rg [6] hs ?_
  exact rt h hs c j
 have Y:=hs.1
 refine sk [1,2,3] hs O ?_
 clear O
 obtain ⟨ad,h⟩:=Av h
 refine rg [1,2,3] hs ?_
 apply Ap;intro K11 u
 obtain ⟨af,K,h⟩:=bind_some h
 refine rc 2 [1,2,3,7] hs ?_;intro K12 p
 refine Az _ (Zeo w0 hT n _ _ _ a0 _ K) (hv hs) ?_
 refine ne hs p ?_
 clear p
 refine rg [1,2,3,7,27] hs ?_
 refine Cj h hs ?_ ?_<;>intro hs h
 ·have H:=hs.1
  exact go (tg (a:=([6],()))) h hs D i k c j trivial trivial
 have H:=hs.1
 refine sk [1,2,3] hs u ?_
 clear u
 refine AA (fun e st=>∃ (d:Int) (Xk18:As) (Rk18:Ax),e=[]∧st=⟨(B.set l ([Am d]))++([a0.cs]++Xk18),Rk18,L⟩∧Owns Rw Rk18 []∧Pq rec n d=some r) ?_ ?_
 ·intro K19 E
  obtain ⟨x,N,h⟩:=bind_some h
  refine rc 2 [1,2,3,30,31,32] hs ?_;intro K20 v
  refine Az _ (Qv w0 n _ _ _ a0 _ N) (hv hs) ?_
  refine ne hs v ?_
  clear v
  apply Au
  refine AC (fun m e st=>∃ (g:Int) (b:Int) (Xl22:As) (Rl22:Ax),e=[(1,true,Am a1),(2,true,.box l 0),(3,true,.box B.length 0),(30,true,.list (x.map KF) .none),(31,true,Am (x.length:Int)),(32,true,Am g)]∧st=⟨(B.set l ([Am b]))++([a0.cs]++Xl22),Rl22,L⟩∧Owns Rw Rl22 []∧C0 rec n a0 a1 x m g b=some r) n ⟨0,(a2-1),([]),Rw,ef hs,ef hs,j,h⟩ ?_
  rintro ml22 e st ⟨g,b,Xl22,Rl22,rfl,rfl,j,h⟩ Ul22 Vl22
  cases ml22 with
  | zero=>cases h
  | succ ml22 =>
  rw [C0] at h
  refine A4 D i k N9 (A1 c ev) j ow ow ?_
  refine rg [1,2,3,30,31,32,33] hs ?_
  apply Ap;intro K24 q
  refine Cj h hs ?_ ?_<;>intro hs h
  rotate_left
  ·have G:=hs.1
   refine sx [] hs E ?_
   exact ⟨b,([]),Rl22,ef hs,ef hs,j,h⟩
  have G:=hs.1
  refine sk [1,2,3,30,31,32] hs q ?_
  clear q
  apply Ap;intro K26 F
  apply Au
  obtain ⟨aa,C,h⟩:=bind_some h
  obtain ⟨V,Z,w⟩:=Bt C
  have y:=Bv (f:=KF) w
  have hs:=Ae y hs
  refine rg [1,2,3,8,9,30,31,32] hs ?_
  apply Ap;intro K29 z
  obtain ⟨ab,h⟩:=Av h
  obtain ⟨ae,J,h⟩:=bind_some h
  refine rc 2 [1,2,3,8,9,10,30,31,32] hs ?_;intro K30 o
  refine Ey _ (ih _ _ _ aa (a1+1) l b (ef hs) _ J) (hv hs) ?_;rintro _ _ ⟨rfl,rfl⟩
  refine ne hs o ?_
  clear o
  exact go (tg (a:=([1,2,3,8,9,10,30,31,32,43],([6],()),[1,2,3,8,9,30,31,32],(([25,1,2,3,30,31,32,69],([6],()),[1,2,3,30,31,32],[1,2,3,30,31,32],()),[25,1,2,3,30,31,32,69],[1,2,3,30,31,32],[1,2,3,30,31,32],()),[25,1,2,3,30,31,32,69],[1,2,3,30,31,32],[1,2,3,30,31,32],()))) h hs D i k c j (q1 (Yi w0 hT n)) (q3 z F (fun e s=>Vl22 ml22 e s (Nat.lt_succ_self _)))
 ·clear h;rintro e st ⟨d,Xk18,Rk18,rfl,rfl,j,h⟩
  rw [Pq] at h
  refine A4 D i k N9 (A1 c ev) j ow ow ?_
  exact go (tg (a:=([6],()))) h hs D i k c j trivial trivial
theorem U1 (w0:World) (hT:Lib.Utf8Tabs 2 3 w0):∀ n:Nat,S3 w0 (JL n)
 | 0=>fun _ _ _ _ _ _ _ _ _ h=>(nomatch h)
 | n+1=>X0 w0 hT (JL n) (U1 w0 hT n) n
def IX  : List (Nat × Vl)→Int→Option Int
 | [],b1_r6 =>
  some (b1_r6)
 | p_r6::rest,b1_r6 =>
  if Bj (b1_r6+1) then
   (IX  rest) (b1_r6+1)
  else none
def OQ (b:Vl):Option Int :=
 if b.depth<4611686018427387904∧b.wide=true then
  IX  (Hg 1 b) 0
 else none
theorem Zdi (w0:World) (B:As) (Rw:Ax) (L:Aw) (a0:Vl) (r:Int) (h:OQ a0=some r) :
  ACalls Tryz.prog w0 195 [.agg (a0.cs)] ⟨B,Rw,L⟩ fun x st=>x=Am r∧st=⟨B,Rw,L⟩:=by
 rw [OQ] at h
 refine hd [.tmp 2] Tryz.func195 Tryz.ntmps195 fun M0 W0 y k p b J c hs=>?_
 simp only [AB]
 refine rg [1] hs ?_
 refine rg [1,3] hs ?_
 apply Ap;intro K3 d
 refine rc 2 [3,5] hs ?_;intro K4 e
 refine Ey _ (TM w0 _ _ _ a0) (hv hs) ?_;rintro _ _ ⟨rfl,rfl⟩
 refine ne hs e ?_
 clear e
 apply Au
 obtain ⟨m,h⟩:=Av h
 refine WT (Kz a0) (fun st=>st.boxes[(B.length+2)]? = some a0.cs) (fun i st=>∃ (a:Int) (Rr6:Ax),st=⟨B++([a0.cs,[Am a],a0.cs]),Rr6,L⟩∧Owns Rw Rr6 []∧IX  ((Hg 1 a0).drop i) a=some r) (fun _ _=>False) ev ev (Qa w0 a0 m _) (fun x q=>Up a0 x q) (by decide) ?_ ⟨0,Rw,ef hs,c,h⟩ (fun _ _ h=>h.elim) ?_ ?_ ?_
 ·rintro i st n ⟨a,Rr6,rfl,c,h⟩ _ _;simp +decide [St.push]
 ·rintro i H ⟨XB,XR,XL⟩ x M1 W1 l n z hX w t g q C K u
  obtain ⟨v,o,rfl,G⟩:=Vm a0 i x q
  (try simp only at hX)
  subst hX
  obtain ⟨a,Rr6,rfl,c,h⟩:=w
  rw [Y6 o,IX] at h
  have f:=c
  simp only [St.ext,St.push,List.append_assoc,List.append_nil]
  refine RU (Fv [3] _) ?_ (GY _ _)
  apply Ew;simp +decide only [go_sem,Nat.reduceAdd]
  (repeat' apply Ae)<;>first | refine u _ _ (by simp [St.ext,St.push]) (fun F j=>?_) | exact cl
  clear u
  dsimp only [St.ext,St.push]
  apply Au
  obtain ⟨D,h⟩:=Av h
  apply Ar 1 [3]
  rw [Aq];simp +decide only [go_sem,Nat.reduceAdd]
  (repeat' apply Ae)<;>first | refine j _ _ _ ⟨⟨B++[a0.cs,[Am (a+1)],a0.cs],Rr6,L⟩,[],by first | rfl | (simp only [List.append_assoc,List.append_nil,List.cons_append,List.nil_append];done),⟨by simp,by first | exact Nat.le_refl _ | (have:=c.len;simp;omega),rfl⟩,rfl,⟨(a+1),Rr6,ef hs,c,h⟩,?_⟩ | exact cl
  exact .inl rfl
 ·rintro s n ⟨XB,XR,XL⟩ hXR ⟨a,Rr6,rfl,c,h⟩ _ _
  simp only at hXR
  subst hXR
  rw [List.drop_eq_nil_of_le (by rw [Qk];exact Nat.le_refl _),IX] at h
  simp only [St.ext,St.push,List.append_assoc,List.append_nil]
  (repeat' apply Ae)<;>first | refine d _ _ ?_ | exact cl
  clear d
  refine Xi (bs:=[a0.cs,[Am a],a0.cs]) y k p rfl b c ow ow ?_
  refine rg [2] hs ?_
  exact rt h hs b c
 ·rintro E s n X hX h;exact h.elim
def Et (rec:Ty→Option Int) (n:Nat) (g:Int→Int→Option Int) (b:Int) (h:Int):Option Int :=
 if Bj (b+1) then
  g h (b+1)
 else none
def EW (rec:Ty→Option Int) (n:Nat)  (b:Int):Option Int :=
 some ((if 4097<b then 4097 else b))
def BQ (rec:Ty→Option Int) (n:Nat) (z:Ty):Nat→Int→Int→Option Int
 | 0,_,_=>none
 | m+1,g,b =>
  if decide (b<(z.fields.length:Int)) then
   (B6 z.fields b).bind fun h =>
   if decide (h.2.2.1=1) then
    (rec h.2.2.2.1).bind fun q =>
    if Bj (g+q) then
     Et rec n (BQ rec n z m) b (g+q)
    else none
   else
    if decide (h.2.2.1=3) then
     (B6 h.2.2.2.2 0).bind fun x39 =>
     (OQ x39).bind fun y =>
     if Bj (g+y) then
      Et rec n (BQ rec n z m) b (g+y)
     else none
    else
     Et rec n (BQ rec n z m) b g
  else
   EW rec n g
def JY (rec:Ty→Option Int) (n:Nat) (b:Ty):Option Int :=
 if decide (b.kind=8) then
  if decide (0<b.min) then
   (B6 b.elem 0).bind fun y =>
   (rec y).bind fun g =>
   if Bj (b.min*g) then
    if Bj (1+(b.min*g)) then
     EW rec n (1+(b.min*g))
    else none
   else none
  else
   EW rec n 1
 else
  if decide (b.kind=10) then
   (B6 b.fields 0).bind fun q =>
   (rec q.2.2.2.1).bind fun h =>
   if Bj (1+h) then
    EW rec n (1+h)
   else none
  else
   if decide (b.kind=9) then
    BQ rec n b n 1 0
   else
    EW rec n 1
def DO:Nat→Ty→Option Int
 | 0,_=>none
 | n+1,b=>JY (DO n) n b
def M7 (w0:World) (F:Ty→Option Int):Prop:=∀ (B:As) (Rw:Ax) (L:Aw) (b:Ty) (r:Int),F b=some r→ACalls Tryz.prog w0 173 [.agg (b.cs)] ⟨B,Rw,L⟩ fun x st=>x=Am r∧st=⟨B,Rw,L⟩
theorem SJ (w0:World) (rec:Ty→Option Int) (ih:M7 w0 rec) (n:Nat):M7 w0 (JY rec n):=by
 intro B Rw L a0 r h
 rw [JY] at h
 refine hd [.tmp 2] Tryz.func173 Tryz.ntmps173 fun M0 W0 p k i c t j hs=>?_
 simp only [AB]
 refine rg [1] hs ?_
 refine rg [1,3] hs ?_
 refine AA (fun e st=>∃ (g:Int),Ck e st B Rw L [(3,true,Am g)] [a0.cs] [] (EW rec n g=some r)) ?_ ?_
 ·intro K5 l
  refine rg [1,3,7] hs ?_
  apply Au
  refine rg [1,3,7,8] hs ?_
  refine Cj h hs ?_ ?_<;>intro hs h
  ·exact go (tg (a:=([1,3,12],([10,3],()),[3],()))) h hs p k i c j (q1 ih) (q1 l)
  refine rg [1,3,7,23] hs ?_
  refine Cj h hs ?_ ?_<;>intro hs h
  ·exact go (tg (a:=([3],()))) h hs p k i c j (q1 ih) (q1 l)
  refine rg [1,3,33] hs ?_
  refine Cj h hs ?_ ?_<;>intro hs h
  ·refine rg [3,36,37,38] hs ?_
   apply Au
   refine AC (fun m e st=>∃ (d:Int) (b:Int),Ck e st B Rw L [(3,true,Am d),(36,true,.list (a0.fields.map CW) .none),(37,true,Am (a0.fields.length:Int)),(38,true,Am b)] [a0.cs] [] (BQ rec n a0 m d b=some r)) n ⟨1,0,([]),Rw,ef hs,ef hs,j,h⟩ ?_
   rintro ml23 e st ⟨d,b,Xl23,Rl23,rfl,rfl,j,h⟩ Ul23 Vl23
   cases ml23 with
   | zero=>cases h
   | succ ml23 =>
   rw [BQ] at h
   refine td p k i c j ?_
   refine rg [3,36,37,38,39] hs ?_
   apply Ap;intro K25 o
   refine Cj h hs ?_ ?_<;>intro hs h
   rotate_left
   ·refine sx [3] hs l ?_
    exact ⟨d,([]),Rl23,ef hs,ef hs,j,h⟩
   refine sk [3,36,37,38] hs o ?_
   clear o
   refine AA (fun e st=>∃ (f:Int),Ck e st B Rw L [(3,true,Am f),(36,true,.list (a0.fields.map CW) .none),(37,true,Am (a0.fields.length:Int)),(38,true,Am b)] [a0.cs] [] (Et rec n (BQ rec n a0 ml23) b f=some r)) ?_ ?_
   ·intro K29 q
    exact go (tg (a:=([3,5,36,37,38],[3,5,36,37,38,43],[3,5,36,37,38,43,44],([3,36,37,38],()),[3,5,36,37,38,51],([3,36,37,38],()),[3,36,37,38],()))) h hs p k i c j (q2 ih (Zdi w0)) (q1 q)
   ·clear h;rintro e st ⟨f,Xk28,Rk28,rfl,rfl,j,h⟩
    rw [Et] at h
    exact go (tg (a:=([3,36,37,38],()))) h hs p k i c j trivial (q1 (fun e s=>Vl23 ml23 e s (Nat.lt_succ_self _)))
  refine sk [3] hs l ?_
  exact ⟨1,([]),Rw,ef hs,ef hs,j,h⟩
 ·clear h;rintro e st ⟨g,Xk4,Rk4,rfl,rfl,j,h⟩
  rw [EW] at h
  refine td p k i c j ?_
  refine rg [2] hs ?_
  exact rt h hs c j
theorem Px (w0:World):∀ n:Nat,M7 w0 (DO n)
 | 0=>fun _ _ _ _ _ h=>(nomatch h)
 | n+1=>SJ w0 (DO n) (Px w0 n) n
def IJ (rec:Ty→Option Int) (n:Nat)  (b:Int):Option Int :=
 some (b)
def CY (rec:Ty→Option Int) (n:Nat) (y:Ty):Nat→Int→Int→Option Int
 | 0,_,_=>none
 | m+1,g,b =>
  if decide (b<(y.fields.length:Int)) then
   (B6 y.fields b).bind fun q =>
   (rec q.2.2.2.1).bind fun h =>
   if Bj (b+1) then
    (CY rec n y m) ((if g<h then h else g)) (b+1)
   else none
  else
   IJ rec n g
def I6 (rec:Ty→Option Int) (n:Nat) (g:Ty) (b:Int):Option Int :=
 CY rec n g n b 0
def Dp (rec:Ty→Option Int) (n:Nat) (q:Ty):Nat→Int→Int→Option Int
 | 0,_,_=>none
 | m+1,g,b =>
  if decide (b<(q.elem.length:Int)) then
   (B6 q.elem b).bind fun y =>
   (rec y).bind fun h =>
   if Bj (b+1) then
    (Dp rec n q m) ((if g<h then h else g)) (b+1)
   else none
  else
   I6 rec n q g
def HO (rec:Ty→Option Int) (n:Nat) (b:Ty):Option Int :=
 (DO n b).bind fun g =>
 Dp rec n b n g 0
def C9:Nat→Ty→Option Int
 | 0,_=>none
 | n+1,b=>HO (C9 n) n b
def JM (w0:World) (F:Ty→Option Int):Prop:=∀ (B:As) (Rw:Ax) (L:Aw) (b:Ty) (r:Int),F b=some r→ACalls Tryz.prog w0 83 [.agg (b.cs)] ⟨B,Rw,L⟩ fun x st=>x=Am r∧st=⟨B,Rw,L⟩
theorem P7 (w0:World) (rec:Ty→Option Int) (ih:JM w0 rec) (n:Nat):JM w0 (HO rec n):=by
 intro B Rw L a0 r h
 rw [HO] at h
 refine hd [.tmp 2] Tryz.func83 Tryz.ntmps83 fun M0 W0 t l o c x k hs=>?_
 simp only [AB]
 refine rg [1] hs ?_
 obtain ⟨w,v,h⟩:=bind_some h
 refine rc 2 [1,3] hs ?_;intro K2 q
 refine Az _ (Px w0 n _ _ _ a0 _ v) (hv hs) ?_
 refine ne hs q ?_
 clear q
 refine AA (fun e st=>∃ (i:Int),Ck e st B Rw L [(1,true,.box B.length 0),(3,true,Am i)] [a0.cs] [] (I6 rec n a0 i=some r)) ?_ ?_
 ·intro K6 u
  refine rg [1,3,11,12,13] hs ?_
  apply Au
  refine AC (fun m e st=>∃ (j:Int) (d:Int),Ck e st B Rw L [(1,true,.box B.length 0),(3,true,Am j),(11,true,.list (a0.elem.map KF) .none),(12,true,Am (a0.elem.length:Int)),(13,true,Am d)] [a0.cs] [] (Dp rec n a0 m j d=some r)) n ⟨w,0,([]),Rw,ef hs,ef hs,k,h⟩ ?_
  rintro ml8 e st ⟨j,d,Xl8,Rl8,rfl,rfl,k,h⟩ Ul8 Vl8
  cases ml8 with
  | zero=>cases h
  | succ ml8 =>
  rw [Dp] at h
  exact go (tg (a:=([1,3,11,12,13,14],([1,3,11,12,13],[1,3,5,11,12,13],[1,3,11,12,13],[1,3,11,12,13],()),[1,3],()))) h hs t l o c k (q1 ih) (q2 u (fun e s=>Vl8 ml8 e s (Nat.lt_succ_self _)))
 ·clear h;rintro e st ⟨i,Xk5,Rk5,rfl,rfl,k,h⟩
  rw [I6] at h
  refine td t l o c k ?_
  refine AA (fun e st=>∃ (g:Int),Ck e st B Rw L [(3,true,Am g)] [a0.cs] [] (IJ rec n g=some r)) ?_ ?_
  ·intro K19 p
   refine rg [3,23,24,25] hs ?_
   apply Au
   refine AC (fun m e st=>∃ (f:Int) (b:Int),Ck e st B Rw L [(3,true,Am f),(23,true,.list (a0.fields.map CW) .none),(24,true,Am (a0.fields.length:Int)),(25,true,Am b)] [a0.cs] [] (CY rec n a0 m f b=some r)) n ⟨i,0,([]),Rk5,ef hs,ef hs,k,h⟩ ?_
   rintro ml21 e st ⟨f,b,Xl21,Rl21,rfl,rfl,k,h⟩ Ul21 Vl21
   cases ml21 with
   | zero=>cases h
   | succ ml21 =>
   rw [CY] at h
   exact go (tg (a:=([3,23,24,25,26],([3,23,24,25],[3,7,23,24,25],[3,23,24,25],[3,23,24,25],()),[3],()))) h hs t l o c k (q1 ih) (q2 p (fun e s=>Vl21 ml21 e s (Nat.lt_succ_self _)))
  ·clear h;rintro e st ⟨g,Xk18,Rk18,rfl,rfl,k,h⟩
   rw [IJ] at h
   refine td t l o c k ?_
   refine rg [2] hs ?_
   exact rt h hs c k
theorem MR (w0:World):∀ n:Nat,JM w0 (C9 n)
 | 0=>fun _ _ _ _ _ h=>(nomatch h)
 | n+1=>P7 w0 (C9 n) (MR w0 n) n
def JO (n:Nat) (h:Ty):Option Int :=
 (JL n h 1 4096).bind fun g =>
 if !(decide (g.1=0)) then
  some (g.1)
 else
  (C9 n h).bind fun b =>
  if decide (4096<b) then
   some (9)
  else
   some (0)
theorem Qz (w0:World) (hT:Lib.Utf8Tabs 2 3 w0) (n:Nat) (B:As) (Rw:Ax) (L:Aw) (a0:Ty) (r:Int) (h:JO n a0=some r) :
  ACalls Tryz.prog w0 29 [.agg (a0.cs)] ⟨B,Rw,L⟩ fun x st=>x=Am r∧st=⟨B,Rw,L⟩:=by
 rw [JO] at h
 refine hd [.tmp 2] Tryz.func29 Tryz.ntmps29 fun M0 W0 i g c b l j hs=>?_
 simp only [AB]
 refine rg [1] hs ?_
 refine rg [1,3] hs ?_
 apply Ap;intro K3 f
 obtain ⟨k,e,h⟩:=bind_some h
 refine rc 2 [1,4] hs ?_;intro K4 d
 refine Ey _ (U1 w0 hT n _ _ _ a0 1 (B.length+1) 4096 ev _ e) (hv hs) ?_;rintro _ _ ⟨rfl,rfl⟩
 exact go (tg (a:=([1,4,8],([2],()),[1],[12],([2],()),[],[2],()))) h hs i g c b j (q1 (MR w0 n)) (q2 d f)
def ZaQ (x:ByteArray):Int:=UD (Vl.mk 4 0 0 x [] [])
def ZaT:Option ByteArray→List ByteArray→Int
 | _,[]=>0
 | none,x::r=>if ZaQ x=0 then ZaT (some x) r else ZaQ x
 | some p,x::r=>if ZaQ x=0 then (if G5 x p=true then 7 else if sLt x p=true then 24 else ZaT (some x) r) else ZaQ x
def ZaL (l:List ByteArray):Nat→Option ByteArray
 | 0=>none
 | i+1=>l[i]?
theorem Zhk (x:ByteArray) (h:x.size≤1048576):(Vl.mk 4 0 0 x [] []).ok∧(Vl.mk 4 0 0 x [] []).size=1:=⟨by simp [Vl.ok,ZcF,Zcn,h],by simp [Vl.size,Bm,E3]⟩
theorem ZkP (n:Nat) (hn:4≤n) (x:ByteArray) (h:x.size≤1048576):HZ n (NA x)=some (ZaQ x):=by
 obtain ⟨b,a⟩:=Zhk x h
 have e:NA x=Vl.mk 4 0 0 x [] []:=rfl
 rw [e]
 exact WH n _ (by rw [a];omega) (by rw [a];omega) b
theorem Ze1 (n:Nat) (hn:4≤n) (t:Ty) (hl:t.words.length≤1000000000) (hz:∀ x∈t.words,x.size≤1048576):∀ (k m i:Nat),i+k=t.words.length→k<m→Gm n t m i=some (ZaT (ZaL t.words i) (t.words.drop i))
 | k,0,i,_,h=>absurd h (Nat.not_lt_zero _)
 | 0,m+1,i,hi,_=>by
  rw [Gm,AH,Ac]
  simp only [Bool.false_eq_true,if_false,MU]
  rw [List.drop_eq_nil_of_le (by omega)]
  cases ZaL t.words i<;>rfl
 | k+1,m+1,i,hi,hm=>by
  have a:i<t.words.length:=by omega
  have ih:=Ze1 n hn t hl hz k m (i+1) (by omega) (by omega)
  rw [Gm,AH,Ah a]
  simp only [if_true,AK a,Af]
  rw [ZkP n hn _ (hz _ (List.getElem_mem a)),List.drop_eq_getElem_cons a]
  simp only [Af]
  have e:ZaL t.words (i+1)=some t.words[i]:=by simp only [ZaL,List.getElem?_eq_getElem a]
  rw [e] at ih
  cases i with
  | zero =>
   simp only [ZaL,ZaT]
   by_cases hb:ZaQ t.words[0]=0
   ·rw [Ai hb,Ah hb]
    simp only [Bool.not_true,Bool.false_eq_true,if_false]
    rw [Aj (by decide),Ai (AG (by omega))]
    exact ih
   ·rw [Aj hb,Ag hb];rfl
  | succ j =>
   have b:j<t.words.length:=by omega
   have d:ZaL t.words (j+1)=some t.words[j]:=by simp only [ZaL,List.getElem?_eq_getElem b]
   rw [d]
   simp only [ZaT]
   by_cases hb:ZaQ t.words[j+1]=0
   ·rw [Ai hb,Ah hb]
    simp only [Bool.not_true,Bool.false_eq_true,if_false,Zbv,if_true,ZW]
    have c:Bj (j:Int):=ZbK (by omega)
    simp only [Ai c,AK b,Af]
    by_cases h1:G5 t.words[j+1] t.words[j]=true
    ·rw [Ai h1,Ai h1]
    ·rw [Aj h1,Aj h1]
     by_cases h2:sLt t.words[j+1] t.words[j]=true
     ·rw [Ai h2,Ai h2]
     ·rw [Aj h2,Aj h2,Ai (AG (by omega))]
      exact ih
   ·rw [Aj hb,Ag hb];rfl
def Pg (t:Ty):Int:=if t.min≠0∨t.max≠0 then 3 else if 64<t.words.length then 9 else ZaT none t.words
theorem Zch (n:Nat) (hn:4≤n) (t:Ty) (hw:t.words.length<n) (hl:t.words.length≤1000000000) (hz:∀ x∈t.words,x.size≤1048576):Nz n t=some (Pg t):=by
 have e:=Ze1 n hn t hl hz t.words.length n 0 (by omega) hw
 rw [List.drop_zero] at e
 rw [Nz,Pg]
 by_cases h:t.min≠0∨t.max≠0
 ·rw [Ai h,Ai (by simpa using h)]
 ·rw [Aj h,Aj (by simpa using h)]
  by_cases h2:64<t.words.length
  ·rw [Ai h2,Ai (Ah (by omega))]
  ·rw [Aj h2,Aj (by rw [decide_eq_true_eq];omega)]
   exact e
theorem Zx (n:Nat) (l:List TF) (p:TF→Bool) (hl:l.length≤1000000000) (hn:l.length<n):A2 n l (fun x=>some (p x))=some (l.any p):=by
 have e:=SN n l p hl l.length n 0 (by omega) hn
 have a:Bz n l (fun x=>some (p x))=some (OB p l 0):=e
 rw [A2,a,Af]
 congr 1
 have := @List.findIdx_lt_length _ p l
 unfold OB
 rw [List.drop_zero]
 by_cases h:l.findIdx p<l.length
 ·rw [Ai h,Ad,List.any_eq_true.2 (this.1 h)]
 ·rw [Aj h,Ac]
  exact (Bool.eq_false_iff.2 fun q=>h (this.2 (List.any_eq_true.1 q))).symm
def Oy (k:Int) (b:List TF) (x:TF):Int :=
 if FO x.2.1=true then
  if ¬ (1≤x.1∧x.1≤9999) then 2
  else if (b.any fun q=>Ff q x)=true then 7
  else if ¬ (1≤x.2.2.1∧x.2.2.1≤3)∨(k=10∧x.2.2.1≠1) then 11
  else if x.2.2.1=3∧x.2.2.2.2.length=0 then 4
  else if 1<x.2.2.2.2.length∨(x.2.2.1≠3∧0<x.2.2.2.2.length) then 3
  else 0
 else 12
def KJ (k:Int):List TF→List TF→Int
 | _,[]=>0
 | b,x::r=>if Oy k b x=0 then KJ k (b++[x]) r else Oy k b x
theorem XF {α:Type} (l:List α) (i:Nat) (h:i<l.length):l.take i++[l[i]]=l.take (i+1):=by rw [List.take_succ_eq_append_getElem h]
theorem Zcp (n:Nat) (t:Ty) (i:Nat) (h:i<t.fields.length) (hl:t.fields.length≤1000000000) (hn:t.fields.length<n) (hz:∀ p∈t.fields,p.2.1.size≤1048576):Ns n t i=some (Oy t.kind (t.fields.take i) t.fields[i]):=by
 rw [Ns,AK h]
 simp only [Af]
 rw [Ai (Zax (by have:=hz _ (List.getElem_mem h);omega)),Oy,Int.toNat_natCast,Zx n _ _ (by rw [List.length_take];omega) (by rw [List.length_take];omega)]
 simp only [Af]
 by_cases h1:FO t.fields[i].2.1=true
 rotate_left
 ·rw [Aj h1,Bool.eq_false_iff.2 h1];rfl
 rw [Ai h1,h1]
 simp only [Bool.not_true,Bool.false_eq_true,if_false]
 by_cases h2:1≤t.fields[i].1∧t.fields[i].1≤9999
 rotate_left
 ·rw [Ai (show (!(decide (1≤t.fields[i].1)&&decide (t.fields[i].1≤9999)))=true by simp;omega),Ai h2]
 rw [Aj (show ¬ (!(decide (1≤t.fields[i].1)&&decide (t.fields[i].1≤9999)))=true by simp;omega),Aj (fun q:¬ _=>q h2),Ab]
 by_cases h3:((t.fields.take i).any fun q=>Ff q t.fields[i])=true
 ·rw [Ai h3,Ai h3]
 rw [Aj h3,Aj h3]
 by_cases h4:¬ (1≤t.fields[i].2.2.1∧t.fields[i].2.2.1≤3)∨(t.kind=10∧t.fields[i].2.2.1≠1)
 ·rw [Ai h4,Ai (by simp;omega)]
 rw [Aj h4,Aj (by simp;omega)]
 by_cases h5:t.fields[i].2.2.1=3∧t.fields[i].2.2.2.2.length=0
 ·rw [Ai h5,Ai (by simp;exact ⟨h5.1,List.length_eq_zero_iff.1 h5.2⟩)]
 rw [Aj h5,Aj (by simp;intro a b;exact h5 ⟨a,by rw [b];rfl⟩)]
 by_cases h6:1<t.fields[i].2.2.2.2.length∨(t.fields[i].2.2.1≠3∧0<t.fields[i].2.2.2.2.length)
 ·rw [Ai h6,Ai (by simp only [Bool.or_eq_true,Bool.and_eq_true,decide_eq_true_eq,Bool.not_eq_true',decide_eq_false_iff_not];omega)]
 ·rw [Aj h6,Aj (by simp only [Bool.or_eq_true,Bool.and_eq_true,decide_eq_true_eq,Bool.not_eq_true',decide_eq_false_iff_not];omega)]
theorem Z6 (n:Nat) (t:Ty) (hl:t.fields.length≤1000000000) (hn:t.fields.length<n) (hz:∀ p∈t.fields,p.2.1.size≤1048576):∀ (k m i:Nat),i+k=t.fields.length→k<m→IR n t m i=some (KJ t.kind (t.fields.take i) (t.fields.drop i))
 | k,0,i,_,h=>absurd h (Nat.not_lt_zero _)
 | 0,m+1,i,hi,_=>by
  rw [IR,AH,Ac]
  rw [List.drop_eq_nil_of_le (by omega)];rfl
 | k+1,m+1,i,hi,hm=>by
  have a:i<t.fields.length:=by omega
  rw [IR,AH,Ah a,Zcp n t i a hl hn hz,List.drop_eq_getElem_cons a,KJ]
  simp only [if_true,Af]
  by_cases h:Oy t.kind (t.fields.take i) t.fields[i]=0
  ·rw [Ah h,Ai h]
   simp only [Bool.not_true,Bool.false_eq_true,if_false]
   rw [Ai (AG (by omega)),XF _ _ a]
   exact Z6 n t hl hn hz k m (i+1) (by omega) (by omega)
  ·rw [Ag h,Aj h];rfl
def Ry (t:Ty):Int :=
 if t.kind<1∨10<t.kind then 11
 else if BE t=true then 3
 else if t.kind=4∧0<t.words.length then Pg t
 else if ((2≤t.kind∧t.kind≤8)∧CE t (A5 t.kind).1 (A5 t.kind).2=false)∨¬ (0≤t.scale∧t.scale≤12) then 2
 else if (t.kind=8∧t.elem.length=0)∨(t.kind=10∧t.fields.length=0) then 4
 else if 1<t.elem.length then 3
 else if 64<t.fields.length then 9
 else KJ t.kind [] t.fields
def Ty.fit (t:Ty) (n:Nat):Prop:=4≤n∧t.words.length<n∧t.fields.length<n∧t.words.length≤1000000000∧t.fields.length≤1000000000∧t.elem.length≤1000000000∧(∀ x∈t.words,x.size≤1048576)∧∀ p∈t.fields,p.2.1.size≤1048576
def V0 (k:Int):Lim:=(IZ[k.toNat]?).getD (Lim.mk ⟨#[]⟩ 0 0 false false false false false)
theorem ZhA (k:Int) (h:¬ (k<1∨10<k)):B6 IZ k=some (V0 k):=by
 rcases IQ h with hk | hk | hk | hk | hk | hk | hk | hk | hk | hk<;>subst hk<;>rfl
theorem Zg7 (t:Ty) (h:¬ (t.kind<1∨10<t.kind)):LC t (V0 t.kind)=if BE t=true then 3 else 0:=by
 have a:∀ x:Nat,decide (0<(x:Int)) = !decide ((x:Int)=0):=fun x=>by
  by_cases h:x=0
  ·subst h;rfl
  ·rw [Ah (show 0<(x:Int) by omega),Ag (show ¬ (x:Int)=0 by omega)];rfl
 have b:decide (t.min=0)=true∨decide (t.min=0)=false:=by cases decide (t.min=0)<;>simp
 rw [LC,BE]
 simp only [a,IW]
 generalize decide (t.min=0)=b1
 generalize decide (t.max=0)=b2
 generalize decide (t.scale=0)=b3
 generalize decide ((t.words.length:Int)=0)=b4
 generalize decide ((t.elem.length:Int)=0)=b5
 generalize decide ((t.fields.length:Int)=0)=b6
 clear b a
 rcases IQ h with hk | hk | hk | hk | hk | hk | hk | hk | hk | hk<;>simp only [hk]<;>cases b1<;>cases b2<;>cases b3<;>cases b4<;>cases b5<;>cases b6<;>rfl
theorem Zhp (n:Nat) (t:Ty) (h:t.fit n):Re n t=some (Ry t):=by
 obtain ⟨v,D,l,s,C,F,o,E⟩:=h
 have y:=Zch n v t D s o
 have k:=Z6 n t C l E t.fields.length n 0 (by omega) l
 rw [List.drop_zero,List.take_zero] at k
 have f:IR n t n 0=some (KJ t.kind [] t.fields):=k
 have p:I1 n t false=some (if 1<t.elem.length∧t.kind=8 then 3 else if 64<t.fields.length then 9 else KJ t.kind [] t.fields):=by
  rw [I1,Aj (by decide)]
  by_cases q:1<t.elem.length∧t.kind=8
  ·rw [Ai q,Ai (by simp only [Bool.and_eq_true,decide_eq_true_eq];omega)]
  ·rw [Aj q,Aj (by simp only [Bool.and_eq_true,decide_eq_true_eq];omega)]
   by_cases q2:64<t.fields.length
   ·rw [Ai q2,Ai (Ah (by omega))]
   ·rw [Aj q2,Aj (by rw [decide_eq_true_eq];omega),f]
 have m:I1 n t true=some 4:=by rw [I1,Ai rfl]
 have j:¬ BE t=true→Lo n t=some (if (t.kind=8∧t.elem.length=0)∨(t.kind=10∧t.fields.length=0) then 4 else if 1<t.elem.length then 3 else if 64<t.fields.length then 9 else KJ t.kind [] t.fields):=fun x=>by
  have w:1<t.elem.length→t.kind=8:=fun q=>by
   by_cases k8:t.kind=8
   ·exact k8
   ·exfalso;apply x;rw [BE,Ag k8,Ah (show 0<(t.elem.length:Int) by omega)];simp
  rw [Lo]
  by_cases q1:t.kind=8∧t.elem.length=0
  ·rw [Ai (by simp only [Bool.and_eq_true,decide_eq_true_eq];omega),m,Ai (.inl q1)]
  rw [Aj (by simp only [Bool.and_eq_true,decide_eq_true_eq];omega)]
  by_cases q2:t.kind=10∧t.fields.length=0
  ·rw [Ah q2.1,Ah (show (t.fields.length:Int)=0 by omega),show (true&&true)=true from rfl,m,Ai (.inr q2)]
  ·have e:(decide (t.kind=10)&&decide ((t.fields.length:Int)=0))=false:=by
    rw [Bool.eq_false_iff];simp only [ne_eq,Bool.and_eq_true,decide_eq_true_eq];omega
   rw [e,p,Aj (show ¬ ((t.kind=8∧t.elem.length=0)∨(t.kind=10∧t.fields.length=0)) by omega)]
   by_cases q3:1<t.elem.length
   ·rw [Ai ⟨q3,w q3⟩,Ai q3]
   ·rw [Aj (fun q=>q3 q.1),Aj q3]
 rw [Re,Ry]
 by_cases q1:t.kind<1∨10<t.kind
 ·rw [Ai q1,Ai (by simp;omega)]
 rw [Aj q1,Aj (by simp;omega),ZhA _ q1]
 simp only [Af]
 rw [Zg7 t q1]
 by_cases q2:BE t=true
 ·rw [Ai q2,Ai q2];rfl
 rw [Aj q2,Aj q2,Aj (by decide)]
 have d:=j q2
 by_cases q3:t.kind=4∧0<t.words.length
 ·rw [Ai q3,Ai (by simp only [Bool.and_eq_true,decide_eq_true_eq];omega),y]
  simp only [Af]
  by_cases z:Pg t=0
  ·rw [Ah z,z,Aj (by decide),d]
   have G:t.elem.length=0:=by
    rcases Nat.eq_zero_or_pos t.elem.length with e | e
    ·exact e
    ·exfalso;apply q2;rw [BE,Ag (show ¬ t.kind=8 by omega),Ah (show 0<(t.elem.length:Int) by omega)];simp
   have u:t.fields.length=0:=by
    rcases Nat.eq_zero_or_pos t.fields.length with e | e
    ·exact e
    ·exfalso;apply q2;rw [BE,Ag (show ¬ t.kind=9 by omega),Ag (show ¬ t.kind=10 by omega),Ah (show 0<(t.fields.length:Int) by omega)];simp
   rw [Aa,Aa,Aa,List.length_eq_zero_iff.1 u];rfl
  ·rw [Ag z];rfl
 rw [Aj q3,Aj (by simp only [Bool.and_eq_true,decide_eq_true_eq];omega)]
 have i:t.kind≠3→t.scale=0:=fun c=>by
  by_cases z:t.scale=0
  ·exact z
  ·exfalso;apply q2;rw [BE,Ag c,Ag z];simp
 have r:((V0 t.kind).bounds&&(((decide (t.max<t.min))||(decide (t.min<(V0 t.kind).low)))||(decide ((V0 t.kind).high<t.max))))=((decide (2≤t.kind∧t.kind≤8)) && !(CE t (A5 t.kind).1 (A5 t.kind).2)):=by
  have g1:∀ a b:Int,decide (a<b) = !decide (b≤a):=fun a b=>by
   by_cases q:a<b
   ·rw [Ah q,Ac];rfl
   ·rw [Ag q,Ad];rfl
  simp only [g1,CE]
  rcases IQ q1 with hk | hk | hk | hk | hk | hk | hk | hk | hk | hk<;>simp only [hk] <;>
   simp [V0,IZ,A5,Og,MY,Bool.or_comm,Bool.or_left_comm,Bool.or_assoc]
 have hs:(V0 t.kind).scale=decide (t.kind=3):=by
  rcases IQ q1 with hk | hk | hk | hk | hk | hk | hk | hk | hk | hk<;>simp only [hk]<;>rfl
 rw [r,hs]
 by_cases q4:(2≤t.kind∧t.kind≤8)∧CE t (A5 t.kind).1 (A5 t.kind).2=false
 ·rw [Ah q4.1,Ai (Or.inl q4),q4.2];rfl
 have g:(decide (2≤t.kind∧t.kind≤8) && !(CE t (A5 t.kind).1 (A5 t.kind).2))=false:=by
  rw [Bool.eq_false_iff];simp only [ne_eq,Bool.and_eq_true,decide_eq_true_eq,Bool.not_eq_true'];exact q4
 rw [g,Aj (by decide)]
 by_cases q5:¬ (0≤t.scale∧t.scale≤12)
 ·have c:t.kind=3:=by
   by_cases c:t.kind=3
   ·exact c
   ·exact absurd (i c) (by omega)
  have e:(decide (t.kind=3) && !(decide (0≤t.scale)&&decide (t.scale≤12)))=true:=by simp [c];omega
  rw [Ai (Or.inr q5),e];rfl
 ·have e:(decide (t.kind=3) && !(decide (0≤t.scale)&&decide (t.scale≤12)))=false:=by
   rw [Bool.eq_false_iff];simp;omega
  rw [Aj (fun q:_∨_=>q.elim q4 q5),e,Nw,Aj (by decide),d]
inductive Ty.Good:Ty→Prop
 | mk (t:Ty) (h:Ry t=0) (he:∀ x∈t.elem,Ty.Good x) (hf:∀ p∈t.fields,Ty.Good p.2.2.2.1):Ty.Good t
inductive Vl.Good:Vl→Prop
 | mk (v:Vl) (h:GR v=0) (hp:∀ x∈Cb v,Vl.Good x):Vl.Good v
theorem YM:∀ (l:List (Nat × Vl)) (c:Int),Xm l c=0→∀ p∈l,GR p.2=0
 | [],_,_,p,hp=>by simp at hp
 | q::r,c,h,p,hp=>by
  rw [Xm] at h
  split at h
  ·cases h
  ·split at h
   ·cases h
   ·split at h
    ·rename_i h0
     rcases List.mem_cons.1 hp with rfl | hp
     ·exact h0
     ·exact YM r (c+1) h p hp
    ·rename_i h0;exact absurd h h0
theorem Ta:∀ (k:Nat) (v:Vl) (lv:Nat),v.size≤k→(∀ p∈Hg lv v,GR p.2=0)→v.Good
 | 0,v,lv,h,_=>absurd h (by have:=v.size_eq;omega)
 | k+1,v,lv,h,hp=>by
  rw [Rb] at hp
  refine .mk v (hp (lv,v) (List.mem_cons_self ..)) fun x a=>?_
  have:=NX a
  exact Ta k x (lv+1) (by omega) fun p b=>hp p (List.mem_cons_of_mem _ (List.mem_flatMap.2 ⟨x,a,b⟩))
theorem YJ {v:Vl} (h:UD v=0):v.Good:=Ta v.size v 1 (Nat.le_refl _) (YM _ _ h)
theorem Wx {v:Vl} (h:GR v=0):¬ (v.kind<1∨10<v.kind)∧¬ EG v=true:=by
 rw [GR] at h
 by_cases h1:Gy v=true
 ·rw [Ai h1] at h;exact absurd h (by decide)
 rw [Aj h1] at h
 by_cases h2:v.kind<1∨10<v.kind
 ·rw [Ai h2] at h;exact absurd h (by decide)
 rw [Aj h2] at h
 by_cases h3:EG v=true
 ·rw [Ai h3] at h;exact absurd h (by decide)
 exact ⟨h2,h3⟩
theorem Sz {t:Ty} (h:Ry t=0):¬ (t.kind<1∨10<t.kind)∧¬ BE t=true∧¬ ((t.kind=8∧t.elem.length=0)∨(t.kind=10∧t.fields.length=0)):=by
 rw [Ry] at h
 by_cases h1:t.kind<1∨10<t.kind
 ·rw [Ai h1] at h;exact absurd h (by decide)
 rw [Aj h1] at h
 by_cases h2:BE t=true
 ·rw [Ai h2] at h;exact absurd h (by decide)
 rw [Aj h2] at h
 refine ⟨h1,h2,?_⟩
 by_cases h3:t.kind=4∧0<t.words.length
 ·omega
 rw [Aj h3] at h
 by_cases h4:((2≤t.kind∧t.kind≤8)∧CE t (A5 t.kind).1 (A5 t.kind).2=false)∨¬ (0≤t.scale∧t.scale≤12)
 ·rw [Ai h4] at h;exact absurd h (by decide)
 rw [Aj h4] at h
 by_cases h5:(t.kind=8∧t.elem.length=0)∨(t.kind=10∧t.fields.length=0)
 ·rw [Ai h5] at h;exact absurd h (by decide)
 exact h5
theorem Ty.scale0 {t:Ty} (h:¬ BE t=true) (k:t.kind≠3):t.scale=0:=by
 by_cases z:t.scale=0
 ·exact z
 ·exfalso;apply h;rw [BE,Ag k,Ag z];simp
theorem Vl.scale0 {v:Vl} (h:¬ EG v=true) (k:v.kind≠3):v.scale=0:=by
 by_cases z:v.scale=0
 ·exact z
 ·exfalso;apply h;rw [EG,Ag k,Ag z];simp
theorem MN {α:Type} (p:α→Bool) (l:List α):decide (0≤OB p l 0)=l.any p:=by
 have := @List.findIdx_lt_length _ p l
 unfold OB
 rw [List.drop_zero]
 by_cases h:l.findIdx p<l.length
 ·rw [Ai h,Ad,List.any_eq_true.2 (this.1 h)]
 ·rw [Aj h,Ac]
  exact (Bool.eq_false_iff.2 fun q=>h (this.2 (List.any_eq_true.1 q))).symm
theorem Zg9 {α:Type} (p:α→Bool) (l:List α):decide (OB p l 0<0) = !l.any p:=by
 rw [←MN]
 by_cases h:0≤OB p l 0
 ·rw [Ah h,Ac];rfl
 ·rw [Ag h,Ad];rfl
theorem Zfv (n:Nat) (l:List (Vl)) (f:Vl→Option Bool) (p:Vl→Bool) (hf:∀ x∈l,f x=some (p x)) (hl:l.length≤1000000000):∀ (k m i:Nat),i+k=l.length→k<m→BS n l f m i=some (OB p l i)
 | k,0,i,_,h=>absurd h (Nat.not_lt_zero _)
 | 0,m+1,i,hi,_=>by
  rw [BS,AH,Ac,I9 p l i (by omega)]
  rfl
 | k+1,m+1,i,hi,hm=>by
  have a:i<l.length:=by omega
  rw [BS,AH,Ah a,HA p l i a]
  simp only [if_true,AK a,Af,hf _ (List.getElem_mem a)]
  by_cases h:p l[i]=true
  ·rw [Ai h,Ai h]
  ·rw [Aj h,Aj h,Ai (AG (by omega))]
   exact Zfv n l f p hf hl k m (i+1) (by omega) (by omega)
theorem ZaR (n:Nat) (l:List (ByteArray × Vl)) (f:ByteArray × Vl→Option Bool) (p:ByteArray × Vl→Bool) (hf:∀ x∈l,f x=some (p x)) (hl:l.length≤1000000000):∀ (k m i:Nat),i+k=l.length→k<m→BU n l f m i=some (OB p l i)
 | k,0,i,_,h=>absurd h (Nat.not_lt_zero _)
 | 0,m+1,i,hi,_=>by
  rw [BU,AH,Ac,I9 p l i (by omega)]
  rfl
 | k+1,m+1,i,hi,hm=>by
  have a:i<l.length:=by omega
  rw [BU,AH,Ah a,HA p l i a]
  simp only [if_true,AK a,Af,hf _ (List.getElem_mem a)]
  by_cases h:p l[i]=true
  ·rw [Ai h,Ai h]
  ·rw [Aj h,Aj h,Ai (AG (by omega))]
   exact ZaR n l f p hf hl k m (i+1) (by omega) (by omega)
theorem Zem (n:Nat) (l:List (TF)) (f:TF→Option Bool) (p:TF→Bool) (hf:∀ x∈l,f x=some (p x)) (hl:l.length≤1000000000):∀ (k m i:Nat),i+k=l.length→k<m→A0 n l f m i=some (OB p l i)
 | k,0,i,_,h=>absurd h (Nat.not_lt_zero _)
 | 0,m+1,i,hi,_=>by
  rw [A0,AH,Ac,I9 p l i (by omega)]
  rfl
 | k+1,m+1,i,hi,hm=>by
  have a:i<l.length:=by omega
  rw [A0,AH,Ah a,HA p l i a]
  simp only [if_true,AK a,Af,hf _ (List.getElem_mem a)]
  by_cases h:p l[i]=true
  ·rw [Ai h,Ai h]
  ·rw [Aj h,Aj h,Ai (AG (by omega))]
   exact Zem n l f p hf hl k m (i+1) (by omega) (by omega)
theorem Zeh (n:Nat) (l:List ByteArray) (w:ByteArray) (hl:(l).length≤1000000000):∀ (k m i:Nat),i+k=(l).length→k<m→CX n l w m i=some (OB (fun x=>G5 w x) (l) i)
 | k,0,i,_,h=>absurd h (Nat.not_lt_zero _)
 | 0,m+1,i,hi,_=>by
  rw [CX,AH,Ac,I9 _ (l) i (by omega)]
  rfl
 | k+1,m+1,i,hi,hm=>by
  have a:i<(l).length:=by omega
  rw [CX,AH,Ah a,HA _ (l) i a]
  simp only [if_true,AK a,Af]
  by_cases h:(fun x=>G5 w x) (l)[i]=true
  ·rw [Ai h,Ai h]
  ·rw [Aj h,Aj h,Ai (AG (by omega))]
   exact Zeh n l w hl k m (i+1) (by omega) (by omega)
theorem X2 (n:Nat) (l:List ByteArray) (w:ByteArray) (hl:l.length≤1000000000) (hn:l.length<n):D3 n l w=some (l.any fun x=>G5 w x):=by
 have e:Ha n l w=some (OB (fun x=>G5 w x) l 0):=Zeh n l w hl l.length n 0 (by omega) hn
 rw [D3,e,Af,MN]
theorem XI (n:Nat) (l:List Vl) (f:Vl→Option Bool) (p:Vl→Bool) (hf:∀ x∈l,f x=some (p x)) (hl:l.length≤1000000000) (hn:l.length<n):C7 n l f=some (l.any p):=by
 have e:Fg n l f=some (OB p l 0):=Zfv n l f p hf hl l.length n 0 (by omega) hn
 rw [C7,e,Af,MN]
theorem Q1 (n:Nat) (l:List TF) (f:TF→Option Bool) (p:TF→Bool) (hf:∀ x∈l,f x=some (p x)) (hl:l.length≤1000000000) (hn:l.length<n):A2 n l f=some (l.any p):=by
 have e:Bz n l f=some (OB p l 0):=Zem n l f p hf hl l.length n 0 (by omega) hn
 rw [A2,e,Af,MN]
def Zd8 (v:Vl) (w:ByteArray):Bool:=v.fields.any fun x=>G5 x.1 w
theorem ZcJ (n:Nat) (v:Vl) (w:ByteArray) (hk:v.kind=9) (hs:v.size≤1000000000) (hn:v.size<n):∃ u,Nj n v w=some (u,Zd8 v w):=by
 have a:=Ni v
 have e:C6 n v.fields (fun x=>some (I5 x w))=some (OB (fun x:ByteArray × Vl=>G5 x.1 w) v.fields 0):=ZaR n v.fields _ _ (fun x _=>rfl) (by omega) v.fields.length n 0 (by omega) (by omega)
 rw [Nj,P0,e]
 simp only [Af]
 rw [Ah hk,Zg9]
 cases h:Zd8 v w with
 | false =>
  unfold Zd8 at h
  rw [h]
  exact ⟨_,rfl⟩
 | true =>
  unfold Zd8 at h
  rw [h]
  simp only [Bool.not_true,Bool.or_self,Bool.false_eq_true,if_false]
  rcases PY (fun x:ByteArray × Vl=>G5 x.1 w) v.fields v.fields.length 0 (by omega) with q | ⟨i,hi,q,_⟩
  ·have:=MN (fun x:ByteArray × Vl=>G5 x.1 w) v.fields
   rw [q,h] at this
   cases this
  ·rw [q,AK hi]
   simp only [Af]
   have:=v.field_size _ (List.getElem_mem hi)
   rw [Nx n _ (by omega) (by omega)]
   exact ⟨_,rfl⟩
theorem ZcR (a b:ByteArray):G5 a b=G5 b a:=by rw [Bool.eq_iff_iff,Um,Um];exact eq_comm
def ZI (t:Ty) (k:Nat):Bool:=decide (t.min≤(k:Int))&&decide ((k:Int)≤t.max)
def ZeG (v:Vl) (x:TF):Bool:=(!Zd8 v x.2.1)&&(!(decide (x.2.2.1=2)))
theorem Ty.small_elem {t x:Ty} (h:t.small) (hx:x∈t.elem):x.small:=by
 obtain ⟨g,f,e⟩:=h
 have a:=t.elem_size x hx
 have b:=t.depth_eq
 have c:=(LO t.elem (Ji t.elem)).1 (Nat.le_refl _) x hx
 have d:Ji t.elem≤Max.max (Ji t.elem) (Hr t.fields):=Nat.le_max_left _ _
 exact ⟨by omega,by omega,(t.ok_eq.1 e).2.2.1 x hx⟩
theorem Ty.small_field {t:Ty} {p:TF} (h:t.small) (hx:p∈t.fields):p.2.2.2.1.small:=by
 obtain ⟨g,f,e⟩:=h
 have a:=t.field_size p hx
 have b:=t.depth_eq
 have c:=(J4 t.fields (Hr t.fields)).1 (Nat.le_refl _) p hx
 have d:Hr t.fields≤Max.max (Ji t.elem) (Hr t.fields):=Nat.le_max_right _ _
 exact ⟨by omega,by omega,((t.ok_eq.1 e).2.2.2 p hx).2.1⟩
theorem PL {t x:Ty} (h:t.Good) (hx:x∈t.elem):x.Good:=by cases h with | mk _ a b c=>exact b x hx
theorem Hk {t:Ty} {p:TF} (h:t.Good) (hx:p∈t.fields):p.2.2.2.1.Good:=by cases h with | mk _ a b c=>exact c p hx
theorem VS {t:Ty} (h:t.Good):Ry t=0:=by cases h with | mk _ a b c=>exact a
theorem SQ {v:Vl} (h:v.Good):GR v=0:=by cases h with | mk _ a b=>exact a
theorem QM {v x:Vl} (h:v.Good) (hx:x∈Cb v):x.Good:=by cases h with | mk _ a b=>exact b x hx
def UY (k:Int) (x:TF):Prop:=(1≤x.2.2.1∧x.2.2.1≤3)∧(k=10→x.2.2.1=1)∧(x.2.2.1=3→x.2.2.2.2.length=1)∧(x.2.2.1≠3→x.2.2.2.2.length=0)
theorem Zaz {k:Int} {b:List TF} {x:TF} (h:Oy k b x=0):UY k x:=by
 rw [Oy] at h
 by_cases h1:FO x.2.1=true
 rotate_left
 ·rw [Aj h1] at h;exact absurd h (by decide)
 rw [Ai h1] at h
 by_cases h2:¬ (1≤x.1∧x.1≤9999)
 ·rw [Ai h2] at h;exact absurd h (by decide)
 rw [Aj h2] at h
 by_cases h3:(b.any fun q=>Ff q x)=true
 ·rw [Ai h3] at h;exact absurd h (by decide)
 rw [Aj h3] at h
 by_cases h4:¬ (1≤x.2.2.1∧x.2.2.1≤3)∨(k=10∧x.2.2.1≠1)
 ·rw [Ai h4] at h;exact absurd h (by decide)
 rw [Aj h4] at h
 by_cases h5:x.2.2.1=3∧x.2.2.2.2.length=0
 ·rw [Ai h5] at h;exact absurd h (by decide)
 rw [Aj h5] at h
 by_cases h6:1<x.2.2.2.2.length∨(x.2.2.1≠3∧0<x.2.2.2.2.length)
 ·rw [Ai h6] at h;exact absurd h (by decide)
 unfold UY
 omega
theorem Tf {k:Int}:∀ (l b:List TF),KJ k b l=0→∀ x∈l,UY k x
 | [],_,_,x,hx=>by simp at hx
 | y::r,b,h,x,hx=>by
  rw [KJ] at h
  by_cases q:Oy k b y=0
  ·rw [Ai q] at h
   rcases List.mem_cons.1 hx with rfl | hx
   ·exact Zaz q
   ·exact Tf r _ h x hx
  ·rw [Aj q] at h;exact absurd h q
theorem Zbd {t:Ty} (h:¬ BE t=true):(t.kind≠8→t.elem.length=0)∧(t.kind≠9→t.kind≠10→t.fields.length=0):=by
 refine ⟨fun k=>?_,fun a b=>?_⟩
 ·rcases Nat.eq_zero_or_pos t.elem.length with e | e
  ·exact e
  ·exfalso;apply h;rw [BE,Ag k,Ah (show 0<(t.elem.length:Int) by omega)];simp
 ·rcases Nat.eq_zero_or_pos t.fields.length with e | e
  ·exact e
  ·exfalso;apply h;rw [BE,Ag a,Ag b,Ah (show 0<(t.fields.length:Int) by omega)];simp
theorem U7 {t:Ty} (h:Ry t=0):¬ (t.kind<1∨10<t.kind)∧(t.kind≠8→t.elem.length=0)∧(t.kind=8→t.elem.length=1∧0≤t.min∧t.min≤256)∧(t.kind≠9→t.kind≠10→t.fields.length=0)∧(t.kind=10→0<t.fields.length)∧∀ x∈t.fields,UY t.kind x:=by
 obtain ⟨a,c,f⟩:=Sz h
 obtain ⟨n1,n2⟩:=Zbd c
 rw [Ry,Aj a,Aj c] at h
 by_cases h3:t.kind=4∧0<t.words.length
 ·have:=n2 (by omega) (by omega)
  have g:t.fields=[]:=List.length_eq_zero_iff.1 this
  exact ⟨a,n1,by omega,n2,by omega,by rw [g];simp⟩
 rw [Aj h3] at h
 by_cases h4:((2≤t.kind∧t.kind≤8)∧CE t (A5 t.kind).1 (A5 t.kind).2=false)∨¬ (0≤t.scale∧t.scale≤12)
 ·rw [Ai h4] at h;exact absurd h (by decide)
 rw [Aj h4,Aj f] at h
 by_cases h6:1<t.elem.length
 ·rw [Ai h6] at h;exact absurd h (by decide)
 rw [Aj h6] at h
 by_cases h7:64<t.fields.length
 ·rw [Ai h7] at h;exact absurd h (by decide)
 rw [Aj h7] at h
 refine ⟨a,n1,fun e=>?_,n2,by omega,Tf _ _ h⟩
 have b:CE t (A5 t.kind).1 (A5 t.kind).2=true:=by
  cases q:CE t (A5 t.kind).1 (A5 t.kind).2
  ·exact absurd (Or.inl ⟨by omega,q⟩) h4
  ·rfl
 have d:(A5 t.kind)=(0,256):=by rw [e];rfl
 rw [d,CE] at b
 simp only [Bool.and_eq_true,decide_eq_true_eq] at b
 omega
theorem Ty.fit_of {t:Ty} {n:Nat} (ht:t.small) (hn:t.size+2600000≤n):t.fit n:=by
 have g:=t.lens
 obtain ⟨f,_,d⟩:=ht
 obtain ⟨e,a,h,b⟩:=t.ok_eq.1 d
 exact ⟨by omega,by omega,by omega,by omega,by omega,by omega,a,fun p c=>(b p c).1⟩
theorem Qn:∀ (k:Nat) (v:Vl) (lv:Nat),v.size≤k→(Hg lv v).length≤v.size
 | 0,v,lv,h=>absurd h (by have:=v.size_eq;omega)
 | k+1,v,lv,h=>by
  have c:=ZcD v
  rw [Rb,List.length_cons,List.length_flatMap]
  have:((Cb v).map fun x=>(Hg (lv+1) x).length).sum≤((Cb v).map Vl.size).sum:=by
   have hall:∀ x∈Cb v,(Hg (lv+1) x).length≤x.size:=fun x b=>Qn k x (lv+1) (by have:=NX b;omega)
   clear c
   generalize Cb v=l at hall
   induction l with
   | nil=>simp
   | cons a r ih =>
    have:=hall a (List.mem_cons_self ..)
    have:=ih fun x b=>hall x (List.mem_cons_of_mem _ b)
    simp only [List.map_cons,List.sum_cons]
    omega
  omega
theorem Za:∀ (l:List (Nat × Vl)) (c:Int),0≤c→c+l.length≤1000000000→IX l c=some (c+l.length)
 | [],c,_,_=>by rw [IX];simp
 | p::r,c,h1,h2=>by
  rw [List.length_cons] at h2
  rw [IX,Ai (by unfold Bj;omega),Za r (c+1) (by omega) (by omega),List.length_cons]
  congr 1
  omega
theorem Zew (v:Vl) (hs:v.size≤1048576):OQ v=some ((Hg 1 v).length:Int):=by
 have:=Qn v.size v 1 (Nat.le_refl _)
 rw [OQ,Ai ⟨by have:=v.depth_size;omega,H7 _ v (Nat.le_refl _) (by omega)⟩,Za _ 0 (by omega) (by omega)]
 congr 1
 omega
theorem Vk {s:ByteArray} (h:FO s=true):s.size≤32:=by
 unfold FO Zbt at h
 simp only [Bool.and_eq_true,decide_eq_true_eq] at h
 have:s.size=s.data.toList.length:=by simp
 omega
theorem Zca (k:Int):∀ (l b:List TF),KJ k b l=0→∀ x∈l,∃ b',Oy k b' x=0
 | [],_,_,x,hx=>absurd hx (by simp)
 | y::r,b,h,x,hx=>by
  rw [KJ] at h
  by_cases q:Oy k b y=0
  ·rw [Ai q] at h
   rcases List.mem_cons.1 hx with rfl | hx
   ·exact ⟨b,q⟩
   ·exact Zca k r _ h x hx
  ·rw [Aj q] at h;exact absurd h q
theorem Zk {k:Int} {b:List TF} {x:TF} (h:Oy k b x=0):FO x.2.1=true∧(1≤x.1∧x.1≤9999)∧(1≤x.2.2.1∧x.2.2.1≤3)∧(k=10→x.2.2.1=1)∧(x.2.2.1=3→x.2.2.2.2.length=1)∧(x.2.2.1≠3→x.2.2.2.2=[]):=by
 unfold Oy at h
 by_cases h1:FO x.2.1=true
 ·rw [Ai h1] at h
  by_cases h2:¬ (1≤x.1∧x.1≤9999)
  ·rw [Ai h2] at h;exact absurd h (by decide)
  rw [Aj h2] at h
  by_cases h3:(b.any fun q=>Ff q x)=true
  ·rw [Ai h3] at h;exact absurd h (by decide)
  rw [Aj h3] at h
  by_cases h4:¬ (1≤x.2.2.1∧x.2.2.1≤3)∨(k=10∧x.2.2.1≠1)
  ·rw [Ai h4] at h;exact absurd h (by decide)
  rw [Aj h4] at h
  by_cases h5:x.2.2.1=3∧x.2.2.2.2.length=0
  ·rw [Ai h5] at h;exact absurd h (by decide)
  rw [Aj h5] at h
  by_cases h6:1<x.2.2.2.2.length∨(x.2.2.1≠3∧0<x.2.2.2.2.length)
  ·rw [Ai h6] at h;exact absurd h (by decide)
  refine ⟨h1,by omega,by omega,by omega,by omega,fun q=>?_⟩
  have:x.2.2.2.2.length=0:=by omega
  exact List.length_eq_zero_iff.1 this
 ·rw [Aj h1] at h;exact absurd h (by decide)
structure Ty.Own (t:Ty):Prop where
 kind:1≤t.kind∧t.kind≤10
 words:t.kind=4→0<t.words.length→t.min=0∧t.max=0∧t.words.length≤64∧ZaT none t.words=0
 nowords:t.kind≠4→t.words=[]
 noelem:t.kind≠8→t.elem=[]
 nofields:t.kind≠9→t.kind≠10→t.fields=[]
 noscale:t.kind≠3→t.scale=0
 nobounds:¬ (2≤t.kind∧t.kind≤8)→t.min=0∧t.max=0
 scale:0≤t.scale∧t.scale≤12
 bounds:(2≤t.kind∧t.kind≤8)→¬ (t.kind=4∧0<t.words.length)→(A5 t.kind).1≤t.min∧t.max≤(A5 t.kind).2∧t.min≤t.max
 elem:t.kind=8→∃ e,t.elem=[e]
 cases:t.kind=10→0<t.fields.length
 fields:t.fields.length≤64
 each:∀ x∈t.fields,FO x.2.1=true∧(1≤x.1∧x.1≤9999)∧(1≤x.2.2.1∧x.2.2.1≤3)∧(t.kind=10→x.2.2.1=1)∧(x.2.2.1=3→x.2.2.2.2.length=1)∧(x.2.2.1≠3→x.2.2.2.2=[])
 apart:KJ t.kind [] t.fields=0
theorem Ty.own_of {t:Ty} (h:Ry t=0):t.Own:=by
 have r:=Sz h
 obtain ⟨o,n,u⟩:=r
 simp only [BE,Bool.or_eq_true,Bool.and_eq_true,Bool.not_eq_true',Bool.and_eq_false_iff,decide_eq_false_iff_not,decide_eq_true_eq,not_or,not_and] at n
 obtain ⟨⟨⟨⟨g,i⟩,j⟩,f⟩,k⟩:=n
 have l:t.kind≠4→t.words=[]:=fun q=>List.length_eq_zero_iff.1 (by have:=j q;omega)
 have ne:t.kind≠8→t.elem=[]:=fun q=>List.length_eq_zero_iff.1 (by have:=f q;omega)
 have d:t.kind≠9→t.kind≠10→t.fields=[]:=fun q p=>List.length_eq_zero_iff.1 (by have:=k ⟨q,p⟩;omega)
 have c:t.kind≠3→t.scale=0:=fun q=>by
  have:=i q
  by_cases z:t.scale=0
  ·exact z
  ·exact absurd z this
 have m:¬ (2≤t.kind∧t.kind≤8)→t.min=0∧t.max=0:=fun q=>by
  have:=g (by omega)
  omega
 have s:=h
 rw [Ry,Aj o,Aj (by
  intro q
  simp only [BE,Bool.or_eq_true,Bool.and_eq_true,Bool.not_eq_true',Bool.and_eq_false_iff,decide_eq_false_iff_not,decide_eq_true_eq] at q
  rcases q with (((q | q) | q) | q) | q
  ·have:=g q.1;have:=q.2;omega
  ·exact i q.1 q.2
  ·exact j q.1 q.2
  ·exact f q.1 q.2
  ·exact k q.1 q.2)] at h
 by_cases h3:t.kind=4∧0<t.words.length
 ·rw [Ai h3,Pg] at h
  by_cases w1:t.min≠0∨t.max≠0
  ·rw [Ai w1] at h;exact absurd h (by decide)
  rw [Aj w1] at h
  by_cases w2:64<t.words.length
  ·rw [Ai w2] at h;exact absurd h (by decide)
  rw [Aj w2] at h
  have ef:t.fields=[]:=d (by omega) (by omega)
  exact { kind:=by omega,words:=fun _ _=>⟨by omega,by omega,by omega,h⟩,nowords:=l,noelem:=ne,nofields:=d,noscale:=c,nobounds:=m,scale:=by have:=c (by omega);omega,bounds:=fun _ q=>absurd h3 q,elem:=fun q=>by omega,cases:=fun q=>by omega,fields:=by rw [ef];simp,each:=fun x hx=>by rw [ef] at hx;simp at hx,apart:=by rw [ef];rfl }
 rw [Aj h3] at h
 by_cases h4:((2≤t.kind∧t.kind≤8)∧CE t (A5 t.kind).1 (A5 t.kind).2=false)∨¬ (0≤t.scale∧t.scale≤12)
 ·rw [Ai h4] at h;exact absurd h (by decide)
 rw [Aj h4] at h
 by_cases h5:(t.kind=8∧t.elem.length=0)∨(t.kind=10∧t.fields.length=0)
 ·rw [Ai h5] at h;exact absurd h (by decide)
 rw [Aj h5] at h
 by_cases h6:1<t.elem.length
 ·rw [Ai h6] at h;exact absurd h (by decide)
 rw [Aj h6] at h
 by_cases h7:64<t.fields.length
 ·rw [Ai h7] at h;exact absurd h (by decide)
 rw [Aj h7] at h
 refine { kind:=by omega,words:=fun a b=>absurd ⟨a,b⟩ h3,nowords:=l,noelem:=ne,nofields:=d,noscale:=c,nobounds:=m,scale:=by omega,bounds:=fun q _=>?_,elem:=fun q=>?_,cases:=fun q=>by omega,fields:=by omega,each:=fun x hx=>?_,apart:=h }
 ·have hb:CE t (A5 t.kind).1 (A5 t.kind).2=true:=by
   cases hb:CE t (A5 t.kind).1 (A5 t.kind).2 with
   | true=>rfl
   | false=>exact absurd (Or.inl ⟨q,hb⟩) h4
  unfold CE at hb
  simp only [Bool.and_eq_true,decide_eq_true_eq] at hb
  exact ⟨hb.1.1,hb.1.2,hb.2⟩
 ·match he:t.elem with
  | []=>exact absurd (Or.inl ⟨q,by rw [he];rfl⟩) h5
  | [e]=>exact ⟨e,rfl⟩
  | _::_::_=>rw [he] at h6;simp at h6
 ·obtain ⟨v,hb⟩:=Zca _ _ _ h x hx
  exact Zk hb
theorem Ty.Good.own {t:Ty} (h:t.Good):t.Own:=Ty.own_of (VS h)
def DT (b:Part):Option ByteArray :=
 if decide (b.kind=1) then
  if ((⟨#[46]⟩:ByteArray)).size+b.name.size≤9223372036854775807 then
   some (((⟨#[46]⟩:ByteArray))++b.name)
  else none
 else
  if decide (b.kind=2) then
   if Bj (b.index) then
    if ((⟨#[91]⟩:ByteArray)).size+((⟨(Lib.itoa b.index).toArray⟩:ByteArray)).size≤9223372036854775807 then
     if (((⟨#[91]⟩:ByteArray))++((⟨(Lib.itoa b.index).toArray⟩:ByteArray))).size+((⟨#[93]⟩:ByteArray)).size≤9223372036854775807 then
      some ((((⟨#[91]⟩:ByteArray))++((⟨(Lib.itoa b.index).toArray⟩:ByteArray)))++((⟨#[93]⟩:ByteArray)))
     else none
    else none
   else none
  else
   if decide (b.kind=3) then
    some ((⟨#[91,42,93]⟩:ByteArray))
   else
    if ((⟨#[63]⟩:ByteArray)).size+b.name.size≤9223372036854775807 then
     some (((⟨#[63]⟩:ByteArray))++b.name)
    else none
theorem O4 (w0:World) (hP:Pow10 w0) (B:As) (Rw:Ax) (L:Aw) (a0:Part) (r:ByteArray) (h:DT a0=some r) :
  ACalls Tryz.prog w0 233 [.agg (Am a0.kind::(Am a0.index::([.val (.string a0.name)])))] ⟨B,Rw,L⟩ fun x st=>x = .val (.string r)∧st=⟨B,Rw,L⟩:=by
 rw [DT] at h
 refine hd [.tmp 2] Tryz.func233 Tryz.ntmps233 fun M0 W0 q o m b s l hs=>?_
 simp only [AB]
 refine rg [1] hs ?_
 apply Ap;intro K2 g
 refine rg [1,4] hs ?_
 apply Au
 refine rg [1,4,5] hs ?_
 refine Cj h hs ?_ ?_<;>intro hs h
 ·obtain ⟨n,h⟩:=Av h
  have k:=n
  try simp +decide only [go_sem] at k
  refine rg [2] hs ?_
  exact rt h hs b l
 refine rg [1,4,10] hs ?_
 refine Cj h hs ?_ ?_<;>intro hs h
 ·obtain ⟨p,h⟩:=Av h
  obtain ⟨j,h⟩:=Av h
  have c:=j
  try simp +decide only [go_sem] at c
  obtain ⟨f,h⟩:=Av h
  have d:=f
  try simp +decide only [go_sem] at d
  exact go (tg (a:=([2],()))) h hs q o m b l (q1 (Z9 w0)) trivial
 refine rg [1,17] hs ?_
 refine Cj h hs ?_ ?_<;>intro hs h
 ·refine rg [2] hs ?_
  exact rt h hs b l
 refine sk [1] hs g ?_
 clear g
 obtain ⟨i,h⟩:=Av h
 have e:=i
 try simp +decide only [go_sem] at e
 refine rg [2] hs ?_
 exact rt h hs b l
def Fa (b:Part) (g:Bool):Option Bool :=
 if g then
  if decide (b.index=0) then
   if b.name.size≤maxLen then
    some (FO b.name)
   else none
  else
   some (false)
 else
  if decide (b.kind=2) then
   some (((G5 b.name (⟨#[]⟩:ByteArray))&&(decide (0≤b.index)))&&(decide (b.index<256)))
  else
   if decide (b.kind=3) then
    some ((G5 b.name (⟨#[]⟩:ByteArray))&&(decide (b.index=0)))
   else
    some (false)
def F8 (b:Part):Option Bool :=
 if decide (b.kind=1) then
  Fa b true
 else
  Fa b (decide (b.kind=4))
theorem On (w0:World) (B:As) (Rw:Ax) (L:Aw) (a0:Part) (r:Bool) (h:F8 a0=some r) :
  ACalls Tryz.prog w0 157 [.agg (Am a0.kind::(Am a0.index::([.val (.string a0.name)])))] ⟨B,Rw,L⟩ fun x st=>x = .val (.bool r)∧st=⟨B,Rw,L⟩:=by
 rw [F8] at h
 refine hd [.tmp 2] Tryz.func157 Tryz.ntmps157 fun M0 W0 k f d c l i hs=>?_
 simp only [AB]
 refine rg [1] hs ?_
 apply Ap;intro K2 j
 refine rg [1,4] hs ?_
 apply Au
 refine AA (fun e st=>∃ (b:Bool),Ck e st B Rw L [(1,true,.box B.length 0),(4,true,Am a0.kind),(5,true,.val (.bool b))] [Am a0.kind::(Am a0.index::([.val (.string a0.name)]))] [] (Fa a0 b=some r)) ?_ ?_
 ·intro K6 g
  exact go (tg (a:=([1,4,5],([1,4,5],()),[1,4,5],()))) h hs k f d c i trivial (q1 g)
 ·clear h;rintro e st ⟨b,Xk5,Rk5,rfl,rfl,i,h⟩
  rw [Fa] at h
  exact go (tg (a:=((([2],()),[2],()),[1,4,16],([2],()),[1,31],([2],()),[],[2],()))) h hs k f d c i (q1 (PP w0)) (q1 j)
def ME (n:Nat)  (b:Int):Option Int :=
 if decide (200<b) then
  some (3)
 else
  some (0)
def Fp (n:Nat) (z:List Part):Nat→Int→Int→Option Int
 | 0,_,_=>none
 | m+1,g,b =>
  if decide (b<(z.length:Int)) then
   (B6 z b).bind fun h =>
   (F8 h).bind fun y =>
   if !y then
    some (3)
   else
    (DT h).bind fun q =>
    if Bj (g+(q.size:Int)) then
     if Bj (b+1) then
      (Fp n z m) (g+(q.size:Int)) (b+1)
     else none
    else none
  else
   ME n g
def I3 (n:Nat) (b:List Part):Option Int :=
 if (decide ((b.length:Int)<1))||(decide (16<(b.length:Int))) then
  some (3)
 else
  (B6 b 0).bind fun g =>
  if !(decide (g.kind=1)) then
   some (3)
  else
   Fp n b n ((-1)) 0
theorem UO (w0:World) (hP:Pow10 w0) (n:Nat) (B:As) (Rw:Ax) (L:Aw) (a0:List Part) (r:Int) (h:I3 n a0=some r) :
  ACalls Tryz.prog w0 232 [.list (a0.map AO) .none] ⟨B,Rw,L⟩ fun x st=>x=Am r∧st=⟨B,Rw,L⟩:=by
 rw [I3] at h
 refine hd [.tmp 2] Tryz.func232 Tryz.ntmps232 fun M0 W0 t j l d y k hs=>?_
 simp only [AB]
 refine rg [0] hs ?_
 apply Ap;intro K2 p
 apply Ap;intro K3 i
 rcases Bool.eq_false_or_eq_true ((decide ((a0.length:Int)<1))||(decide (16<(a0.length:Int)))) with hf4 | hf4
 ·replace h:=AW h hf4
  exact go (tg (a:=([0,20],[2],()))) h (Ae hf4 hs) t j l d k trivial (q1 i)
 ·replace h:=AX h hf4
  obtain ⟨w,u,v,g,h⟩:=ix AO h
  have q:(a0.map AO).getD 0 .junk=_:=g
  have hs:=Ae hf4 hs
  have hs:=Ae g hs
  have hs:=Ae q hs
  refine rl [0,20] hs i ?_
  clear i
  refine Cj h hs ?_ ?_<;>intro hs h
  ·refine rg [2] hs ?_
   exact rt h hs d k
  refine sk [0] hs p ?_
  clear p
  refine rg [0,3] hs ?_
  refine AA (fun e st=>∃ (f:Int),Ck e st B Rw L [(3,true,Am f)] [] [] (ME n f=some r)) ?_ ?_
  ·intro K13 o
   refine rg [3,21,22,23] hs ?_
   apply Au
   refine AC (fun m e st=>∃ (c:Int) (b:Int),Ck e st B Rw L [(3,true,Am c),(21,true,.list (a0.map AO) .none),(22,true,Am (a0.length:Int)),(23,true,Am b)] [] [] (Fp n a0 m c b=some r)) n ⟨((-1)),0,([]),Rw,ef hs,ef hs,k,h⟩ ?_
   rintro ml15 e st ⟨c,b,Xl15,Rl15,rfl,rfl,k,h⟩ Ul15 Vl15
   cases ml15 with
   | zero=>cases h
   | succ ml15 =>
   rw [Fp] at h
   exact go (tg (a:=([3,21,22,23,24],([3,21,22,23],[3,5,21,22,23],[3,5,21,22,23,29],([2],()),[3,5,21,22,23],[3,21,22,23],[3,21,22,23],()),[3],()))) h hs t j l d k (q2 (On w0) (O4 w0 hP)) (q2 o (fun e s=>Vl15 ml15 e s (Nat.lt_succ_self _)))
  ·clear h;rintro e st ⟨f,Xk12,Rk12,rfl,rfl,k,h⟩
   rw [ME] at h
   exact go (tg (a:=([37],([2],()),[],[2],()))) h hs t j l d k trivial trivial
instance (k:IntKind) (n:Int):Decidable (inK k n):=by cases k<;>exact inferInstanceAs (Decidable (_∧_))
@[go_sem] theorem Zc9 (n:Int):Vy (.val (.int .u8 n))=(0≤n∧n≤255):=rfl
@[go_sem] theorem ZiC:HF []=(⟨#[]⟩:ByteArray):=rfl
@[go_sem] theorem Zg3 (k:Nat):(∀ y∈List.replicate k (AV.val (.int .u8 0)),Vy y)↔True:=iff_true_intro fun y a=>by
 rw [List.eq_of_mem_replicate a,Zc9];omega
def Ye (p:Part):Int:=if p.kind=1 then 1+p.name.size else if p.kind=2 then 2+(Lib.itoa p.index).length else if p.kind=3 then 3 else 1+p.name.size
def pOk (p:Part):Bool :=
 if p.kind=1∨p.kind=4 then decide (p.index=0)&&FO p.name
 else if p.kind=2 then G5 p.name ⟨#[]⟩&&decide (0≤p.index)&&decide (p.index<256)
 else if p.kind=3 then G5 p.name ⟨#[]⟩&&decide (p.index=0) else false
theorem Wv (p:Part) (h:p.wf):F8 p=some (pOk p):=by
 obtain ⟨_,_,a⟩:=h
 rw [F8,pOk]
 by_cases h1:p.kind=1
 ·rw [Ah h1,Ai rfl,Fa,Ai rfl,Ai (Or.inl h1)]
  by_cases hi:p.index=0
  ·rw [Ah hi,Ai rfl,Ai a];rfl
  ·rw [Ag hi,Aj (by decide)];rfl
 rw [Ag h1,Aj (by decide),Fa]
 by_cases h4:p.kind=4
 ·rw [Ah h4,Ai rfl,Ai (Or.inr h4)]
  by_cases hi:p.index=0
  ·rw [Ah hi,Ai rfl,Ai a];rfl
  ·rw [Ag hi,Aj (by decide)];rfl
 rw [Ag h4,Aj (by decide),Aj (show ¬ (p.kind=1∨p.kind=4) by omega)]
 by_cases h2:p.kind=2
 ·rw [Ah h2,Ai rfl,Ai h2]
 rw [Ag h2,Aj (by decide),Aj h2]
 by_cases h3:p.kind=3
 ·rw [Ah h3,Ai rfl,Ai h3]
 rw [Ag h3,Aj (by decide),Aj h3]
theorem Zen (i:Int) (h0:0≤i) (h:i<256):(Lib.itoa i).length=if i<10 then 1 else if i<100 then 2 else 3:=by
 unfold Lib.itoa
 rw [Aa,Lib.decDigits_length]
 by_cases h1:i<10
 ·rw [Ai h1,Lib.nDigits_small (by omega)]
 rw [Aj h1,Lib.nDigits_big (by omega)]
 by_cases h2:i<100
 ·rw [Ai h2,Lib.nDigits_small (by omega)]
 rw [Aj h2,Lib.nDigits_big (by omega),Lib.nDigits_small (by omega)]
theorem GM (l:Array UInt8):(⟨l⟩:ByteArray).size=l.size:=rfl
theorem Y0 (p:Part) (h:pOk p=true):∃ s,DT p=some s∧(s.size:Int)=Ye p∧1≤Ye p∧Ye p≤40:=by
 unfold pOk at h
 rw [DT,Ye]
 by_cases h1:p.kind=1
 ·rw [Ai (Or.inl h1),Bool.and_eq_true] at h
  have c:=Vk h.2
  rw [Ah h1,Ai rfl,Ai h1,Ai (by rw [GM];simp;omega)]
  refine ⟨_,rfl,?_,by omega,by omega⟩
  rw [ByteArray.size_append,GM];simp
 rw [Ag h1,Aj (by decide),Aj h1]
 by_cases h2:p.kind=2
 ·rw [Aa,Ai h2,Bool.and_eq_true,Bool.and_eq_true] at h
  have q1:=of_decide_eq_true h.1.2
  have q2:=of_decide_eq_true h.2
  have a:=Zen p.index q1 q2
  have b:(Lib.itoa p.index).length≤3:=by rw [a];repeat' split<;>try omega
  rw [Ah h2,Ai rfl,Ai h2,Ai (by unfold Bj;omega),Ai (by rw [GM,GM];simp;omega),Ai (by rw [ByteArray.size_append,GM,GM,GM];simp;omega)]
  refine ⟨_,rfl,?_,by omega,by omega⟩
  rw [ByteArray.size_append,ByteArray.size_append,GM,GM,GM];simp;omega
 rw [Ag h2,Aj (by decide),Aj h2]
 by_cases h3:p.kind=3
 ·rw [Ah h3,Ai rfl,Ai h3]
  exact ⟨_,rfl,rfl,by decide,by decide⟩
 rw [Ag h3,Aj (by decide),Aj h3]
 by_cases h4:p.kind=4
 ·rw [Ai (Or.inr h4),Bool.and_eq_true] at h
  have c:=Vk h.2
  rw [Ai (by rw [GM];simp;omega)]
  refine ⟨_,rfl,?_,by omega,by omega⟩
  rw [ByteArray.size_append,GM];simp
 ·rw [Aa,Aj h2,Aj h3] at h
  exact absurd h (by decide)
def ZgX (l:List Part):Int:=(l.map Ye).sum
theorem QC (n:Nat) (l:List Part) (hw:∀ p∈l,p.wf) (hl:l.length≤20):∀ (k m i:Nat) (c:Int),i+k=l.length→k<m → -1≤c→c≤40*i →
  Fp n l m c i=some (if ((l.drop i).all pOk&&decide (c+ZgX (l.drop i)≤200))=true then 0 else 3)
 | k,0,i,_,_,h,_,_=>absurd h (Nat.not_lt_zero _)
 | 0,m+1,i,c,hi,_,_,_=>by
  rw [Fp,AH,Ac,List.drop_eq_nil_of_le (by omega)]
  simp only [Bool.false_eq_true,if_false,ME,ZgX,List.map_nil,List.sum_nil,Int.add_zero,List.all_nil,Bool.true_and]
  by_cases q:200<c
  ·rw [Ai (Ah q),Aj (by rw [decide_eq_true_eq];omega)]
  ·rw [Aj (by rw [decide_eq_true_eq];omega),Ai (by rw [decide_eq_true_eq];omega)]
 | k+1,m+1,i,c,hi,hm,h1,h2=>by
  have a:i<l.length:=by omega
  rw [Fp,AH,Ah a,List.drop_eq_getElem_cons a,List.all_cons]
  simp only [if_true,AK a,Af,Wv _ (hw _ (List.getElem_mem a))]
  cases hb:pOk l[i] with
  | false=>rfl
  | true =>
   obtain ⟨s,e,z,b,d⟩:=Y0 _ hb
   simp only [Bool.not_true,Bool.false_eq_true,if_false,e,Af,Bool.true_and]
   rw [Ai (by unfold Bj;omega),Ai (AG (by omega)),z]
   have ih:=QC n l hw hl k m (i+1) (c+Ye l[i]) (by omega) (by omega) (by omega) (by omega)
   rw [show ((i:Int)+1)=((i+1:Nat):Int) by omega,ih]
   simp only [ZgX,List.map_cons,List.sum_cons,Int.add_assoc]
end Go.Proofs.YtmcnjijeocmkgaaGreatDoor
namespace Go.Proofs
open Go.Shelf
def Tryz.lays119_ren:Go.Shelf.Ren:=⟨fun | 119=>323 | n=>n,fun | 21=>21 | 4=>4 | n=>n,fun | n=>n⟩
theorem Tryz.lays119:Go.Proofs.Lays.n119 Tryz.prog Tryz.lays119_ren:={
 mixed:=by kernel_rfl
 f119:=Tryz.func323.trans (congrArg some (by kernel_rfl))
 t4:=Tryz.underlying4
 a4:=Tryz.isAgg4
 z4:=Tryz.sizeOf4
 v4:=Tryz.zeroValue4
 t21:=Tryz.underlying21
 a21:=Tryz.isAgg21
 z21:=Tryz.sizeOf21
 v21:=Tryz.zeroValue21 }
theorem Tryz.utf8_ValidRune (r:Int) (w:World) :
  Calls Tryz.prog 323 #[.int .i32 r] w fun e w'=>e = .returned (.bool (Lib.validRune r))∧w'=w:=Any.utf8_ValidRune Tryz.lays119 r w
def Tryz.lays137_ren:Go.Shelf.Ren:=⟨fun | 137=>322 | 217=>357 | 266=>369 | n=>n,fun | 9=>9 | 5=>5 | 3=>3 | n=>n,fun | n=>n⟩
theorem Tryz.lays137:Go.Proofs.Lays.n137 Tryz.prog Tryz.lays137_ren:={
 mixed:=by kernel_rfl
 f137:=Tryz.func322.trans (congrArg some (by kernel_rfl))
 f217:=Tryz.func357.trans (congrArg some (by kernel_rfl))
 f266:=Tryz.func369.trans (congrArg some (by kernel_rfl))
 t3:=Tryz.underlying3
 a3:=Tryz.isAgg3
 z3:=Tryz.sizeOf3
 v3:=Tryz.zeroValue3
 t5:=Tryz.underlying5
 a5:=Tryz.isAgg5
 z5:=Tryz.sizeOf5
 v5:=Tryz.zeroValue5
 t9:=Tryz.underlying9
 a9:=Tryz.isAgg9
 z9:=Tryz.sizeOf9
 v9:=Tryz.zeroValue9 }
open Go.RowKit in
theorem Tryz.strings_IndexByte (s:ByteArray) (c:Int) (w:World) :
  Calls Tryz.prog 322 #[.string s,.int .u8 c] w fun e w'=>e = .returned (.int .i64 (Lib.indexByte s.data.toList c.toNat.toUInt8))∧w'=w:=Any.strings_IndexByte Tryz.lays137 s c w
def Tryz.lays145_ren:Go.Shelf.Ren:=⟨fun | 145=>237 | 220=>286 | 219=>326 | 217=>357 | 225=>325 | 224=>324 | 267=>358 | 266=>369 | 314=>370 | n=>n,fun | 9=>9 | 4=>4 | 59=>245 | 3=>3 | 5=>5 | 46=>231 | 146=>309 | 51=>299 | n=>n,fun | 1=>1 | n=>n⟩
theorem Tryz.lays145:Go.Proofs.Lays.n145 Tryz.prog Tryz.lays145_ren:={
 mixed:=by kernel_rfl
 f145:=Tryz.func237.trans (congrArg some (by kernel_rfl))
 f217:=Tryz.func357.trans (congrArg some (by kernel_rfl))
 f219:=Tryz.func326.trans (congrArg some (by kernel_rfl))
 f220:=Tryz.func286.trans (congrArg some (by kernel_rfl))
 f224:=Tryz.func324.trans (congrArg some (by kernel_rfl))
 f225:=Tryz.func325.trans (congrArg some (by kernel_rfl))
 f266:=Tryz.func369.trans (congrArg some (by kernel_rfl))
 f267:=Tryz.func358.trans (congrArg some (by kernel_rfl))
 f314:=Tryz.func370.trans (congrArg some (by kernel_rfl))
 t3:=Tryz.underlying3
 a3:=Tryz.isAgg3
 z3:=Tryz.sizeOf3
 v3:=Tryz.zeroValue3
 t4:=Tryz.underlying4
 a4:=Tryz.isAgg4
 z4:=Tryz.sizeOf4
 v4:=Tryz.zeroValue4
 t5:=Tryz.underlying5
 a5:=Tryz.isAgg5
 z5:=Tryz.sizeOf5
 v5:=Tryz.zeroValue5
 t9:=Tryz.underlying9
 a9:=Tryz.isAgg9
 z9:=Tryz.sizeOf9
 v9:=Tryz.zeroValue9
 t46:=Tryz.underlying231
 a46:=Tryz.isAgg231
 z46:=Tryz.sizeOf231
 v46:=Tryz.zeroValue231
 t51:=Tryz.underlying299
 a51:=Tryz.isAgg299
 z51:=Tryz.sizeOf299
 v51:=Tryz.zeroValue299
 t59:=Tryz.underlying245
 a59:=Tryz.isAgg245
 z59:=Tryz.sizeOf245
 v59:=Tryz.zeroValue245
 t146:=Tryz.underlying309
 a146:=Tryz.isAgg309
 z146:=Tryz.sizeOf309
 v146:=Tryz.zeroValue309
 g1:=by kernel_rfl }
open Go.RowKit Go.Lib in
theorem Tryz.strings_Cut (s sep:ByteArray) (m:Int) (w:World) (hs:s.size<4294967281) (hm:w.cell? ⟨1,0,none⟩=some (.int .i64 m)) :
  Calls Tryz.prog 237 #[.string s,.string sep] w fun e w'=>e = .returned (.tuple #[.string ⟨(Lib.cut s.data.toList sep.data.toList).1.toArray⟩,.string ⟨(Lib.cut s.data.toList sep.data.toList).2.1.toArray⟩,.bool (Lib.cut s.data.toList sep.data.toList).2.2])∧∃ n,w'=w.drewN n:=Any.strings_Cut Tryz.lays145 s sep m w hs hm
def Tryz.lays99_ren:Go.Shelf.Ren:=⟨fun | 99=>236 | 206=>285 | n=>n,fun | 9=>9 | 4=>4 | 3=>3 | n=>n,fun | n=>n⟩
theorem Tryz.lays99:Go.Proofs.Lays.n99 Tryz.prog Tryz.lays99_ren:={
 mixed:=by kernel_rfl
 f99:=Tryz.func236.trans (congrArg some (by kernel_rfl))
 f206:=Tryz.func285.trans (congrArg some (by kernel_rfl))
 t3:=Tryz.underlying3
 a3:=Tryz.isAgg3
 z3:=Tryz.sizeOf3
 v3:=Tryz.zeroValue3
 t4:=Tryz.underlying4
 a4:=Tryz.isAgg4
 z4:=Tryz.sizeOf4
 v4:=Tryz.zeroValue4
 t9:=Tryz.underlying9
 a9:=Tryz.isAgg9
 z9:=Tryz.sizeOf9
 v9:=Tryz.zeroValue9 }
open Go.RowKit Go.Lib in
theorem Tryz.strings_HasPrefix (s p:ByteArray) (w:World) :
  Calls Tryz.prog 236 #[.string s,.string p] w fun e w'=>e = .returned (.bool (Lib.hasPrefix s.data.toList p.data.toList))∧w'=w:=Any.strings_HasPrefix Tryz.lays99 s p w
def Tryz.lays152_ren:Go.Shelf.Ren:=⟨fun | 152=>281 | 137=>322 | 119=>323 | 224=>324 | 225=>325 | 217=>357 | 266=>369 | n=>n,fun | 9=>9 | 21=>21 | 3=>3 | 4=>4 | 5=>5 | 0=>0 | 46=>231 | n=>n,fun | n=>n⟩
theorem Tryz.lays152:Go.Proofs.Lays.n152 Tryz.prog Tryz.lays152_ren:={
 mixed:=by kernel_rfl
 f119:=Tryz.func323.trans (congrArg some (by kernel_rfl))
 f137:=Tryz.func322.trans (congrArg some (by kernel_rfl))
 f152:=Tryz.func281.trans (congrArg some (by kernel_rfl))
 f217:=Tryz.func357.trans (congrArg some (by kernel_rfl))
 f224:=Tryz.func324.trans (congrArg some (by kernel_rfl))
 f225:=Tryz.func325.trans (congrArg some (by kernel_rfl))
 f266:=Tryz.func369.trans (congrArg some (by kernel_rfl))
 t0:=Tryz.underlying0
 a0:=Tryz.isAgg0
 z0:=Tryz.sizeOf0
 v0:=Tryz.zeroValue0
 t3:=Tryz.underlying3
 a3:=Tryz.isAgg3
 z3:=Tryz.sizeOf3
 v3:=Tryz.zeroValue3
 t4:=Tryz.underlying4
 a4:=Tryz.isAgg4
 z4:=Tryz.sizeOf4
 v4:=Tryz.zeroValue4
 t5:=Tryz.underlying5
 a5:=Tryz.isAgg5
 z5:=Tryz.sizeOf5
 v5:=Tryz.zeroValue5
 t9:=Tryz.underlying9
 a9:=Tryz.isAgg9
 z9:=Tryz.sizeOf9
 v9:=Tryz.zeroValue9
 t21:=Tryz.underlying21
 a21:=Tryz.isAgg21
 z21:=Tryz.sizeOf21
 v21:=Tryz.zeroValue21
 t46:=Tryz.underlying231
 a46:=Tryz.isAgg231
 z46:=Tryz.sizeOf231
 v46:=Tryz.zeroValue231 }
open Go.RowKit Go.Lib in
theorem Tryz.strings_IndexRune_ascii (s:ByteArray) (r:Int) (w:World) (h0:0≤r) (h1:r<128) :
  Calls Tryz.prog 281 #[.string s,.int .i32 r] w fun e w'=>e = .returned (.int .i64 (Lib.indexByte s.data.toList r.toNat.toUInt8))∧w'=w:=Any.strings_IndexRune_ascii Tryz.lays152 s r w h0 h1
def Tryz.lays226_ren:Go.Shelf.Ren:=⟨fun | 226=>282 | n=>n,fun | 3=>3 | 4=>4 | n=>n,fun | n=>n⟩
theorem Tryz.lays226:Go.Proofs.Lays.n226 Tryz.prog Tryz.lays226_ren:={
 mixed:=by kernel_rfl
 f226:=Tryz.func282.trans (congrArg some (by kernel_rfl))
 t3:=Tryz.underlying3
 a3:=Tryz.isAgg3
 z3:=Tryz.sizeOf3
 v3:=Tryz.zeroValue3
 t4:=Tryz.underlying4
 a4:=Tryz.isAgg4
 z4:=Tryz.sizeOf4
 v4:=Tryz.zeroValue4 }
open Go.RowKit Go.Lib in
theorem Tryz.strings_shouldUseASCIISet (n:Int) (w:World) :
  Calls Tryz.prog 282 #[.int .i64 n] w fun e w'=>e = .returned (.bool (decide (8<n)))∧w'=w:=Any.strings_shouldUseASCIISet Tryz.lays226 n w
def Tryz.lays153_ren:Go.Shelf.Ren:=⟨fun | 153=>235 | 152=>281 | 226=>282 | 227=>283 | 228=>284 | 137=>322 | 119=>323 | 224=>324 | 225=>325 | 217=>357 | 266=>369 | n=>n,fun | 9=>9 | 3=>3 | 4=>4 | 5=>5 | 21=>21 | 117=>287 | 116=>286 | 0=>0 | 46=>231 | 124=>323 | n=>n,fun | n=>n⟩
theorem Tryz.lays153:Go.Proofs.Lays.n153 Tryz.prog Tryz.lays153_ren:={
 mixed:=by kernel_rfl
 f119:=Tryz.func323.trans (congrArg some (by kernel_rfl))
 f137:=Tryz.func322.trans (congrArg some (by kernel_rfl))
 f152:=Tryz.func281.trans (congrArg some (by kernel_rfl))
 f153:=Tryz.func235.trans (congrArg some (by kernel_rfl))
 f217:=Tryz.func357.trans (congrArg some (by kernel_rfl))
 f224:=Tryz.func324.trans (congrArg some (by kernel_rfl))
 f225:=Tryz.func325.trans (congrArg some (by kernel_rfl))
 f226:=Tryz.func282.trans (congrArg some (by kernel_rfl))
 f227:=Tryz.func283.trans (congrArg some (by kernel_rfl))
 f228:=Tryz.func284.trans (congrArg some (by kernel_rfl))
 f266:=Tryz.func369.trans (congrArg some (by kernel_rfl))
 t0:=Tryz.underlying0
 a0:=Tryz.isAgg0
 z0:=Tryz.sizeOf0
 v0:=Tryz.zeroValue0
 t3:=Tryz.underlying3
 a3:=Tryz.isAgg3
 z3:=Tryz.sizeOf3
 v3:=Tryz.zeroValue3
 t4:=Tryz.underlying4
 a4:=Tryz.isAgg4
 z4:=Tryz.sizeOf4
 v4:=Tryz.zeroValue4
 t5:=Tryz.underlying5
 a5:=Tryz.isAgg5
 z5:=Tryz.sizeOf5
 v5:=Tryz.zeroValue5
 t9:=Tryz.underlying9
 a9:=Tryz.isAgg9
 z9:=Tryz.sizeOf9
 v9:=Tryz.zeroValue9
 t21:=Tryz.underlying21
 a21:=Tryz.isAgg21
 z21:=Tryz.sizeOf21
 v21:=Tryz.zeroValue21
 t46:=Tryz.underlying231
 a46:=Tryz.isAgg231
 z46:=Tryz.sizeOf231
 v46:=Tryz.zeroValue231
 t116:=Tryz.underlying286
 a116:=Tryz.isAgg286
 z116:=Tryz.sizeOf286
 t117:=Tryz.underlying287
 a117:=Tryz.isAgg287
 z117:=Tryz.sizeOf287
 v117:=Tryz.zeroValue287
 t124:=Tryz.underlying323
 a124:=Tryz.isAgg323
 z124:=Tryz.sizeOf323
 v124:=Tryz.zeroValue323 }
open Go.RowKit Go.Lib in
theorem Tryz.strings_IndexAny_long (hv116:∀ w,(zeroValue 286).run Tryz.prog w = .ok (.agg (Array.replicate 256 (.bool false))) w) (s chars:ByteArray) (w:World) (h2:2≤chars.size) (h8:8<s.size) (hs:s.size<4294967281) (hcs:chars.size<4294967281) (hascii:∀ (j:Nat) b,chars.data.toList[j]? = some b→b.toNat<128) :
  Calls Tryz.prog 235 #[.string s,.string chars] w fun e w'=>e = .returned (.int .i64 (Lib.indexAny s.data.toList chars.data.toList))∧w'=((w.alloc (.cells (Lib.setCells chars.data.toList) 286)).alloc (.cells (Lib.setCells chars.data.toList) 286)):=Any.strings_IndexAny_long Tryz.lays153 hv116 (by kernel_rfl) s chars w h2 h8 hs hcs hascii
def Tryz.laysAtoi_ren:Go.Shelf.Ren:=⟨fun | 172=>238 | 244=>287 | 245=>288 | 247=>327 | 279=>328 | 280=>329 | 281=>330 | 282=>331 | 287=>359 | 316=>360 | 171=>134 | 205=>361 | 321=>371 | 322=>372 | 243=>206 | 246=>272 | 283=>315 | 284=>316 | 285=>317 | 286=>318 | 129=>299 | 317=>344 | 318=>345 | 319=>346 | 320=>347 | 337=>364 | 338=>365 | n=>n,fun | 9=>9 | 3=>3 | 75=>248 | 76=>249 | 4=>4 | 5=>5 | 167=>324 | 37=>167 | 0=>0 | 85=>325 | 2=>2 | 168=>327 | 53=>301 | 175=>346 | 46=>231 | 210=>349 | 127=>313 | 145=>359 | 143=>357 | 21=>21 | 171=>315 | 173=>317 | 212=>339 | 51=>299 | 20=>20 | 213=>340 | 232=>360 | 233=>361 | 80=>242 | n=>n,fun | 15=>5 | 16=>6 | 17=>4 | 18=>7 | 19=>8 | n=>n⟩
theorem Tryz.laysAtoi:Go.Proofs.LaysC.n172 Tryz.prog Tryz.laysAtoi_ren:={
 mixed:=by kernel_rfl
 f129:=Tryz.func299.trans (congrArg some (by kernel_rfl))
 f171:=Tryz.func134.trans (congrArg some (by kernel_rfl))
 f172:=Tryz.func238.trans (congrArg some (by kernel_rfl))
 f205:=Tryz.func361.trans (congrArg some (by kernel_rfl))
 f243:=Tryz.func206.trans (congrArg some (by kernel_rfl))
 f244:=Tryz.func287.trans (congrArg some (by kernel_rfl))
 f245:=Tryz.func288.trans (congrArg some (by kernel_rfl))
 f246:=Tryz.func272.trans (congrArg some (by kernel_rfl))
 f247:=Tryz.func327.trans (congrArg some (by kernel_rfl))
 f279:=Tryz.func328.trans (congrArg some (by kernel_rfl))
 f280:=Tryz.func329.trans (congrArg some (by kernel_rfl))
 f281:=Tryz.func330.trans (congrArg some (by kernel_rfl))
 f282:=Tryz.func331.trans (congrArg some (by kernel_rfl))
 f283:=Tryz.func315.trans (congrArg some (by kernel_rfl))
 f284:=Tryz.func316.trans (congrArg some (by kernel_rfl))
 f285:=Tryz.func317.trans (congrArg some (by kernel_rfl))
 f286:=Tryz.func318.trans (congrArg some (by kernel_rfl))
 f287:=Tryz.func359.trans (congrArg some (by kernel_rfl))
 f316:=Tryz.func360.trans (congrArg some (by kernel_rfl))
 f317:=Tryz.func344.trans (congrArg some (by kernel_rfl))
 f318:=Tryz.func345.trans (congrArg some (by kernel_rfl))
 f319:=Tryz.func346.trans (congrArg some (by kernel_rfl))
 f320:=Tryz.func347.trans (congrArg some (by kernel_rfl))
 f321:=Tryz.func371.trans (congrArg some (by kernel_rfl))
 f322:=Tryz.func372.trans (congrArg some (by kernel_rfl))
 f337:=Tryz.func364.trans (congrArg some (by kernel_rfl))
 f338:=Tryz.func365.trans (congrArg some (by kernel_rfl))
 t0:=Tryz.underlying0
 a0:=Tryz.isAgg0
 z0:=Tryz.sizeOf0
 v0:=Tryz.zeroValue0
 t2:=Tryz.underlying2
 a2:=Tryz.isAgg2
 z2:=Tryz.sizeOf2
 v2:=Tryz.zeroValue2
 t3:=Tryz.underlying3
 a3:=Tryz.isAgg3
 z3:=Tryz.sizeOf3
 v3:=Tryz.zeroValue3
 t4:=Tryz.underlying4
 a4:=Tryz.isAgg4
 z4:=Tryz.sizeOf4
 v4:=Tryz.zeroValue4
 t5:=Tryz.underlying5
 a5:=Tryz.isAgg5
 z5:=Tryz.sizeOf5
 v5:=Tryz.zeroValue5
 t9:=Tryz.underlying9
 a9:=Tryz.isAgg9
 z9:=Tryz.sizeOf9
 v9:=Tryz.zeroValue9
 t20:=Tryz.underlying20
 a20:=Tryz.isAgg20
 z20:=Tryz.sizeOf20
 v20:=Tryz.zeroValue20
 t21:=Tryz.underlying21
 a21:=Tryz.isAgg21
 z21:=Tryz.sizeOf21
 v21:=Tryz.zeroValue21
 t37:=Tryz.underlying167
 a37:=Tryz.isAgg167
 z37:=Tryz.sizeOf167
 v37:=Tryz.zeroValue167
 t46:=Tryz.underlying231
 a46:=Tryz.isAgg231
 z46:=Tryz.sizeOf231
 v46:=Tryz.zeroValue231
 t51:=Tryz.underlying299
 a51:=Tryz.isAgg299
 z51:=Tryz.sizeOf299
 v51:=Tryz.zeroValue299
 t53:=Tryz.underlying301
 a53:=Tryz.isAgg301
 z53:=Tryz.sizeOf301
 v53:=Tryz.zeroValue301
 t75:=Tryz.underlying248
 a75:=Tryz.isAgg248
 z75:=Tryz.sizeOf248
 v75:=Tryz.zeroValue248
 t76:=Tryz.underlying249
 a76:=Tryz.isAgg249
 z76:=Tryz.sizeOf249
 v76:=Tryz.zeroValue249
 t85:=Tryz.underlying325
 a85:=Tryz.isAgg325
 z85:=Tryz.sizeOf325
 v85:=Tryz.zeroValue325
 t127:=Tryz.underlying313
 a127:=Tryz.isAgg313
 z127:=Tryz.sizeOf313
 v127:=Tryz.zeroValue313
 t143:=Tryz.underlying357
 a143:=Tryz.isAgg357
 z143:=Tryz.sizeOf357
 v143:=Tryz.zeroValue357
 t145:=Tryz.underlying359
 a145:=Tryz.isAgg359
 z145:=Tryz.sizeOf359
 v145:=Tryz.zeroValue359
 t167:=Tryz.underlying324
 a167:=Tryz.isAgg324
 z167:=Tryz.sizeOf324
 v167:=Tryz.zeroValue324
 t168:=Tryz.underlying327
 a168:=Tryz.isAgg327
 z168:=Tryz.sizeOf327
 v168:=Tryz.zeroValue327
 t171:=Tryz.underlying315
 a171:=Tryz.isAgg315
 z171:=Tryz.sizeOf315
 v171:=Tryz.zeroValue315
 t173:=Tryz.underlying317
 a173:=Tryz.isAgg317
 z173:=Tryz.sizeOf317
 v173:=Tryz.zeroValue317
 t175:=Tryz.underlying346
 a175:=Tryz.isAgg346
 z175:=Tryz.sizeOf346
 v175:=Tryz.zeroValue346
 t210:=Tryz.underlying349
 a210:=Tryz.isAgg349
 z210:=Tryz.sizeOf349
 v210:=Tryz.zeroValue349
 t212:=Tryz.underlying339
 a212:=Tryz.isAgg339
 z212:=Tryz.sizeOf339
 v212:=Tryz.zeroValue339
 t213:=Tryz.underlying340
 a213:=Tryz.isAgg340
 z213:=Tryz.sizeOf340
 t232:=Tryz.underlying360
 a232:=Tryz.isAgg360
 z232:=Tryz.sizeOf360
 v232:=Tryz.zeroValue360
 t233:=Tryz.underlying361
 a233:=Tryz.isAgg361
 z233:=Tryz.sizeOf361
 v233:=Tryz.zeroValue361
 g15:=by kernel_rfl
 g16:=by kernel_rfl
 g17:=by kernel_rfl
 g18:=by kernel_rfl
 g19:=by kernel_rfl
 t80:=Tryz.underlying242
 a80:=Tryz.isAgg242
 z80:=Tryz.sizeOf242
 v80:=Tryz.zeroValue242
 i0:=by kernel_rfl
 i2:=by kernel_rfl
 i3:=by kernel_rfl
 i4:=by kernel_rfl
 i5:=by kernel_rfl
 i9:=by kernel_rfl
 i20:=by kernel_rfl
 i21:=by kernel_rfl
 i37:=by kernel_rfl
 i46:=by kernel_rfl
 i51:=by kernel_rfl
 i53:=by kernel_rfl
 i75:=by kernel_rfl
 i76:=by kernel_rfl
 i80:=by kernel_rfl
 i85:=by kernel_rfl
 i127:=by kernel_rfl
 i143:=by kernel_rfl
 i145:=by kernel_rfl
 i167:=by kernel_rfl
 i168:=by kernel_rfl
 i171:=by kernel_rfl
 i173:=by kernel_rfl
 i175:=by kernel_rfl
 i210:=by kernel_rfl
 i212:=by kernel_rfl
 i232:=by kernel_rfl
 i233:=by kernel_rfl
 m15:=by kernel_rfl
 m16:=by kernel_rfl
 m17:=by kernel_rfl
 m18:=by kernel_rfl
 m19:=by kernel_rfl
 c0:=by kernel_rfl
 c2:=by kernel_rfl
 c3:=by kernel_rfl
 c4:=by kernel_rfl
 c5:=by kernel_rfl
 c9:=by kernel_rfl
 c20:=by kernel_rfl
 c21:=by kernel_rfl
 c37:=by kernel_rfl
 c46:=by kernel_rfl
 c51:=by kernel_rfl
 c53:=by kernel_rfl
 c75:=by kernel_rfl
 c76:=by kernel_rfl
 c80:=by kernel_rfl
 c85:=by kernel_rfl
 c127:=by kernel_rfl
 c143:=by kernel_rfl
 c145:=by kernel_rfl
 c167:=by kernel_rfl
 c168:=by kernel_rfl
 c171:=by kernel_rfl
 c173:=by kernel_rfl
 c175:=by kernel_rfl
 c210:=by kernel_rfl
 c212:=by kernel_rfl
 c213:=by kernel_rfl
 c232:=by kernel_rfl
 c233:=by kernel_rfl }
def Tryz.laysComp_ren:Go.Shelf.Ren:=⟨fun | 194=>160 | n=>n,fun | 31=>22 | 9=>9 | 3=>3 | 4=>4 | 0=>0 | n=>n,fun | n=>n⟩
theorem Tryz.laysComp:Go.Proofs.Lays.n194 Tryz.prog Tryz.laysComp_ren:={
 mixed:=by kernel_rfl
 f194:=Tryz.func160.trans (congrArg some (by kernel_rfl))
 t0:=Tryz.underlying0
 a0:=Tryz.isAgg0
 z0:=Tryz.sizeOf0
 v0:=Tryz.zeroValue0
 t3:=Tryz.underlying3
 a3:=Tryz.isAgg3
 z3:=Tryz.sizeOf3
 v3:=Tryz.zeroValue3
 t4:=Tryz.underlying4
 a4:=Tryz.isAgg4
 z4:=Tryz.sizeOf4
 v4:=Tryz.zeroValue4
 t9:=Tryz.underlying9
 a9:=Tryz.isAgg9
 z9:=Tryz.sizeOf9
 v9:=Tryz.zeroValue9
 t31:=Tryz.underlying22
 a31:=Tryz.isAgg22
 z31:=Tryz.sizeOf22
 v31:=Tryz.zeroValue22 }
def Tryz.laysSortS_ren:Go.Shelf.Ren:=⟨fun | 190=>159 | 125=>240 | 258=>239 | 128=>298 | 129=>299 | 302=>289 | 303=>290 | 304=>291 | 305=>292 | 306=>293 | 307=>294 | 308=>295 | 309=>296 | 310=>297 | 333=>332 | 329=>333 | 330=>334 | 334=>335 | 335=>336 | 336=>337 | 344=>362 | n=>n,fun | 31=>22 | 9=>9 | 3=>3 | 46=>231 | 0=>0 | 51=>299 | 53=>301 | 4=>4 | 183=>293 | 182=>292 | 131=>90 | 5=>5 | 218=>330 | 222=>135 | 228=>351 | 229=>302 | n=>n,fun | n=>n⟩
theorem Tryz.laysSortS:Go.Proofs.Lays.n190 Tryz.prog Tryz.laysSortS_ren:={
 mixed:=by kernel_rfl
 f125:=Tryz.func240.trans (congrArg some (by kernel_rfl))
 f128:=Tryz.func298.trans (congrArg some (by kernel_rfl))
 f129:=Tryz.func299.trans (congrArg some (by kernel_rfl))
 f190:=Tryz.func159.trans (congrArg some (by kernel_rfl))
 f258:=Tryz.func239.trans (congrArg some (by kernel_rfl))
 f302:=Tryz.func289.trans (congrArg some (by kernel_rfl))
 f303:=Tryz.func290.trans (congrArg some (by kernel_rfl))
 f304:=Tryz.func291.trans (congrArg some (by kernel_rfl))
 f305:=Tryz.func292.trans (congrArg some (by kernel_rfl))
 f306:=Tryz.func293.trans (congrArg some (by kernel_rfl))
 f307:=Tryz.func294.trans (congrArg some (by kernel_rfl))
 f308:=Tryz.func295.trans (congrArg some (by kernel_rfl))
 f309:=Tryz.func296.trans (congrArg some (by kernel_rfl))
 f310:=Tryz.func297.trans (congrArg some (by kernel_rfl))
 f329:=Tryz.func333.trans (congrArg some (by kernel_rfl))
 f330:=Tryz.func334.trans (congrArg some (by kernel_rfl))
 f333:=Tryz.func332.trans (congrArg some (by kernel_rfl))
 f334:=Tryz.func335.trans (congrArg some (by kernel_rfl))
 f335:=Tryz.func336.trans (congrArg some (by kernel_rfl))
 f336:=Tryz.func337.trans (congrArg some (by kernel_rfl))
 f344:=Tryz.func362.trans (congrArg some (by kernel_rfl))
 t0:=Tryz.underlying0
 a0:=Tryz.isAgg0
 z0:=Tryz.sizeOf0
 v0:=Tryz.zeroValue0
 t3:=Tryz.underlying3
 a3:=Tryz.isAgg3
 z3:=Tryz.sizeOf3
 v3:=Tryz.zeroValue3
 t4:=Tryz.underlying4
 a4:=Tryz.isAgg4
 z4:=Tryz.sizeOf4
 v4:=Tryz.zeroValue4
 t5:=Tryz.underlying5
 a5:=Tryz.isAgg5
 z5:=Tryz.sizeOf5
 v5:=Tryz.zeroValue5
 t9:=Tryz.underlying9
 a9:=Tryz.isAgg9
 z9:=Tryz.sizeOf9
 v9:=Tryz.zeroValue9
 t31:=Tryz.underlying22
 a31:=Tryz.isAgg22
 z31:=Tryz.sizeOf22
 v31:=Tryz.zeroValue22
 t46:=Tryz.underlying231
 a46:=Tryz.isAgg231
 z46:=Tryz.sizeOf231
 v46:=Tryz.zeroValue231
 t51:=Tryz.underlying299
 a51:=Tryz.isAgg299
 z51:=Tryz.sizeOf299
 v51:=Tryz.zeroValue299
 t53:=Tryz.underlying301
 a53:=Tryz.isAgg301
 z53:=Tryz.sizeOf301
 v53:=Tryz.zeroValue301
 t131:=Tryz.underlying90
 a131:=Tryz.isAgg90
 z131:=Tryz.sizeOf90
 v131:=Tryz.zeroValue90
 t182:=Tryz.underlying292
 a182:=Tryz.isAgg292
 z182:=Tryz.sizeOf292
 v182:=Tryz.zeroValue292
 t183:=Tryz.underlying293
 a183:=Tryz.isAgg293
 z183:=Tryz.sizeOf293
 v183:=Tryz.zeroValue293
 t218:=Tryz.underlying330
 a218:=Tryz.isAgg330
 z218:=Tryz.sizeOf330
 v218:=Tryz.zeroValue330
 t222:=Tryz.underlying135
 a222:=Tryz.isAgg135
 z222:=Tryz.sizeOf135
 v222:=Tryz.zeroValue135
 t228:=Tryz.underlying351
 a228:=Tryz.isAgg351
 z228:=Tryz.sizeOf351
 v228:=Tryz.zeroValue351
 t229:=Tryz.underlying302
 a229:=Tryz.isAgg302
 z229:=Tryz.sizeOf302
 v229:=Tryz.zeroValue302 }
end Go.Proofs
namespace Go.Proofs
open Go.Shelf Go.RowKit Go.Lib Go
variable {P:Program} {ρ:Ren}
abbrev stops:ByteArray:=⟨#[46,91,63]⟩
theorem ZD:∀ (i:Nat) (h:i<stops.size),(stops[i]'h).toNat<128∧((stops[i]'h).toNat:Int)≠65533:=by decide
theorem Ziv (n:Nat):128≤(UInt8.ofNat (128+n % 64)).toNat:=by rw [UInt8.toNat_ofNat'];omega
theorem Zcu (r:Int) (h0:128≤r):(∃ a b,Utf8.encode r=⟨#[a,b]⟩∧128≤b.toNat)∨(∃ a b c,Utf8.encode r=⟨#[a,b,c]⟩∧128≤c.toNat)∨∃ a b c d,Utf8.encode r=⟨#[a,b,c,d]⟩:=by
 obtain ⟨c,hc,he⟩:∃ c:Nat,128≤c∧(if Utf8.valid r=true then r.toNat else Utf8.runeError)=c:=by
  by_cases h:Utf8.valid r=true
  ·exact ⟨r.toNat,by omega,by rw [Ai h]⟩
  ·exact ⟨Utf8.runeError,by decide,by rw [Aj h]⟩
 unfold Utf8.encode
 simp only [he]
 rw [Aa]
 by_cases h1:c<2048
 ·rw [Ai h1];exact .inl ⟨_,_,rfl,Ziv _⟩
 rw [Aj h1]
 by_cases h2:c<65536
 ·rw [Ai h2];exact .inr (.inl ⟨_,_,_,rfl,Ziv _⟩)
 ·rw [Aj h2];exact .inr (.inr ⟨_,_,_,_,rfl⟩)
set_option maxRecDepth 1000000 in
theorem Zbc (L:Lays.n152 P ρ) (w:World) :
  Calls P (ρ.f 152) #[.string stops,.int .i32 65533] w fun e w'=>e = .returned (.int .i64 (-1))∧∃ pos,w'=w.iter stops pos:=by
 have t3:=L.t3;have a3:=L.a3;have z3:=L.z3;have v3:=L.v3
 have t4:=L.t4;have a4:=L.a4;have z4:=L.z4;have v4:=L.v4
 have t5:=L.t5;have a5:=L.a5;have z5:=L.z5;have v5:=L.v5
 have t9:=L.t9;have a9:=L.a9;have z9:=L.z9;have v9:=L.v9
 have t21:=L.t21;have a21:=L.a21;have z21:=L.z21;have v21:=L.v21
 go_enter L.f152,Body.n152_ntmps ρ
 go_wp2
 go_loopg [5,6] 3 (fun g _ _ wx=>∃ i:Nat,i+g=3∧wx=w.iter stops i)
 case atStart=>exact ⟨0,by omega,rfl⟩
 case round =>
  obtain ⟨i,hig,rfl⟩:=hrel
  cases gk with
  | zero =>
   obtain rfl:i=3:=by omega
   have hnx:=run_next_end (P:=P) w stops 3
   go_wp2
   go_ret
   exact ⟨rfl,_,rfl⟩
  | succ g =>
   have hi:i<stops.size:=by show i<3;omega
   obtain ⟨x,hx⟩:∃ x:UInt8,stops[i]'hi=x:=⟨_,rfl⟩
   obtain ⟨hx128,hxn⟩:=ZD i hi
   have hnx:=fun ty=>run_next_ascii (P:=P) w stops i ty hi hx128
   rw [hx] at hnx hxn
   have hb:((x.toNat:Int) == 65533)=false:=beq_eq_false_iff_ne.2 hxn
   go_wp2
   go_roundg g
   case measure=>omega
   case rel=>exact ⟨i+1,by omega,rfl⟩
set_option maxRecDepth 1000000 in
theorem ZeC (L:Lays.n152 P ρ) (r:Int) (w:World) (h0:128≤r) (h1:r≠65533) (hv:Lib.validRune r=false) :
  Calls P (ρ.f 152) #[.string stops,.int .i32 r] w fun e w'=>e = .returned (.int .i64 (-1))∧Below w.heap.size w w':=by
 have t3:=L.t3;have a3:=L.a3;have z3:=L.z3;have v3:=L.v3
 have t4:=L.t4;have a4:=L.a4;have z4:=L.z4;have v4:=L.v4
 have t5:=L.t5;have a5:=L.a5;have z5:=L.z5;have v5:=L.v5
 have t9:=L.t9;have a9:=L.a9;have z9:=L.z9;have v9:=L.v9
 have t21:=L.t21;have a21:=L.a21;have z21:=L.z21;have v21:=L.v21
 have e119:∀ args w,(callFunc (ρ.f 119) args).run P w = .ok (.enter (ρ.f 119) args) w:=enters_of L.f119 (by kernel_rfl) rfl
 have hlt:¬ r<128:=by omega
 have hne:(r == 65533)=false:=beq_eq_false_iff_ne.2 h1
 go_enter L.f152,Body.n152_ntmps ρ
 go_wp2_with (go_at_fn (ρ.f 119);refine (Any.utf8_ValidRune { L with } _ _).mono ?_;rintro e w' ⟨rfl,hw⟩;rw [hw,hv])
 go_ret
 exact ⟨rfl,.refl _ _⟩
set_option maxRecDepth 1000000 in
theorem ZeJ (L:Lays.n152 P ρ) (r:Int) (w:World) (h0:128≤r) (h1:r≠65533) (hv:Lib.validRune r=true) (a b:UInt8) (he:Utf8.encode r=⟨#[a,b]⟩) (hb:128≤b.toNat) :
  Calls P (ρ.f 152) #[.string stops,.int .i32 r] w fun e w'=>e = .returned (.int .i64 (-1))∧Below w.heap.size w w':=by
 have mixed:=L.mixed
 have t3:=L.t3;have a3:=L.a3;have z3:=L.z3;have v3:=L.v3
 have t4:=L.t4;have a4:=L.a4;have z4:=L.z4;have v4:=L.v4
 have t5:=L.t5;have a5:=L.a5;have z5:=L.z5;have v5:=L.v5
 have t9:=L.t9;have a9:=L.a9;have z9:=L.z9;have v9:=L.v9
 have t21:=L.t21;have a21:=L.a21;have z21:=L.z21;have v21:=L.v21
 have e119:∀ args w,(callFunc (ρ.f 119) args).run P w = .ok (.enter (ρ.f 119) args) w:=enters_of L.f119 (by kernel_rfl) rfl
 have e137:∀ args w,(callFunc (ρ.f 137) args).run P w = .ok (.enter (ρ.f 137) args) w:=enters_of L.f137 (by kernel_rfl) rfl
 have hlt:¬ r<128:=by omega
 have hne:(r == 65533)=false:=beq_eq_false_iff_ne.2 h1
 have hbn:(((stops[1]'(by decide)).toNat:Int) != (((⟨#[a,b]⟩:ByteArray)[1]'(by simp [ByteArray.size])).toNat:Int))=true:=bne_iff_ne.2 (by show (91:Int)≠(b.toNat:Int);omega)
 have hsum:IntKind.i64.wrap (1+1)=2:=by decide
 have hx:Lib.indexByte (stops.extract 2 3).data.toList ((((⟨#[a,b]⟩:ByteArray)[1]'(by simp [ByteArray.size])).toNat:Int)).toNat.toUInt8 = -1:=by
  show Lib.indexByte [63] (b.toNat:Int).toNat.toUInt8 = -1
  have e:(b.toNat:Int).toNat.toUInt8=b:=by simp
  rw [e]
  have hn:((63:UInt8) == b)=false:=beq_eq_false_iff_ne.2 (fun q=>by rw [←q] at hb;exact absurd hb (by decide))
  simp [Lib.indexByte,hn]
 go_enter L.f152,Body.n152_ntmps ρ
 go_wp2_with (first
  | (go_at_fn (ρ.f 119);refine (Any.utf8_ValidRune { L with } _ _).mono ?_;rintro e w' ⟨rfl,hw⟩;rw [hw,hv])
  | (go_at_fn (ρ.f 137);refine (Any.strings_IndexByte { L with } _ _ _).mono ?_;rintro e w' ⟨rfl,hw⟩;rw [hw]))
 go_step3
 go_wp2
 go_loopg [9] 1 (fun g s9 wx=>s9 = .int .i64 1∧wx=w)
 case atStart=>exact ⟨rfl,rfl⟩
 case round =>
  obtain ⟨rfl,rfl⟩:=hrel
  go_wp2
  go_step3
  go_wp2
  refine wp_region_quiet_lit mixed (by kernel_rfl) ?_
  repeat (first | go_big_quiet_step (fail) | quiet_step (fail))
  refine wpQuiet_nil ?_
  intro _ hw'
  obtain ⟨nq,hw''⟩:=hw'
  subst hw''
  go_wp2
  refine wp_region_quiet_lit mixed (by kernel_rfl) ?_
  repeat (first | go_big_quiet_step (fail) | quiet_step (fail))
  refine wpQuiet_step (fun K hK=>?_)
  go_simp
  refine ⟨_,fun q=>((Any.strings_IndexByte { L with } _ _ _).mono fun e w' h=>⟨h.1,q,h.2⟩),hK _ ?_⟩
  clear hK K
  repeat (first | go_big_quiet_step (fail) | quiet_step (fail))
  refine wpQuiet_nil ?_
  intro _ hw'
  obtain ⟨nq2,hw''⟩:=hw'
  subst hw''
  rw [hx]
  go_wp2
  go_simp
  try rw [Exit.noGoto_ret]
  go_ret
  exact ⟨rfl,⟨rfl,rfl,rfl,Nat.le_refl _,fun _ _=>rfl⟩⟩
set_option maxRecDepth 1000000 in
theorem Za5 (L:Lays.n152 P ρ) (r:Int) (w:World) (h0:128≤r) (h1:r≠65533) (hv:Lib.validRune r=true) (a b c:UInt8) (he:Utf8.encode r=⟨#[a,b,c]⟩) (hb:128≤c.toNat) :
  Calls P (ρ.f 152) #[.string stops,.int .i32 r] w fun e w'=>e = .returned (.int .i64 (-1))∧Below w.heap.size w w':=by
 have mixed:=L.mixed
 have t3:=L.t3;have a3:=L.a3;have z3:=L.z3;have v3:=L.v3
 have t4:=L.t4;have a4:=L.a4;have z4:=L.z4;have v4:=L.v4
 have t5:=L.t5;have a5:=L.a5;have z5:=L.z5;have v5:=L.v5
 have t9:=L.t9;have a9:=L.a9;have z9:=L.z9;have v9:=L.v9
 have t21:=L.t21;have a21:=L.a21;have z21:=L.z21;have v21:=L.v21
 have e119:∀ args w,(callFunc (ρ.f 119) args).run P w = .ok (.enter (ρ.f 119) args) w:=enters_of L.f119 (by kernel_rfl) rfl
 have e137:∀ args w,(callFunc (ρ.f 137) args).run P w = .ok (.enter (ρ.f 137) args) w:=enters_of L.f137 (by kernel_rfl) rfl
 have hlt:¬ r<128:=by omega
 have hne:(r == 65533)=false:=beq_eq_false_iff_ne.2 h1
 have hbn:(((stops[2]'(by decide)).toNat:Int) != (((⟨#[a,b,c]⟩:ByteArray)[2]'(by simp [ByteArray.size])).toNat:Int))=true:=bne_iff_ne.2 (by show (63:Int)≠(c.toNat:Int);omega)
 have hsum:IntKind.i64.wrap (2+1)=3:=by decide
 have hx:Lib.indexByte ByteArray.empty.data.toList ((((⟨#[a,b,c]⟩:ByteArray)[2]'(by simp [ByteArray.size])).toNat:Int)).toNat.toUInt8 = -1:=by
  show Lib.indexByte [] (c.toNat:Int).toNat.toUInt8 = -1
  have e:(c.toNat:Int).toNat.toUInt8=c:=by simp
  rw [e]
  rfl
 go_enter L.f152,Body.n152_ntmps ρ
 go_wp2_with (first
  | (go_at_fn (ρ.f 119);refine (Any.utf8_ValidRune { L with } _ _).mono ?_;rintro e w' ⟨rfl,hw⟩;rw [hw,hv])
  | (go_at_fn (ρ.f 137);refine (Any.strings_IndexByte { L with } _ _ _).mono ?_;rintro e w' ⟨rfl,hw⟩;rw [hw]))
 go_step3
 go_wp2
 go_loopg [9] 1 (fun g s9 wx=>s9 = .int .i64 2∧wx=w)
 case atStart=>exact ⟨rfl,rfl⟩
 case round =>
  obtain ⟨rfl,rfl⟩:=hrel
  go_wp2
  go_step3
  go_wp2
  refine wp_region_quiet_lit mixed (by kernel_rfl) ?_
  repeat (first | go_big_quiet_step (fail) | quiet_step (fail))
  refine wpQuiet_nil ?_
  intro _ hw'
  obtain ⟨nq,hw''⟩:=hw'
  subst hw''
  go_wp2
  refine wp_region_quiet_lit mixed (by kernel_rfl) ?_
  repeat (first | go_big_quiet_step (fail) | quiet_step (fail))
  refine wpQuiet_step (fun K hK=>?_)
  go_simp
  refine ⟨_,fun q=>((Any.strings_IndexByte { L with } _ _ _).mono fun e w' h=>⟨h.1,q,h.2⟩),hK _ ?_⟩
  clear hK K
  repeat (first | go_big_quiet_step (fail) | quiet_step (fail))
  refine wpQuiet_nil ?_
  intro _ hw'
  obtain ⟨nq2,hw''⟩:=hw'
  subst hw''
  rw [hx]
  go_wp2
  go_simp
  try rw [Exit.noGoto_ret]
  go_ret
  exact ⟨rfl,⟨rfl,rfl,rfl,Nat.le_refl _,fun _ _=>rfl⟩⟩
set_option maxRecDepth 1000000 in
theorem ZcC (L:Lays.n152 P ρ) (r:Int) (w:World) (h0:128≤r) (h1:r≠65533) (hv:Lib.validRune r=true) (a b c d:UInt8) (he:Utf8.encode r=⟨#[a,b,c,d]⟩) :
  Calls P (ρ.f 152) #[.string stops,.int .i32 r] w fun e w'=>e = .returned (.int .i64 (-1))∧Below w.heap.size w w':=by
 have mixed:=L.mixed
 have t3:=L.t3;have a3:=L.a3;have z3:=L.z3;have v3:=L.v3
 have t4:=L.t4;have a4:=L.a4;have z4:=L.z4;have v4:=L.v4
 have t5:=L.t5;have a5:=L.a5;have z5:=L.z5;have v5:=L.v5
 have t9:=L.t9;have a9:=L.a9;have z9:=L.z9;have v9:=L.v9
 have t21:=L.t21;have a21:=L.a21;have z21:=L.z21;have v21:=L.v21
 have e119:∀ args w,(callFunc (ρ.f 119) args).run P w = .ok (.enter (ρ.f 119) args) w:=enters_of L.f119 (by kernel_rfl) rfl
 have e137:∀ args w,(callFunc (ρ.f 137) args).run P w = .ok (.enter (ρ.f 137) args) w:=enters_of L.f137 (by kernel_rfl) rfl
 have hlt:¬ r<128:=by omega
 have hne:(r == 65533)=false:=beq_eq_false_iff_ne.2 h1
 go_enter L.f152,Body.n152_ntmps ρ
 go_wp2_with (first
  | (go_at_fn (ρ.f 119);refine (Any.utf8_ValidRune { L with } _ _).mono ?_;rintro e w' ⟨rfl,hw⟩;rw [hw,hv])
  | (go_at_fn (ρ.f 137);refine (Any.strings_IndexByte { L with } _ _ _).mono ?_;rintro e w' ⟨rfl,hw⟩;rw [hw]))
 go_step3
 go_wp2
 go_loopg [9] 1 (fun g s9 wx=>s9 = .int .i64 3∧wx=w)
 case atStart=>exact ⟨rfl,rfl⟩
 case round =>
  obtain ⟨rfl,rfl⟩:=hrel
  go_wp2
  go_simp
  try rw [Exit.noGoto_ret]
  go_ret
  exact ⟨rfl,.refl _ _⟩
theorem Zex (L:Lays.n152 P ρ) (r:Int) (w:World) (h0:128≤r) :
  Calls P (ρ.f 152) #[.string stops,.int .i32 r] w fun e w'=>e = .returned (.int .i64 (-1))∧Below w.heap.size w w':=by
 by_cases h1:r=65533
 ·subst h1
  refine (Zbc L w).mono ?_
  rintro e w' ⟨h,g,rfl⟩
  exact ⟨h,(Below.refl _ _).alloc (Nat.le_refl _) _⟩
 cases hv:Lib.validRune r with
 | false=>exact ZeC L r w h0 h1 hv
 | true =>
  rcases Zcu r h0 with ⟨a,b,he,hb⟩ | ⟨a,b,c,he,hb⟩ | ⟨a,b,c,d,he⟩
  ·exact ZeJ L r w h0 h1 hv a b he hb
  ·exact Za5 L r w h0 h1 hv a b c he hb
  ·exact ZcC L r w h0 h1 hv a b c d he
theorem get!_at (s:ByteArray) (k:Nat) (h:k<s.size):s.data.toList[k]? = some (s.get! k):=by
 rw [Lib.data_getElem? s k h]
 congr 1
 exact (get_at s k h).symm
theorem Zes (s : ByteArray) (pos : Nat) (h : pos < s.size) (ha : 128 ≤ (s[pos]'h).toNat) : pos + (Utf8.decode s pos).2 ≤ s.size ∧ ∀ j, pos ≤ j → j < pos + (Utf8.decode s pos).2 → 128 ≤ (s.get! j).toNat := by
  have h0 : 128 ≤ (s.get! (pos + 0)).toNat := by rw [get_at s pos h]; exact ha
  have fin : ∀ n, (∀ k, k < n → pos + k < s.size ∧ 128 ≤ (s.get! (pos + k)).toNat) → 0 < n → pos + n ≤ s.size ∧ ∀ j, pos ≤ j → j < pos + n → 128 ≤ (s.get! j).toNat := fun n hn h1 =>
    ⟨by have := (hn (n - 1) (by omega)).1; omega, fun j hj hj2 => by have := (hn (j - pos) (by omega)).2; rwa [Nat.add_sub_cancel' hj] at this⟩
  have cont : ∀ k, (decide (pos + k < s.size) && (s.get! (pos + k)).toNat / 64 == 2) = true → pos + k < s.size ∧ 128 ≤ (s.get! (pos + k)).toNat := fun k q => by
    rw [Bool.and_eq_true, decide_eq_true_eq, beq_iff_eq] at q; exact ⟨q.1, by omega⟩
  have z : pos + 0 < s.size ∧ 128 ≤ (s.get! (pos + 0)).toNat := ⟨h, h0⟩
  have one : ∀ c : Nat, pos + (c, 1).2 ≤ s.size ∧ ∀ j, pos ≤ j → j < pos + (c, 1).2 → 128 ≤ (s.get! j).toNat := fun _ => fin 1 (fun k hk => by obtain rfl : k = 0 := by omega
                                                                                                                                               exact z) (by omega)
  unfold Utf8.decode
  simp only
  rw [Aa]
  split
  · rename_i q
    rw [Bool.and_eq_true] at q
    split
    · exact fin 2 (fun k hk => by
        rcases (by omega : k = 0 ∨ k = 1) with rfl | rfl
        · exact z
        · exact cont 1 q.2) (by omega)
    · exact one _
  · split
    · rename_i q
      rw [Bool.and_eq_true, Bool.and_eq_true] at q
      split
      · exact fin 3 (fun k hk => by
          rcases (by omega : k = 0 ∨ k = 1 ∨ k = 2) with rfl | rfl | rfl
          · exact z
          · exact cont 1 q.1.2
          · exact cont 2 q.2) (by omega)
      · exact one _
    · split
      · rename_i q
        rw [Bool.and_eq_true, Bool.and_eq_true, Bool.and_eq_true] at q
        split
        · exact fin 4 (fun k hk => by
            rcases (by omega : k = 0 ∨ k = 1 ∨ k = 2 ∨ k = 3) with rfl | rfl | rfl | rfl
            · exact z
            · exact cont 1 q.1.1.2
            · exact cont 2 q.1.2
            · exact cont 3 q.2) (by omega)
        · exact one _
      · exact one _
theorem Zai (b:UInt8) (h:128≤b.toNat):stops.data.toList.contains b=false:=by
 show ([46,91,63]:List UInt8).contains b=false
 simp
 refine ⟨?_,?_,?_⟩<;>(rintro rfl;exact absurd h (by decide))
set_option maxRecDepth 1000000 in
theorem Zcz (L:Lays.n153 P ρ) (s:ByteArray) (w:World) (h8:s.size≤8) :
  Calls P (ρ.f 153) #[.string s,.string stops] w fun e w'=>e = .returned (.int .i64 (Lib.indexAny s.data.toList stops.data.toList))∧Below w.heap.size w w':=by
 have hemp:stops.toList.isEmpty=false:=by rw [Lib.toList_data];rfl
 have hn1:((stops.size:Int) == 1)=false:=by decide
 have h8z:decide ((8:Int)<(s.size:Int))=false:=Ag (by omega)
 have t3:=L.t3;have a3:=L.a3;have z3:=L.z3;have v3:=L.v3
 have t4:=L.t4;have a4:=L.a4;have z4:=L.z4;have v4:=L.v4
 have t5:=L.t5;have a5:=L.a5;have z5:=L.z5;have v5:=L.v5
 have t9:=L.t9;have a9:=L.a9;have z9:=L.z9;have v9:=L.v9
 have t21:=L.t21;have a21:=L.a21;have z21:=L.z21;have v21:=L.v21
 have e152:∀ args w,(callFunc (ρ.f 152) args).run P w = .ok (.enter (ρ.f 152) args) w:=enters_of L.f152 (by kernel_rfl) rfl
 have e226:∀ args w,(callFunc (ρ.f 226) args).run P w = .ok (.enter (ρ.f 226) args) w:=enters_of L.f226 (by kernel_rfl) rfl
 go_enter L.f153,Body.n153_ntmps ρ
 go_wp2_with (go_at_fn (ρ.f 226);refine (Any.strings_shouldUseASCIISet { L with } _ _).mono ?_;rintro e w' ⟨rfl,hw⟩;rw [hw,h8z])
 go_loopg [9,10] s.size (fun g _ _ wr=>∃ pos:Nat,pos+g=s.size∧wr.heap[w.heap.size]? = some (.stringIter s pos)∧Below w.heap.size w wr∧Lib.NoAny s.data.toList stops.data.toList pos)
 case atStart=>exact ⟨0,by omega,World.iter_heap w s 0,(Below.refl _ _).alloc (Nat.le_refl _) _,Lib.NoAny.zero _ _⟩
 case round =>
  obtain ⟨i,hig,hit,hbw,hno⟩:=hrel
  have HN:Aside (Lib.NoAny s.data.toList stops.data.toList i):=hno
  clear hno
  by_cases hp:i<s.size
  ·have hnx:=fun ty=>Lib.run_next_any_at (P:=P) wr w.heap.size s i ty hit hp
   have hit2:=Lib.iterAt_heap wr w.heap.size s i (i+(Utf8.decode s i).2) hit
   have hbw2:=Lib.below_iterAt hbw (k:=w.heap.size) (Nat.le_refl _) s (i+(Utf8.decode s i).2)
   obtain ⟨W1,hW1⟩:∃ W1,W1=wr.iterAt w.heap.size s (i+(Utf8.decode s i).2):=⟨_,rfl⟩
   rw [←hW1] at hnx hit2 hbw2
   have hlt1:w.heap.size<W1.heap.size:=(Array.getElem?_eq_some_iff.1 hit2).1
   clear hW1
   obtain ⟨x,hx⟩:∃ x:UInt8,s[i]'hp=x:=⟨_,rfl⟩
   have hxl:s.data.toList[i]? = some x:=by rw [←hx];exact Lib.data_getElem? s i hp
   by_cases hxa:x.toNat<128
   ·have hdec:Utf8.decode s i=(x.toNat,1):=by rw [←hx];exact decode_ascii s i hp (by rw [hx];exact hxa)
    rw [hdec] at hnx hit2
    have Hx:Aside (s.data.toList[i]? = some x):=hxl
    clear hxl hx hdec
    have hcon:=Lib.contains_iff_indexByte stops.data.toList x
    have hback:(x.toNat:Int).toNat.toUInt8=x:=by simp
    cases hin:stops.data.toList.contains x
    ·rw [hin] at hcon
     have hlt:¬ ((0:Int)≤Lib.indexByte stops.data.toList x):=of_decide_eq_false hcon.symm
     clear hcon
     go_wp2_with (go_at_fn (ρ.f 152);refine (Any.strings_IndexRune_ascii { L with } _ _ _ (by omega) (by omega)).mono ?_;rintro e w' ⟨rfl,hw⟩;rw [hw,hback])
     go_roundg (s.size-(i+1))
     case measure=>omega
     case rel=>exact ⟨i+1,by omega,hit2,hbw2,HN.out.succ Hx.out hin⟩
    ·rw [hin] at hcon
     have hge:(0:Int)≤Lib.indexByte stops.data.toList x:=of_decide_eq_true hcon.symm
     clear hcon
     go_wp2_with (go_at_fn (ρ.f 152);refine (Any.strings_IndexRune_ascii { L with } _ _ _ (by omega) (by omega)).mono ?_;rintro e w' ⟨rfl,hw⟩;rw [hw,hback])
     go_ret
     exact ⟨by rw [Lib.indexAny_hit HN.out Hx.out hin];rfl,hbw2⟩
   ·have hxa':128≤(s[i]'hp).toNat:=by rw [hx];omega
    obtain ⟨d1,d2⟩:=decode_high s i hp hxa'
    obtain ⟨d3,d4⟩:=Zes s i hp hxa'
    have HD:Aside (Lib.NoAny s.data.toList stops.data.toList (i+(Utf8.decode s i).2)):=fun j b hj hb=>by
     by_cases c:j<i
     ·exact HN.out j b c hb
     ·have q:=d4 j (by omega) hj
      have hjs:j<s.size:=by omega
      rw [get!_at s j hjs] at hb
      cases hb
      exact Zai _ q
    generalize hdd:Utf8.decode s i=dd at *
    obtain ⟨r,k⟩:=dd
    simp only at d1 d2 d3 HD hnx hit2
    clear d4 hdd hxa' hxa hxl hx
    have hlt:¬ ((0:Int) ≤ -1):=by decide
    go_wp2_with (go_at_fn (ρ.f 152);refine (Zex { L with } _ _ (by omega)).mono ?_;rintro e w2 ⟨rfl,hb2⟩)
    go_roundg (s.size-(i+k))
    case measure=>omega
    case rel=>exact ⟨i+k,by omega,by rw [hb2.block w.heap.size hlt1];exact hit2,hbw2.trans ⟨hb2.os,hb2.tape,hb2.output,by have:=hb2.size;omega,fun j hj=>hb2.block j (by omega)⟩,HD.out⟩
  ·have hnx:=Lib.run_next_end_at (P:=P) wr w.heap.size s i
   have hnx:=fun ty=>hnx ty hit hp
   go_wp2
   go_ret
   exact ⟨by rw [Lib.indexAny_none (by rw [←Lib.size_eq];exact fun j b hj=>HN.out j b (by omega))];rfl,hbw⟩
end Go.Proofs
namespace Go.Proofs.YtmcnjijeocmkgaaGreatDoor
open Go Go.RowKit Go.Ev
abbrev Jh (w0:World):Prop:=∃ m,w0.cell? ⟨1,0,none⟩=some (.int .i64 m)
abbrev Jl (w0:World):Prop:=(∃ ev,w0.cell? ⟨5,0,none⟩=some ev∧(ev = .nilIface∨∃ te pe,ev = .iface te pe))∧∃ ev,w0.cell? ⟨6,0,none⟩=some ev∧(ev = .nilIface∨∃ te pe,ev = .iface te pe)
theorem ZcZ:∀ (j:Nat) (b:UInt8),stops.data.toList[j]? = some b→b.toNat<128:=fun j b h=>by
 have a:b∈([46,91,63]:List UInt8):=List.mem_of_getElem? h
 simp only [List.mem_cons,List.not_mem_nil,or_false] at a
 rcases a with rfl | rfl | rfl<;>decide
theorem LM {w0 w:World} {p:Addr} {v:Value} (h:w0.cell? p=some v) (hb:Below w0.heap.size w0 w):w.cell? p=some v:=by
 rw [hb.cell (World.block_lt_of_cell? w0 _ h)];exact h
def ZE (s:ByteArray):Int:=Lib.indexAny s.data.toList [46,91,63]
def Yb (s p:ByteArray):Bool:=Lib.hasPrefix s.data.toList p.data.toList
def P5 (s p:ByteArray):ByteArray:=⟨(Lib.cut s.data.toList p.data.toList).1.toArray⟩
def Zbp (s p:ByteArray):ByteArray:=⟨(Lib.cut s.data.toList p.data.toList).2.1.toArray⟩
def ZhQ (s p:ByteArray):Bool:=(Lib.cut s.data.toList p.data.toList).2.2
def Jw (s:ByteArray):Int:=match Lib.atoiAll s.data.toList with
 | .ok v=>v
 | .range=>Lib.atoiSat s.data.toList
 | _=>0
def TD (s:ByteArray):Bool:=match Lib.atoiAll s.data.toList with
 | .ok _=>true
 | _=>false
section
variable (w0:World) (B:As) (Rw:Ax) (L:Aw)
theorem Wl (s c:ByteArray) (h:s.size≤4294967280∧c=stops) :
  ACalls Tryz.prog w0 235 [.val (.string s),.val (.string c)] ⟨B,Rw,L⟩ fun v s'=>v=Am (ZE s)∧s'=⟨B,Rw,L⟩ :=
 Js (A7 Tryz.func235 rfl (by decide)) rfl fun M w b j a=>by
  obtain ⟨h,rfl⟩:=h
  have:=Lu (us:=[.string s,.string stops]) a
  subst this
  by_cases h8:s.size≤8
  ·exact Zcz Tryz.lays153 s w h8
  ·refine (Tryz.strings_IndexAny_long (zero_of_info (show (Tryz.prog.info? 286).map (fun i=>(i.zero,i.size))=some (some (.agg (Array.replicate 256 (.bool false))),256) by kernel_rfl)).1 s stops w (by decide) (by omega) (by omega) (by decide) ZcZ).mono fun e g ⟨d,f⟩=>⟨d,?_⟩
   rw [f]
   exact ((Below.refl _ _).alloc (Nat.le_refl _) _).alloc (by simp) _
theorem UQ (s p:ByteArray) :
  ACalls Tryz.prog w0 236 [.val (.string s),.val (.string p)] ⟨B,Rw,L⟩ fun v s'=>v = .val (.bool (Yb s p))∧s'=⟨B,Rw,L⟩ :=
 Js (A7 Tryz.func236 rfl (by decide)) rfl fun M w b g a=>by
  have:=Lu (us:=[.string s,.string p]) a
  subst this
  exact (Tryz.strings_HasPrefix s p w).mono fun e f ⟨c,d⟩=>⟨c,d▸Below.refl _ _⟩
theorem ZV (s p:ByteArray):(P5 s p).size≤s.size∧(Zbp s p).size≤s.size:=by
 have e:s.data.toList.length=s.size:=by simp
 unfold P5 Zbp Lib.cut
 split
 ·refine ⟨?_,?_⟩
  ·show ((s.data.toList.take _).toArray).size≤_
   rw [List.size_toArray,List.length_take];omega
  ·show ((s.data.toList.drop _).toArray).size≤_
   rw [List.size_toArray,List.length_drop];omega
 ·refine ⟨?_,?_⟩
  ·show (s.data.toList.toArray).size≤_
   rw [List.size_toArray];omega
  ·exact Nat.zero_le _
theorem Zec (hM:Jh w0) (s p:ByteArray) (h:s.size≤4294967280) :
  ACalls Tryz.prog w0 237 [.val (.string s),.val (.string p)] ⟨B,Rw,L⟩ fun v s'=>v = .tup [.val (.string (P5 s p)),.val (.string (Zbp s p)),.val (.bool (ZhQ s p))]∧s'=⟨B,Rw,L⟩ :=
 Sl (rs:=[.string (P5 s p),.string (Zbp s p),.bool (ZhQ s p)]) (A7 Tryz.func237 rfl (by decide)) (by
  obtain ⟨g,l⟩:=ZV s p
  have k:∀ x:ByteArray,x.size≤s.size→G8 (.string x)=true:=fun x o=>Ah (by unfold maxLen;omega)
  intro r c
  simp only [List.mem_cons,List.not_mem_nil,or_false] at c
  rcases c with rfl | rfl | rfl
  ·exact k _ g
  ·exact k _ l
  ·rfl) fun M w b i a=>by
  have:=Lu (us:=[.string s,.string p]) a
  subst this
  obtain ⟨m,d⟩:=hM
  exact (Tryz.strings_Cut s p m w (by omega) (LM d i)).mono fun e q ⟨f,n,j⟩=>⟨f,j▸(⟨rfl,rfl,rfl,Nat.le_refl _,fun _ _=>rfl⟩:Below w.heap.size w (w.drewN n))⟩
theorem ZcA (s:ByteArray):Bj (Jw s):=by
 unfold Jw Bj
 cases h:Lib.atoiAll s.data.toList with
 | ok v=>have:=Lib.atoiAll_bounds h;simp only;omega
 | range=>have:=Lib.atoiSat_bounds s.data.toList;simp only;omega
 | _=>simp only;omega
theorem ZcM (hE:Jl w0) (s:ByteArray) (h:s.size≤4294967280) :
  ACalls Tryz.prog w0 238 [.val (.string s)] ⟨B,Rw,L⟩ fun v s'=>(∃ e,v = .tup [Am (Jw s),.val e]∧Hl e=TD s∧Rr e=true)∧s'=⟨B,Rw,L⟩:=by
 refine ⟨A7 Tryz.func238 rfl (by decide),fun M w j d g=>?_⟩
 have:=Lu (us:=[.string s]) g
 subst this
 obtain ⟨⟨m,r,k⟩,q,u,x⟩:=hE
 have fin:∀ (e:Value),Hl e=TD s→Rr e=true→G8 e=true→∀ c,Below w.heap.size w c→Comes' w0 M w (fun v s'=>(∃ e,v = .tup [Am (Jw s),.val e]∧Hl e=TD s∧Rr e=true)∧s'=⟨B,Rw,L⟩) (.returned (.tuple #[.int .i64 (Jw s),e])) c:=by
  intro e q1 q2 q3 c f
  obtain ⟨n,p⟩:=d.later f w.heap.size 0 (Nat.le_refl _) (.inr rfl)
  refine ⟨_,_,.tup [Am (Jw s),.val e],_,rfl,⟨⟨e,rfl,q1,q2⟩,rfl⟩,p,n,.tup rfl fun i a b=>?_⟩
  have o:i=0∨i=1:=by simp at a;omega
  rcases o with rfl | rfl
  ·exact .flat rfl
  ·exact .flat q3
 cases hc:Lib.atoiAll s.data.toList with
 | ok v =>
  refine (Any.strconv_Atoi_ok Tryz.laysAtoi s (by omega) v hc w).mono ?_
  rintro en c ⟨rfl,l⟩
  have hv:Jw s=v:=by unfold Jw;rw [hc]
  rw [←hv]
  refine fin .nilIface (by unfold TD;rw [hc];rfl) rfl rfl c ?_
  rcases l with rfl | ⟨t,rfl⟩
  ·exact .refl _ _
  ·exact Lib.bytesWorld_below _ _ _
 | range =>
  refine (Any.strconv_Atoi_range Tryz.laysAtoi s (by omega) hc q w (LM u d.below) x).mono ?_
  rintro en c ⟨N,rfl,_,_,f⟩
  have hv:Jw s=Lib.atoiSat s.data.toList:=by unfold Jw;rw [hc]
  rw [←hv]
  exact fin _ (by unfold TD;rw [hc];rfl) rfl rfl c f
 | _ =>
  refine (Any.strconv_Atoi_syntax Tryz.laysAtoi s (by omega) hc m w (LM r d.below) k).mono ?_
  rintro en c ⟨N,rfl,_,_,f⟩
  have hv:Jw s=0:=by unfold Jw;rw [hc]
  rw [←hv]
  exact fin _ (by unfold TD;rw [hc];rfl) rfl rfl c f
end
@[go_sem] theorem Zg2:XH Tryz.prog 248=true:=by kernel_rfl
def LP (g:Int) (b:ByteArray):Option Int :=
 if 0≤g∧g≤(b.size:Int)∧(b.size:Int)≤(b.size:Int) then
  if (b.extract g.toNat b.size).size≤4294967280∧(⟨#[46,91,63]⟩:ByteArray)=stops then
   if decide ((ZE (b.extract g.toNat b.size))<0) then
    some (b.size:Int)
   else
    if Bj (g+(ZE (b.extract g.toNat b.size))) then
     some (g+(ZE (b.extract g.toNat b.size)))
    else none
  else none
 else none
theorem Zt (w0:World) (B:As) (Rw:Ax) (L:Aw) (a0:Int) (la1:Nat) (a1:ByteArray) (hla1:B[la1]? = some ([.val (.string a1)])) (r:Int) (h:LP a0 a1=some r) :
  ACalls Tryz.prog w0 234 [Am a0,.box la1 0] ⟨B,Rw,L⟩ fun x st=>x=Am r∧st=⟨B,Rw,L⟩:=by
 rw [LP] at h
 refine hd [.tmp 3] Tryz.func234 Tryz.ntmps234 fun M0 W0 f e d b i g hs=>?_
 simp only [AB]
 have c:=(Ak.1 hla1).1
 have hs:=Ae (An hla1) hs
 exact go (tg (a:=([0,1],[0,1,4],[0,1,4,10],([3],()),[0,4],[3],()))) h hs f e d b g (q1 (Wl w0)) trivial
def O1 (b:ByteArray):Option (Part × ByteArray × Bool) :=
 (LP 1 b).bind fun g =>
 if Yb b ((⟨#[91,42,93]⟩:ByteArray)) then
  if 0≤3∧3≤(b.size:Int)∧(b.size:Int)≤(b.size:Int) then
   some ((Part.mk 3 0 (⟨#[]⟩:ByteArray),b.extract 3 b.size,true))
  else none
 else
  if 0≤0∧0<(b.size:Int) then
   if decide ((((b.get! 0).toNat:Int))=46) then
    if 0≤1∧1≤g∧g≤(b.size:Int) then
     if 0≤g∧g≤(b.size:Int)∧(b.size:Int)≤(b.size:Int) then
      some ((Part.mk 1 0 (b.extract 1 g.toNat),b.extract g.toNat b.size,true))
     else none
    else none
   else
    if 0≤0∧0<(b.size:Int) then
     if decide ((((b.get! 0).toNat:Int))=63) then
      if 0≤1∧1≤g∧g≤(b.size:Int) then
       if 0≤g∧g≤(b.size:Int)∧(b.size:Int)≤(b.size:Int) then
        some ((Part.mk 4 0 (b.extract 1 g.toNat),b.extract g.toNat b.size,true))
       else none
      else none
     else
      if 0≤1∧1≤(b.size:Int)∧(b.size:Int)≤(b.size:Int) then
       if (b.extract 1 b.size).size≤4294967280 then
        if (P5 (b.extract 1 b.size) ((⟨#[93]⟩:ByteArray))).size≤4294967280 then
         if 0≤0∧0<(b.size:Int) then
          if ((decide ((((b.get! 0).toNat:Int))=91))&&(ZhQ (b.extract 1 b.size) ((⟨#[93]⟩:ByteArray))))&&(TD (P5 (b.extract 1 b.size) ((⟨#[93]⟩:ByteArray)))) then
           if Bj (Jw (P5 (b.extract 1 b.size) ((⟨#[93]⟩:ByteArray)))) then
            some ((Part.mk 2 (Jw (P5 (b.extract 1 b.size) ((⟨#[93]⟩:ByteArray)))) (⟨#[]⟩:ByteArray),Zbp (b.extract 1 b.size) ((⟨#[93]⟩:ByteArray)),G5 ((⟨(Lib.itoa (Jw (P5 (b.extract 1 b.size) ((⟨#[93]⟩:ByteArray))))).toArray⟩:ByteArray)) (P5 (b.extract 1 b.size) ((⟨#[93]⟩:ByteArray)))))
           else none
          else
           some ((Part.mk 2 (Jw (P5 (b.extract 1 b.size) ((⟨#[93]⟩:ByteArray)))) (⟨#[]⟩:ByteArray),Zbp (b.extract 1 b.size) ((⟨#[93]⟩:ByteArray)),false))
         else none
        else none
       else none
      else none
    else none
  else none
theorem Zcr (w0:World) (hE:Jl w0) (hM:Jh w0) (hP:Pow10 w0) (B:As) (Rw:Ax) (L:Aw) (a0:ByteArray) (r:Part × ByteArray × Bool) (h:O1 a0=some r) :
  ACalls Tryz.prog w0 156 [.val (.string a0)] ⟨B,Rw,L⟩ fun x st=>x = .tup [.agg (Am r.1.kind::(Am r.1.index::([.val (.string r.1.name)]))),.val (.string r.2.1),.val (.bool r.2.2)]∧st=⟨B,Rw,L⟩:=by
 rw [O1] at h
 refine hd [.cell 2 146,.tmp 3,.tmp 4] Tryz.func156 Tryz.ntmps156 fun M0 W0 Q J N e U m hs=>?_
 simp only [AB]
 refine rg [1,2] hs ?_
 refine rg [1,2,5] hs ?_
 obtain ⟨O,w,h⟩:=bind_some h
 refine rc 2 [1,2,6] hs ?_;intro K3 p
 refine Az _ (Zt w0 _ _ _ 1 B.length a0 ev _ w) (hv hs) ?_
 refine ne hs p ?_
 clear p
 apply Ap;intro K5 o
 apply Au
 refine rc 2 [1,2,6,15] hs ?_;intro K6 n
 refine Az _ (UQ w0 _ _ _ a0 ((⟨#[91,42,93]⟩:ByteArray))) (hv hs) ?_
 refine ne hs n ?_
 clear n
 refine Cj h hs ?_ ?_<;>intro hs h
 ·have d:=hs.1
  apply Ap;intro K8 v
  obtain ⟨K,h⟩:=Av h
  apply Gt OJ [3] [2,3,4] kr (fun s=>∃ (X:As) (rows:Ax) (i:List AV),s=⟨B++([[.val (.string a0)],i]++X),rows,L⟩) 2 (B.length+2)
  ·simp +decide only [go_sem,Nat.reduceAdd]
  ·rintro s ⟨X,rows,i,rfl⟩
   refine ⟨1,?_⟩
   rw [Aq];simp +decide only [go_sem,Nat.reduceAdd,Dw,d]
   (repeat' apply Ae)<;>first | rfl | exact cl
  ·exact gd (tg (a:=(3,[2,3,4]))) hs
  simp +decide only [go_sem,Nat.reduceAdd,d]
  (repeat' apply Ae)<;>first | refine v _ _ ?_ | exact cl
  clear v
  exact rt h hs e m
 have d:=hs.1
 obtain ⟨G,h⟩:=Av h
 refine rg [1,2,6,21] hs ?_
 refine Cj h hs ?_ ?_<;>intro hs h
 ·have b:=hs.1
  apply Ap;intro K13 j
  obtain ⟨y,h⟩:=Av h
  obtain ⟨H,h⟩:=Av h
  apply Gt OJ [7] [2,3,4] kr (fun s=>∃ (X:As) (rows:Ax) (i:List AV),s=⟨B++([[.val (.string a0)],i]++X),rows,L⟩) 2 (B.length+2)
  ·simp +decide only [go_sem,Nat.reduceAdd]
  ·rintro s ⟨X,rows,i,rfl⟩
   refine ⟨1,?_⟩
   rw [Aq];simp +decide only [go_sem,Nat.reduceAdd,Dw,d,b]
   (repeat' apply Ae)<;>first | rfl | exact cl
  ·exact gd (tg (a:=(7,[2,3,4]))) hs
  simp +decide only [go_sem,Nat.reduceAdd,d,b]
  (repeat' apply Ae)<;>first | refine j _ _ ?_ | exact cl
  clear j
  exact rt h hs e m
 have b:=hs.1
 obtain ⟨F,h⟩:=Av h
 refine rg [1,2,6,32] hs ?_
 refine Cj h hs ?_ ?_<;>intro hs h
 ·have c:=hs.1
  apply Ap;intro K19 g
  obtain ⟨E,h⟩:=Av h
  obtain ⟨z,h⟩:=Av h
  apply Gt OJ [7] [2,3,4] kr (fun s=>∃ (X:As) (rows:Ax) (i:List AV),s=⟨B++([[.val (.string a0)],i]++X),rows,L⟩) 2 (B.length+2)
  ·simp +decide only [go_sem,Nat.reduceAdd]
  ·rintro s ⟨X,rows,i,rfl⟩
   refine ⟨1,?_⟩
   rw [Aq];simp +decide only [go_sem,Nat.reduceAdd,Dw,d,b,c]
   (repeat' apply Ae)<;>first | rfl | exact cl
  ·exact gd (tg (a:=(7,[2,3,4]))) hs
  simp +decide only [go_sem,Nat.reduceAdd,d,b,c]
  (repeat' apply Ae)<;>first | refine g _ _ ?_ | exact cl
  clear g
  exact rt h hs e m
 have c:=hs.1
 refine sk [1,2] hs o ?_
 clear o
 obtain ⟨C,h⟩:=Av h
 obtain ⟨u,h⟩:=Av h
 refine rc 2 [1,2,7,8,9] hs ?_;intro K22 l
 refine Az _ (Zec w0 _ _ _ hM (a0.extract 1 a0.size) ((⟨#[93]⟩:ByteArray)) u) (hv hs) ?_
 refine ne hs l ?_
 clear l
 apply Ap;intro K25 k
 obtain ⟨q,h⟩:=Av h
 apply Ar 2 [1,2,7,8,9,10,11]
 rw [Aq];simp +decide only [go_sem,Nat.reduceAdd,d,b,c,and_false,if_false]
 (repeat' apply Ae)<;>first | (refine Ey _ (ZcM w0 _ _ _ hE (P5 (a0.extract 1 a0.size) ((⟨#[93]⟩:ByteArray))) q) (by first | rfl | (simp +decide only [go_sem,Nat.reduceAdd,d,b,c,and_false,if_false];done) | (simp +decide only [go_sem,Nat.reduceAdd,Vl.cs,Ty.cs,d,b,c,and_false,if_false];done)) ?_;rintro _ _ ⟨⟨Ev27,rfl,Hn27,Hi27⟩,rfl⟩) | exact cl
 rw [Aq];simp +decide only [go_sem,Nat.reduceAdd,d,b,c,Hn27,Hi27,and_false,if_false]
 (repeat' apply Ae)<;>first | refine k _ _ ?_ | exact cl
 clear k
 apply Ap;intro K28 f
 obtain ⟨D,h⟩:=Av h
 rcases Bool.eq_false_or_eq_true (((decide ((((a0.get! 0).toNat:Int))=91))&&(ZhQ (a0.extract 1 a0.size) ((⟨#[93]⟩:ByteArray))))&&(TD (P5 (a0.extract 1 a0.size) ((⟨#[93]⟩:ByteArray))))) with hf30 | hf30
 ·replace h:=AW h hf30
  obtain ⟨t,h⟩:=Av h
  apply Ar 2 [2,3,4]
  rw [Aq];simp +decide only [go_sem,Nat.reduceAdd,d,b,c,Hn27,Hi27,and_false,if_false,hf30]
  (repeat' apply Ae)<;>first | refine Az _ (Z9 w0 _ _ _ hP (Jw (P5 (a0.extract 1 a0.size) ((⟨#[93]⟩:ByteArray)))) t) (by first | rfl | (simp +decide only [go_sem,Nat.reduceAdd,d,b,c,Hn27,Hi27,and_false,if_false,hf30];done) | (simp +decide only [go_sem,Nat.reduceAdd,Vl.cs,Ty.cs,d,b,c,Hn27,Hi27,and_false,if_false,hf30];done)) ?_ | exact cl
  rw [Aq];simp +decide only [go_sem,Nat.reduceAdd,d,b,c,Hn27,Hi27,and_false,if_false,hf30]
  (repeat' apply Ae)<;>first | refine f _ _ ?_ | exact cl
  clear f
  apply AN;simp +decide only [go_sem,Nat.reduceAdd,d,b,c,Hn27,Hi27,and_false,if_false,hf30]
  have hgt:=Option.some.inj h;subst hgt
  first | refine Br e rfl m.pre ev ⟨?_,rfl⟩ | refine Ci e rfl m.pre ev ⟨?_,rfl⟩
  first | rfl | (simp +decide only [go_sem,Nat.reduceAdd,d,b,c,Hn27,Hi27,and_false,if_false,hf30];done) | (simp +decide only [go_sem,Nat.reduceAdd,Vl.cs,Ty.cs,d,b,c,Hn27,Hi27,and_false,if_false,hf30];done)
 ·replace h:=AX h hf30
  apply Ar 2 [2,3,4]
  rw [Aq];simp +decide only [go_sem,Nat.reduceAdd,d,b,c,Hn27,Hi27,and_false,if_false,hf30]
  (repeat' apply Ae)<;>first | refine Dq ?_ | exact cl
  rw [Aq];simp +decide only [go_sem,Nat.reduceAdd,d,b,c,Hn27,Hi27,and_false,if_false,hf30]
  (repeat' apply Ae)<;>first | refine f _ _ ?_ | exact cl
  clear f
  apply AN;simp +decide only [go_sem,Nat.reduceAdd,d,b,c,Hn27,Hi27,and_false,if_false,hf30]
  have hgt:=Option.some.inj h;subst hgt
  first | refine Br e rfl m.pre ev ⟨?_,rfl⟩ | refine Ci e rfl m.pre ev ⟨?_,rfl⟩
  first | rfl | (simp +decide only [go_sem,Nat.reduceAdd,d,b,c,Hn27,Hi27,and_false,if_false,hf30];done) | (simp +decide only [go_sem,Nat.reduceAdd,Vl.cs,Ty.cs,d,b,c,Hn27,Hi27,and_false,if_false,hf30];done)
def ML (n:Nat)  (b:List Part):Option ((List Part) × Int) :=
 if decide (16<(b.length:Int)) then
  some (([],9))
 else
  some ((b,0))
def EF (n:Nat)  : Nat→(List Part)→ByteArray→Option ((List Part) × Int)
 | 0,_,_=>none
 | m+1,b,g =>
  if !(G5 g (⟨#[]⟩:ByteArray)) then
   (O1 g).bind fun h =>
   if !h.2.2 then
    some (([],13))
   else
    (F8 h.1).bind fun q =>
    if !q then
     some (([],13))
    else
     if (b.length+1)*32≤140737488355328∧b.length+1≤4611686018427387904 then
      (EF n m) (b++([h.1])) h.2.1
     else none
  else
   ML n b
def CZ (n:Nat) (b:ByteArray):Option ((List Part) × Int) :=
 if G5 b (⟨#[]⟩:ByteArray) then
  some (([],4))
 else
  if decide (200<(b.size:Int)) then
   some (([],5))
  else
   if ((⟨#[46]⟩:ByteArray)).size+b.size≤9223372036854775807 then
    EF n n ([]) (((⟨#[46]⟩:ByteArray))++b)
   else none
theorem GG (w0:World) (hE:Jl w0) (hM:Jh w0) (hP:Pow10 w0) (n:Nat) (B:As) (Rw:Ax) (L:Aw) (a0:ByteArray) (r:(List Part) × Int) (h:CZ n a0=some r) :
  ACalls Tryz.prog w0 66 [.val (.string a0)] ⟨B,Rw,L⟩ fun x st=>x = .tup [.list (r.1.map AO) .none,Am r.2]∧st=⟨B,Rw,L⟩:=by
 rw [CZ] at h
 refine hd [.tmp 2,.tmp 3] Tryz.func66 Tryz.ntmps66 fun M0 W0 y l p i D j hs=>?_
 simp only [AB]
 refine rg [0] hs ?_
 apply Ap;intro K2 w
 apply Au
 refine rg [0,9] hs ?_
 refine Cj h hs ?_ ?_<;>intro hs h
 ·refine rg [2,3] hs ?_
  exact rt h hs i j
 refine rg [0,12] hs ?_
 refine Cj h hs ?_ ?_<;>intro hs h
 ·refine rg [2,3] hs ?_
  exact rt h hs i j
 refine sk [0] hs w ?_
 clear w
 refine rg [0,4] hs ?_
 refine AA (fun e st=>∃ (d:List Part) (g:Ev.Own),Ck e st B Rw L [(4,true,.list (d.map AO) g)] [] [(3,d.length,g)] (ML n d=some r)) ?_ ?_
 ·intro K12 u
  obtain ⟨q,h⟩:=Av h
  have o:=q
  try simp +decide only [go_sem] at o
  refine rg [4,5] hs ?_
  apply Au
  refine AC (fun m e st=>∃ (c:List Part) (f:ByteArray) (b:Ev.Own),Ck e st B Rw L [(4,true,.list (c.map AO) b),(5,true,.val (.string f))] [] [(3,c.length,b)] (EF n m c f=some r)) n ⟨([]),(((⟨#[46]⟩:ByteArray))++a0),.full,([]),Rw,ef hs,ef hs,Owns.of_eq ((j).full 3 0) E0,h⟩ ?_
  rintro ml15 e st ⟨c,f,b,Xl15,Rl15,rfl,rfl,j,h⟩ Ul15 Vl15
  cases ml15 with
  | zero=>cases h
  | succ ml15 =>
  rw [EF] at h
  have z:=j.unders
  simp only [List.mem_cons,List.not_mem_nil,or_false,forall_eq_or_imp,forall_eq] at z
  refine td y l p i j ?_
  apply Ap;intro K16 k
  refine rg [4,5,19] hs ?_
  refine Cj h hs ?_ ?_<;>intro hs h
  rotate_left
  ·refine sx [4] hs u ?_
   exact ⟨c,b,([]),Rl15,ef hs,ef hs,Owns.of_eq (j) E0,h⟩
  refine sk [4,5] hs k ?_
  clear k
  apply Au
  obtain ⟨C,v,h⟩:=bind_some h
  refine rc 2 [4,6,7,8] hs ?_;intro K19 t
  refine Az _ (Zcr w0 hE hM hP _ _ _ f _ v) (hv hs) ?_
  exact go (tg (a:=(([4,6,7,32],[2,3],()),[4,6,7,32],([2,3],()),[4,6,7],[4,5],()))) h hs y l p i j (q2 (On w0) (ae YB R7)) (q2 t (fun e s=>Vl15 ml15 e s (Nat.lt_succ_self _)))
 ·clear h;rintro e st ⟨d,g,Xk11,Rk11,rfl,rfl,j,h⟩
  rw [ML] at h
  exact go (tg (a:=([4,40],([2,3],()),[4],[2,3],()))) h hs y l p i j trivial trivial
theorem Tz (c:List UInt8):∀ l:List UInt8,Lib.indexAny l c<(l.length:Int)
 | []=>by show (-1:Int)<0;decide
 | b::l=>by
  have ih:=Tz c l
  rw [Lib.indexAny,List.length_cons]
  split
  ·omega
  ·split<;>omega
theorem Q8 (s:ByteArray):s.data.toList.length=s.size:=by simp
theorem Zk3 (s:ByteArray) (h1:1≤s.size) (h2:s.size≤300):∃ y:Nat,LP 1 s=some (y:Int)∧1≤y∧y≤s.size:=by
 have e:((1:Int).toNat)=1:=rfl
 have b:(s.extract 1 s.size).size=s.size-1:=by rw [ByteArray.size_extract];omega
 have d:=Lib.indexAny_ge [46,91,63] (s.extract 1 s.size).data.toList
 have a:=Tz [46,91,63] (s.extract 1 s.size).data.toList
 rw [Q8,b] at a
 rw [LP,Ai ⟨by decide,by omega,by omega⟩,e,Ai ⟨by rw [b];omega,rfl⟩]
 have d : -1≤ZE (s.extract 1 s.size):=d
 have a:ZE (s.extract 1 s.size)<((s.size-1:Nat):Int):=a
 by_cases c:ZE (s.extract 1 s.size)<0
 ·rw [Ai (Ah c)]
  exact ⟨s.size,rfl,h1,Nat.le_refl _⟩
 ·rw [Aj (by rw [decide_eq_true_eq];exact c),Ai (by unfold Bj;omega)]
  exact ⟨(1+ZE (s.extract 1 s.size)).toNat,congrArg some (by omega),by omega,by omega⟩
theorem ZdH {s:ByteArray} (h:Yb s ⟨#[91,42,93]⟩=true):3≤s.size:=by
 have h:[91,42,93].isPrefixOf s.data.toList=true:=h
 have:=(List.isPrefixOf_iff_prefix.1 h).length_le
 rw [Q8] at this
 exact this
theorem ZbA (s:ByteArray) (h1:1≤s.size) (h2:s.size≤300):∃ (p:Part) (r:ByteArray) (b:Bool),O1 s=some (p,r,b)∧r.size<s.size∧p.wf:=by
 obtain ⟨y,e,m,n⟩:=Zk3 s h1 h2
 have g:∀ x:ByteArray,x.size≤300→x.size≤maxLen:=fun x h=>Nat.le_trans h (by decide)
 have c:Bj 0:=by decide
 have l:Bj 1:=by decide
 have i:Bj 2:=by decide
 have k:Bj 3:=by decide
 have j:Bj 4:=by decide
 have a:(⟨#[]⟩:ByteArray).size≤maxLen:=by decide
 have d:(y:Int).toNat=y:=rfl
 rw [O1,e,Af]
 by_cases c1:Yb s ⟨#[91,42,93]⟩=true
 ·have:=ZdH c1
  rw [Ai c1,Ai ⟨by decide,by omega,by omega⟩]
  exact ⟨_,_,_,rfl,by rw [ByteArray.size_extract];omega,k,c,a⟩
 rw [Aj c1,Ai ⟨by decide,by omega⟩]
 by_cases c2:decide (((s.get! 0).toNat:Int)=46)=true
 ·rw [Ai c2,Ai ⟨by decide,by omega,by omega⟩,Ai ⟨by omega,by omega,by omega⟩,d]
  exact ⟨_,_,_,rfl,by rw [ByteArray.size_extract];omega,l,c,g _ (by simp only;rw [ByteArray.size_extract];omega)⟩
 rw [Aj c2,Ai ⟨by decide,by omega⟩]
 by_cases c3:decide (((s.get! 0).toNat:Int)=63)=true
 ·rw [Ai c3,Ai ⟨by decide,by omega,by omega⟩,Ai ⟨by omega,by omega,by omega⟩,d]
  exact ⟨_,_,_,rfl,by rw [ByteArray.size_extract];omega,j,c,g _ (by simp only;rw [ByteArray.size_extract];omega)⟩
 have o:(s.extract 1 s.size).size=s.size-1:=by rw [ByteArray.size_extract];omega
 obtain ⟨t,q⟩:=ZV (s.extract 1 s.size) ⟨#[93]⟩
 have f:=ZcA (P5 (s.extract 1 s.size) ⟨#[93]⟩)
 rw [Aj c3,Ai ⟨by decide,by omega,by omega⟩,Ab,Ab,Ai ⟨by decide,by omega⟩,Ai f]
 have fin:∀ b:Bool,∃ (p:Part) (r:ByteArray) (b':Bool),some (Part.mk 2 (Jw (P5 (s.extract 1 s.size) ⟨#[93]⟩)) ⟨#[]⟩,Zbp (s.extract 1 s.size) ⟨#[93]⟩,b)=some (p,r,b')∧r.size<s.size∧p.wf:=fun b =>
  ⟨_,_,_,rfl,by omega,i,f,a⟩
 split
 ·exact fin _
 ·exact fin _
def O7 (l:List Part):Prop:=l.length≤16∧∀ p∈l,p.wf∧pOk p=true
theorem WX (n:Nat):∀ (m:Nat) (l:List Part) (s:ByteArray),s.size<m→l.length+s.size≤300→(∀ p∈l,p.wf∧pOk p=true)→∃ r:List Part × Int,EF n m l s=some r∧O7 r.1
 | 0,l,s,h,_,_=>absurd h (Nat.not_lt_zero _)
 | m+1,l,s,hm,hs,hp=>by
  rw [EF,XC]
  by_cases c:s.size=0
  ·rw [Ah c,Aj (by decide),ML]
   by_cases d:16<(l.length:Int)
   ·rw [Ai (Ah d)]
    exact ⟨_,rfl,by simp,by simp⟩
   ·rw [Aj (by rw [decide_eq_true_eq];exact d)]
    exact ⟨_,rfl,by simp only;omega,hp⟩
  ·obtain ⟨p,r,b,e,f,a⟩:=ZbA s (by omega) (by omega)
   rw [Ag c,Ai (by rfl),e,Af]
   cases b with
   | false=>exact ⟨_,rfl,by simp,by simp⟩
   | true =>
    rw [Aj (show ¬ (!true)=true by decide),Wv p a,Af]
    cases hv:pOk p with
    | false=>exact ⟨_,rfl,by simp,by simp⟩
    | true =>
     rw [Aj (show ¬ (!true)=true by decide),Ab]
     exact WX n m (l++[p]) r (by omega) (by rw [List.length_append,List.length_singleton];omega) (fun q hq=>by
      rcases List.mem_append.1 hq with hq | hq
      ·exact hp q hq
      ·rw [List.mem_singleton.1 hq];exact ⟨a,hv⟩)
theorem Zfr (n:Nat) (hn:302≤n) (s:ByteArray):∃ r:List Part × Int,CZ n s=some r∧O7 r.1:=by
 rw [CZ]
 by_cases c:G5 s ⟨#[]⟩=true
 ·rw [Ai c];exact ⟨_,rfl,by simp,by simp⟩
 rw [Aj c]
 by_cases d:200<(s.size:Int)
 ·rw [Ai (Ah d)];exact ⟨_,rfl,by simp,by simp⟩
 have z:(⟨#[46]⟩:ByteArray).size=1:=rfl
 rw [Aj (by rw [decide_eq_true_eq];exact d),Ai (by rw [z];omega)]
 exact WX n n [] _ (by rw [ByteArray.size_append,z];omega) (by rw [ByteArray.size_append,z,List.length_nil];omega) (by simp)
def Yr (n:Nat) (s:ByteArray):List Part × Int:=(CZ n s).getD ([],4)
theorem Qp (n:Nat) (hn:302≤n) (s:ByteArray):CZ n s=some (Yr n s)∧O7 (Yr n s).1:=by
 obtain ⟨r,e,h⟩:=Zfr n hn s
 rw [Yr,e]
 exact ⟨rfl,h⟩
def EJ (b:Part):Bool :=
 !(decide (b.kind=1))
theorem Q4 (w0:World) (B:As) (Rw:Ax) (L:Aw) (a0:Part) (r:Bool) (h:EJ a0=r) :
  ACalls Tryz.prog w0 153 [.agg (Am a0.kind::(Am a0.index::([.val (.string a0.name)])))] ⟨B,Rw,L⟩ fun x st=>x = .val (.bool r)∧st=⟨B,Rw,L⟩:=by
 rw [EJ] at h
 refine hd [.tmp 2] Tryz.func153 Tryz.ntmps153 fun M0 W0 e d b a f c hs=>?_
 simp only [AB]
 refine rg [1] hs ?_
 refine rg [2] hs ?_
 exact rT h hs a c
theorem QV (w0:World) (B:As) (Rw:Ax) (L:Aw) (a0:Part) :
  ACalls Tryz.prog w0 153 [.agg (Am a0.kind::(Am a0.index::([.val (.string a0.name)])))] ⟨B,Rw,L⟩ fun x st=>x = .val (.bool (EJ a0))∧st=⟨B,Rw,L⟩:=Q4 w0 B Rw L a0 _ rfl
def Ia (n:Nat)  : Option Bool :=
 some (true)
def Dl (n:Nat) (q:List Part) (y:List Part):Nat→Int→Option Bool
 | 0,_=>none
 | m+1,b =>
  if decide (b<(q.length:Int)) then
   (B6 q b).bind fun g =>
   (B6 y b).bind fun h =>
   if !(decide (g.kind=h.kind)&&(decide (g.index=h.index)&&(G5 g.name h.name))) then
    some (false)
   else
    if Bj (b+1) then
     (Dl n q y m) (b+1)
    else none
  else
   Ia n 
def E6 (n:Nat) (b:List Part) (g:List Part):Option Bool :=
 if !(decide ((b.length:Int)=(g.length:Int))) then
  some (false)
 else
  Dl n b g n 0
theorem Nb (w0:World) (n:Nat) (B:As) (Rw:Ax) (L:Aw) (a0:List Part) (a1:List Part) (r:Bool) (h:E6 n a0 a1=some r) :
  ACalls Tryz.prog w0 175 [.list (a0.map AO) .none,.list (a1.map AO) .none] ⟨B,Rw,L⟩ fun x st=>x = .val (.bool r)∧st=⟨B,Rw,L⟩:=by
 rw [E6] at h
 refine hd [.tmp 4] Tryz.func175 Tryz.ntmps175 fun M0 W0 k i f c l d hs=>?_
 simp only [AB]
 refine rg [0,1] hs ?_
 apply Ap;intro K2 g
 refine rg [0,1,10] hs ?_
 refine Cj h hs ?_ ?_<;>intro hs h
 ·refine rg [4] hs ?_
  exact rt h hs c d
 refine sk [0,1] hs g ?_
 clear g
 refine AA (fun e st=>Ck e st B Rw L [] [] [] (Ia n  = some r)) ?_ ?_
 ·intro K8 j
  refine rg [0,1,12,13] hs ?_
  apply Au
  refine AC (fun m e st=>∃ (b:Int),Ck e st B Rw L [(0,true,.list (a0.map AO) .none),(1,true,.list (a1.map AO) .none),(12,true,Am (a0.length:Int)),(13,true,Am b)] [] [] (Dl n a0 a1 m b=some r)) n ⟨0,([]),Rw,ef hs,ef hs,d,h⟩ ?_
  rintro ml10 e st ⟨b,Xl10,Rl10,rfl,rfl,d,h⟩ Ul10 Vl10
  cases ml10 with
  | zero=>cases h
  | succ ml10 =>
  rw [Dl] at h
  exact go (tg (a:=([0,1,12,13,14],([0,1,12,13],[0,1,5,12,13],[9,0,1,12,13,24],([4],()),[0,1,12,13],[0,1,12,13],()),[],()))) h hs k i f c d trivial (q2 j (fun e s=>Vl10 ml10 e s (Nat.lt_succ_self _)))
 ·clear h;rintro e st ⟨Xk7,Rk7,rfl,rfl,d,h⟩
  rw [Ia] at h
  refine td k i f c d ?_
  refine rg [4] hs ?_
  exact rt h hs c d
def EL (n:Nat) (g:List Part) (b:List Part):Option Bool :=
 if decide ((b.length:Int)≤(g.length:Int)) then
  if 0≤0∧0≤(b.length:Int)∧(b.length:Int)≤(g.length:Int) then
   (E6 n (g.take b.length) b).bind fun h =>
   some (h)
  else none
 else
  some (false)
theorem Q7 (w0:World) (n:Nat) (B:As) (Rw:Ax) (L:Aw) (a0:List Part) (a1:List Part) (r:Bool) (h:EL n a0 a1=some r) :
  ACalls Tryz.prog w0 155 [.list (a0.map AO) .none,.list (a1.map AO) .none] ⟨B,Rw,L⟩ fun x st=>x = .val (.bool r)∧st=⟨B,Rw,L⟩:=by
 rw [EL] at h
 refine hd [.tmp 4] Tryz.func155 Tryz.ntmps155 fun M0 W0 e d c b g f hs=>?_
 simp only [AB]
 exact go (tg (a:=([0,1],([4],()),[4],()))) h hs e d c b f (q1 (Nb w0 n)) trivial
def FV (n:Nat) (b:List Part) (g:List Part):Option Bool :=
 (EL n g b).bind fun h =>
 if h then
  some (true)
 else
  (EL n b g).bind fun q =>
  some (q)
theorem Rf (w0:World) (n:Nat) (B:As) (Rw:Ax) (L:Aw) (a0:List Part) (la1:Nat) (a1:List Part) (hla1:B[la1]? = some ([.list (a1.map AO) .none])) (r:Bool) (h:FV n a0 a1=some r) :
  ACalls Tryz.prog w0 154 [.list (a0.map AO) .none,.box la1 0] ⟨B,Rw,L⟩ fun x st=>x = .val (.bool r)∧st=⟨B,Rw,L⟩:=by
 rw [FV] at h
 refine hd [.tmp 3] Tryz.func154 Tryz.ntmps154 fun M0 W0 f e d b i g hs=>?_
 simp only [AB]
 have c:=(Ak.1 hla1).1
 have hs:=Ae (An hla1) hs
 exact go (tg (a:=([0,1],([3],()),[3],()))) h hs f e d b g (q1 (Q7 w0 n)) trivial
def HI (n:Nat)  : Option Int :=
 some ((-1))
def B2 (n:Nat) (h:List Part) (y:Part→Option Bool):Nat→Int→Option Int
 | 0,_=>none
 | m+1,b =>
  if decide (b<(h.length:Int)) then
   (B6 h b).bind fun g =>
   (y g).bind fun q =>
   if q then
    some (b)
   else
    if Bj (b+1) then
     (B2 n h y m) (b+1)
    else none
  else
   HI n 
def FR (n:Nat) (b:List Part) (g:Part→Option Bool):Option Int :=
 B2 n b g n 0
theorem OZ (w0:World) (n:Nat) (B:As) (Rw:Ax) (L:Aw) (a0:List Part) (fa1:FuncId) (ca1:List AV) (a1:Part→Option Bool) (ha1:∀ (x0:Part) r,a1 x0=some r→∀ B' rows,B <+: B'→Rw <+: rows→ACalls Tryz.prog w0 fa1 ([.agg (Am x0.kind::(Am x0.index::([.val (.string x0.name)])))]++ca1) ⟨B',rows,L⟩ fun v s=>v = .val (.bool r)∧s=⟨B',rows,L⟩) (r:Int) (h:FR n a0 a1=some r) :
  ACalls Tryz.prog w0 231 [.list (a0.map AO) .none,.clo fa1 ca1] ⟨B,Rw,L⟩ fun x st=>x=Am r∧st=⟨B,Rw,L⟩:=by
 rw [FR] at h
 refine hd [.tmp 4] Tryz.func231 Tryz.ntmps231 fun M0 W0 j i g b l f hs=>?_
 simp only [AB]
 have c:=BN (l (.clo fa1 ca1) (by simp))
 refine rg [0,1] hs ?_
 refine AA (fun e st=>Ck e st B Rw L [] [] [] (HI n  = some r)) ?_ ?_
 ·intro K4 k
  refine rg [0,1,7,8] hs ?_
  apply Au
  refine AC (fun m e st=>∃ (d:Int),Ck e st B Rw L [(0,true,.list (a0.map AO) .none),(1,true,.clo fa1 ca1),(7,true,Am (a0.length:Int)),(8,true,Am d)] [] [] (B2 n a0 a1 m d=some r)) n ⟨0,([]),Rw,ef hs,ef hs,f,h⟩ ?_
  rintro ml6 e st ⟨d,Xl6,Rl6,rfl,rfl,f,h⟩ Ul6 Vl6
  cases ml6 with
  | zero=>cases h
  | succ ml6 =>
  rw [B2] at h
  refine A4 j i g rfl b f (Ln c f) (Ln c f) ?_
  exact go (tg (a:=([0,1,7,8,9],([0,1,7,8],[0,1,5,7,8],[0,1,5,7,8,16],([4],()),[0,1,7,8],[0,1,7,8],()),[],()))) h hs j i g b f (q1 ha1) (q2 k (fun e s=>Vl6 ml6 e s (Nat.lt_succ_self _)))
 ·clear h;rintro e st ⟨Xk3,Rk3,rfl,rfl,f,h⟩
  rw [HI] at h
  refine A4 j i g rfl b f (Ln c f) (Ln c f) ?_
  refine rg [4] hs ?_
  exact rt h hs b f
def Bq (n:Nat) (b:List Part) (h:Part→Option Bool):Option Bool :=
 (FR n b h).bind fun g =>
 some (decide (0≤g))
theorem Ec (w0:World) (n:Nat) (B:As) (Rw:Ax) (L:Aw) (a0:List Part) (fa1:FuncId) (ca1:List AV) (a1:Part→Option Bool) (ha1:∀ (x0:Part) r,a1 x0=some r→∀ B' rows,B <+: B'→Rw <+: rows→ACalls Tryz.prog w0 fa1 ([.agg (Am x0.kind::(Am x0.index::([.val (.string x0.name)])))]++ca1) ⟨B',rows,L⟩ fun v s=>v = .val (.bool r)∧s=⟨B',rows,L⟩) (r:Bool) (h:Bq n a0 a1=some r) :
  ACalls Tryz.prog w0 150 [.list (a0.map AO) .none,.clo fa1 ca1] ⟨B,Rw,L⟩ fun x st=>x = .val (.bool r)∧st=⟨B,Rw,L⟩:=by
 rw [Bq] at h
 refine hd [.tmp 4] Tryz.func150 Tryz.ntmps150 fun M0 W0 m l i b k g hs=>?_
 simp only [AB]
 have f:=BN (k (.clo fa1 ca1) (by simp))
 refine rg [0,1] hs ?_
 obtain ⟨o,d,h⟩:=bind_some h
 refine rc 2 [4] hs ?_;intro K2 c
 refine Az _ (OZ w0 n _ _ _ a0 fa1 ca1 a1 (fun x0 r j e a q1 q2=>ha1 x0 r j e a (List.IsPrefix.trans px q1) (g.pre.trans q2)) _ d) (hv hs) ?_
 refine ne hs c ?_
 clear c
 exact rt h hs b g
def G3 (n:Nat)  : Option Int :=
 some ((-1))
def BV (n:Nat) (h:List (List Part)) (y:(List Part)→Option Bool):Nat→Int→Option Int
 | 0,_=>none
 | m+1,b =>
  if decide (b<(h.length:Int)) then
   (B6 h b).bind fun g =>
   (y g).bind fun q =>
   if q then
    some (b)
   else
    if Bj (b+1) then
     (BV n h y m) (b+1)
    else none
  else
   G3 n 
def Df (n:Nat) (b:List (List Part)) (g:(List Part)→Option Bool):Option Int :=
 BV n b g n 0
theorem Jv (w0:World) (n:Nat) (B:As) (Rw:Ax) (L:Aw) (a0:List (List Part)) (fa1:FuncId) (ca1:List AV) (a1:(List Part)→Option Bool) (ha1:∀ (x0:List Part) r,a1 x0=some r→∀ B' rows,B <+: B'→Rw <+: rows→ACalls Tryz.prog w0 fa1 ([.list (x0.map AO) .none]++ca1) ⟨B',rows,L⟩ fun v s=>v = .val (.bool r)∧s=⟨B',rows,L⟩) (r:Int) (h:Df n a0 a1=some r) :
  ACalls Tryz.prog w0 162 [.list (a0.map (KO AO)) .none,.clo fa1 ca1] ⟨B,Rw,L⟩ fun x st=>x=Am r∧st=⟨B,Rw,L⟩:=by
 rw [Df] at h
 refine hd [.tmp 4] Tryz.func162 Tryz.ntmps162 fun M0 W0 j i g b l f hs=>?_
 simp only [AB]
 have c:=BN (l (.clo fa1 ca1) (by simp))
 refine rg [0,1] hs ?_
 refine AA (fun e st=>Ck e st B Rw L [] [] [] (G3 n  = some r)) ?_ ?_
 ·intro K4 k
  refine rg [0,1,7,8] hs ?_
  apply Au
  refine AC (fun m e st=>∃ (d:Int),Ck e st B Rw L [(0,true,.list (a0.map (KO AO)) .none),(1,true,.clo fa1 ca1),(7,true,Am (a0.length:Int)),(8,true,Am d)] [] [] (BV n a0 a1 m d=some r)) n ⟨0,([]),Rw,ef hs,ef hs,f,h⟩ ?_
  rintro ml6 e st ⟨d,Xl6,Rl6,rfl,rfl,f,h⟩ Ul6 Vl6
  cases ml6 with
  | zero=>cases h
  | succ ml6 =>
  rw [BV] at h
  refine A4 j i g rfl b f (Ln c f) (Ln c f) ?_
  exact go (tg (a:=([0,1,7,8,9],([0,1,7,8],[0,1,5,7,8],[0,1,5,7,8,16],([4],()),[0,1,7,8],[0,1,7,8],()),[],()))) h hs j i g b f (q1 ha1) (q2 k (fun e s=>Vl6 ml6 e s (Nat.lt_succ_self _)))
 ·clear h;rintro e st ⟨Xk3,Rk3,rfl,rfl,f,h⟩
  rw [G3] at h
  refine A4 j i g rfl b f (Ln c f) (Ln c f) ?_
  refine rg [4] hs ?_
  exact rt h hs b f
def B1 (n:Nat) (b:List (List Part)) (h:(List Part)→Option Bool):Option Bool :=
 (Df n b h).bind fun g =>
 some (decide (0≤g))
theorem Iq (w0:World) (n:Nat) (B:As) (Rw:Ax) (L:Aw) (a0:List (List Part)) (fa1:FuncId) (ca1:List AV) (a1:(List Part)→Option Bool) (ha1:∀ (x0:List Part) r,a1 x0=some r→∀ B' rows,B <+: B'→Rw <+: rows→ACalls Tryz.prog w0 fa1 ([.list (x0.map AO) .none]++ca1) ⟨B',rows,L⟩ fun v s=>v = .val (.bool r)∧s=⟨B',rows,L⟩) (r:Bool) (h:B1 n a0 a1=some r) :
  ACalls Tryz.prog w0 96 [.list (a0.map (KO AO)) .none,.clo fa1 ca1] ⟨B,Rw,L⟩ fun x st=>x = .val (.bool r)∧st=⟨B,Rw,L⟩:=by
 rw [B1] at h
 refine hd [.tmp 4] Tryz.func96 Tryz.ntmps96 fun M0 W0 m l i b k g hs=>?_
 simp only [AB]
 have f:=BN (k (.clo fa1 ca1) (by simp))
 refine rg [0,1] hs ?_
 obtain ⟨o,d,h⟩:=bind_some h
 refine rc 2 [4] hs ?_;intro K2 c
 refine Az _ (Jv w0 n _ _ _ a0 fa1 ca1 a1 (fun x0 r j e a q1 q2=>ha1 x0 r j e a (List.IsPrefix.trans px q1) (g.pre.trans q2)) _ d) (hv hs) ?_
 refine ne hs c ?_
 clear c
 exact rt h hs b g
def KL (n:Nat)  : Option Int :=
 some (0)
def DK (n:Nat) (a0:List (ByteArray × Ex)):Nat→(List (List Part))→Int→Option Int
 | 0,_,_=>none
 | m+1,g,b =>
  if decide (b<(a0.length:Int)) then
   (B6 a0 b).bind fun q =>
   (CZ n q.1).bind fun h =>
   if !(decide (h.2=0)) then
    some (h.2)
   else
    (Bq n h.1 (fun (x0:Part)=>some (EJ x0))).bind fun y =>
    if y then
     some (22)
    else
     (B1 n g (fun (x0:List Part)=>FV n x0 h.1)).bind fun z =>
     if z then
      some (7)
     else
      if (g.length+1)*24≤140737488355328∧g.length+1≤4611686018427387904 then
       if Bj (b+1) then
        (DK n a0 m) (g++([h.1])) (b+1)
       else none
      else none
  else
   KL n 
def Do (n:Nat) (b:List (ByteArray × Ex)):Option Int :=
 if decide (256<(b.length:Int)) then
  some (9)
 else
  DK n b n ([]) 0
theorem GL (w0:World) (hE:Jl w0) (hM:Jh w0) (hP:Pow10 w0) (n:Nat) (B:As) (Rw:Ax) (L:Aw) (a0:List (ByteArray × Ex)) (r:Int) (h:Do n a0=some r) :
  ACalls Tryz.prog w0 64 [.agg ([.list (a0.map AP) .none])] ⟨B,Rw,L⟩ fun x st=>x=Am r∧st=⟨B,Rw,L⟩:=by
 rw [Do] at h
 refine hd [.tmp 2] Tryz.func64 Tryz.ntmps64 fun M0 W0 G p u c Z i hs=>?_
 simp only [AB]
 refine rg [1] hs ?_
 apply Ap;intro K2 C
 refine rg [1,11] hs ?_
 refine Cj h hs ?_ ?_<;>intro hs h
 ·refine rg [2] hs ?_
  exact rt h hs c i
 refine sk [1] hs C ?_
 clear C
 refine rg [1,3] hs ?_
 refine AA (fun e st=>Ck e st B Rw L [] [[.list (a0.map AP) .none]] [] (KL n  = some r)) ?_ ?_
 ·intro K9 O
  refine rg [3,13,14,15] hs ?_
  apply Au
  refine AC (fun m e st=>∃ (b:List (List Part)) (g:Int) (d:Ev.Own),Ck e st B Rw L [(3,true,.list (b.map (KO AO)) d),(13,true,.list (a0.map AP) .none),(14,true,Am (a0.length:Int)),(15,true,Am g)] [[.list (a0.map AP) .none]] [(1,b.length,d)] (DK n a0 m b g=some r)) n ⟨([]),0,.full,([]),Rw,ef hs,ef hs,Owns.of_eq ((i).full 1 0) E0,h⟩ ?_
  rintro ml11 e st ⟨b,g,d,Xl11,Rl11,rfl,rfl,i,h⟩ Ul11 Vl11
  cases ml11 with
  | zero=>cases h
  | succ ml11 =>
  rw [DK] at h
  have U:=i.unders
  simp only [List.mem_cons,List.not_mem_nil,or_false,forall_eq_or_imp,forall_eq] at U
  refine td G p u c i ?_
  refine rg [3,13,14,15,16] hs ?_
  apply Ap;intro K13 o
  refine Cj h hs ?_ ?_<;>intro hs h
  rotate_left
  ·refine sx [] hs O ?_
   exact ⟨([]),Rl11,ef hs,ef hs,(i).sub (List.sublist_append_left [] [(1,b.length,d)]),h⟩
  refine sk [3,13,14,15] hs o ?_
  clear o
  apply Ap;intro K15 z
  apply Au
  obtain ⟨H,E,h⟩:=bind_some h
  obtain ⟨J,K,v⟩:=Bt E
  have q:=Bv (f:=AP) v
  have hs:=Ae q hs
  refine rg [3,5,13,14,15] hs ?_
  obtain ⟨t,y,h⟩:=bind_some h
  refine rc 2 [3,6,7,13,14,15] hs ?_;intro K18 l
  refine Az _ (GG w0 hE hM hP n _ _ _ H.1 _ y) (hv hs) ?_
  refine ne hs l ?_
  clear l
  apply Ap;intro K20 F
  apply Au
  refine rg [3,6,7,13,14,15,25] hs ?_
  refine Cj h hs ?_ ?_<;>intro hs h
  ·refine rg [2] hs ?_
   exact rt h hs c i
  obtain ⟨V,hy25,h⟩:=bind_some h
  refine rc 2 [3,6,13,14,15,29] hs ?_;intro K24 k
  refine Az _ (Ec w0 n _ _ _ t.1 153 [] (fun (x0:Part)=>some (EJ x0)) (fun x0 r hx Q rows' w N=>by cases hx;exact QV w0 _ _ _ x0) _ hy25) (hv hs) ?_
  refine ne hs k ?_
  clear k
  refine Cj h hs ?_ ?_<;>intro hs h
  ·refine rg [2] hs ?_
   exact rt h hs c i
  obtain ⟨Y,D,h⟩:=bind_some h
  refine rc 2 [3,6,13,14,15,32] hs ?_;intro K28 j
  refine Az _ (Iq w0 n _ _ _ b 154 [.box (B.length+2) 0] (fun (x0:List Part)=>FV n x0 t.1) (fun x0 r hx Q rows' w N=>by exact Rf w0 n _ _ _ x0 _ t.1 (EV w (ef hs)) _ hx) _ D) (hv hs) ?_
  refine ne hs j ?_
  clear j
  exact go (tg (a:=(([2],()),[3,6,13,14,15],[3,13,14,15],[3,13,14,15],()))) h hs G p u c i (q1 (ae YF P1)) (q3 F z (fun e s=>Vl11 ml11 e s (Nat.lt_succ_self _)))
 ·clear h;rintro e st ⟨Xk8,Rk8,rfl,rfl,i,h⟩
  rw [KL] at h
  refine td G p u c i ?_
  refine rg [2] hs ?_
  exact rt h hs c i
end Go.Proofs.YtmcnjijeocmkgaaGreatDoor
namespace Go.Ev
open Go Go.RowKit
section
variable {o:VO} {n:Nat}
@[go_sem] theorem ZjU:(QJ o n).cells=[QJ o n]:=by cases o<;>rfl
@[go_sem] theorem Zlz:(QJ o n).one=true:=by cases o<;>rfl
@[go_sem] theorem ZiZ:A9 (QJ o n)=true:=by cases o<;>rfl
@[go_sem] theorem ZjF:G1 (QJ o n)=false:=by cases o<;>rfl
@[go_sem] theorem ZlE:Wn (QJ o n)=false:=by cases o<;>rfl
@[go_sem] theorem XN (id ver:Nat):QJ (.row id ver) n = .vec id ver 0 n:=rfl
def VO.under:VO→Nat→Prop
 | .nil,_=>True
 | .row id _,k=>id<k
@[go_sem] theorem Zjy {nb nr nl:Nat}:Under nb nr nl (QJ o n)↔o.under nr:=by
 cases o with
 | nil=>exact ⟨fun _=>trivial,fun _ => .list (by simp) trivial⟩
 | row id ver=>exact ⟨fun h=>by cases h;assumption,fun h => .vec h⟩
@[go_sem] theorem ZhG (k:Nat):VO.nil.under k=True:=rfl
@[go_sem] theorem Zhs (id ver k:Nat):(VO.row id ver).under k=(id<k):=rfl
end
def Ze2:VO→List RowA→VO
 | .nil,rows => .row rows.length 0
 | .row id ver,_ => .row id (ver+1)
def ZdT:VO→List RowA→Nat→List AV→List RowA
 | .nil,rows,sz,cs=>rows++[.vec 0 sz cs]
 | .row id ver,rows,sz,cs=>rows.set id (.vec (ver+1) sz cs)
section
variable {Rw rows:List RowA} {l:List (Nat × Nat × Own)} {ho:Own} {v:List VE} {o:VO} {sz:Nat} {cs:List AV}
theorem OwnsAt.up {lo:Nat} {x:Nat × Nat × Own} (h:OwnsAt lo ho rows x) (r:Ax):OwnsAt lo ho (rows++r) x:=by
 rcases h with h | ⟨id,h1,h2,h3⟩
 ·exact .inl h
 ·exact .inr ⟨id,h1,h2,by rw [List.getElem?_append_left (Ak.1 h3).1];exact h3⟩
theorem OwnsAt.set {lo:Nat} {x:Nat × Nat × Own} (h:OwnsAt lo ho rows x) {i:Nat} {a s:Nat} {c:List AV} (hi:rows[i]? = some (.vec a s c)) (r:RowA):OwnsAt lo ho (rows.set i r) x:=by
 rcases h with h | ⟨id,h1,h2,h3⟩
 ·exact .inl h
 ·refine .inr ⟨id,h1,h2,?_⟩
  rw [List.getElem?_set_ne (fun e=>by rw [e,h3] at hi;cases hi)]
  exact h3
theorem VAt.lt {lo:Nat} {x:VE} (h:VAt lo ho rows x):x.1.under rows.length:=by
 rcases h with h | ⟨id,ver,h1,h2,h3⟩
 ·rw [h.1];trivial
 ·rw [h1];exact (Ak.1 h3).1
theorem Owns.nilV (h:Owns Rw rows l ho v) (sz:Nat):Owns Rw rows l ho ((.nil,sz,[])::v) :=
 ⟨h.len,h.keep,fun i r b q a=>h.calm i r b q fun x hx=>a x (List.mem_cons_of_mem _ hx),h.each,h.apart,fun x hx=>by
  rcases List.mem_cons.1 hx with rfl | hx
  ·exact .inl ⟨rfl,rfl⟩
  ·exact h.veach x hx,List.pairwise_cons.2 ⟨fun _ _ _ _ _ q=>(nomatch q),h.vapart⟩⟩
theorem Owns.newV (h:Owns Rw rows l ho v) (sz:Nat) (cs:List AV):Owns Rw (rows++[.vec 0 sz cs]) l ho ((.row rows.length 0,sz,cs)::v):=by
 have m:=h.len
 refine ⟨by simp;omega,fun i c j=>?_,fun i r d q f=>?_,fun x hx=>(h.each x hx).up _,h.apart,fun x hx=>?_,List.pairwise_cons.2 ⟨fun y g id a b q k=>?_,h.vapart⟩⟩
 ·rw [List.getElem?_append_left (by omega)];exact h.keep i c j
 ·by_cases c:i<rows.length
  ·rw [List.getElem?_append_left c] at d
   exact h.calm i r d q fun x hx=>f x (List.mem_cons_of_mem _ hx)
  ·have e:i=rows.length:=by
    have:=(Ak.1 d).1
    simp at this;omega
   exact absurd (by rw [e]) (f _ (List.mem_cons_self ..) 0)
 ·rcases List.mem_cons.1 hx with rfl | hx
  ·exact .inr ⟨_,_,rfl,.inl m,by simp⟩
  ·exact (h.veach x hx).up _
 ·cases q
  have:=(h.veach y g).lt
  rw [k] at this
  exact Nat.lt_irrefl _ this
theorem Owns.setV {id ver:Nat} (h:Owns Rw rows l ho ((.row id ver,sz,cs)::v)) (ver':Nat) (cs':List AV):Owns Rw (rows.set id (.vec ver' sz cs')) l ho ((.row id ver',sz,cs')::v):=by
 obtain ⟨n,h1,s,o,p,g,m⟩:=h
 obtain ⟨hid,hrow⟩:(Rw.length≤id∨ho = .row id)∧rows[id]? = some (.vec ver sz cs):=by
  rcases g _ (List.mem_cons_self ..) with q | ⟨d,ver',q1,q2,q3⟩
  ·cases q.1
  ·cases q1;exact ⟨q2,q3⟩
 have c:=(Ak.1 hrow).1
 obtain ⟨p1,p2⟩:=List.pairwise_cons.1 m
 refine ⟨by simpa using n,fun i hi hn=>?_,fun i r j q f=>?_,fun x hx=>(o x hx).set hrow _,p,fun x hx=>?_,List.pairwise_cons.2 ⟨fun y hy d a b q=>by cases q;exact p1 y hy id ver b rfl,p2⟩⟩
 ·rw [List.getElem?_set_ne (fun e=>by subst e;rcases hid with q | q;exact Nat.lt_irrefl _ (Nat.lt_of_lt_of_le hi q);exact hn q)];exact h1 i hi hn
 ·by_cases e:id=i
  ·exact absurd (by rw [e]) (f _ (List.mem_cons_self ..) ver')
  ·rw [List.getElem?_set_ne e] at j
   refine s i r j q fun x hx=>?_
   rcases List.mem_cons.1 hx with rfl | hx
   ·intro a k;cases k;exact e rfl
   ·exact f x (List.mem_cons_of_mem _ hx)
 ·rcases List.mem_cons.1 hx with rfl | hx
  ·exact .inr ⟨id,ver',rfl,hid,by simp [c]⟩
  ·exact (g x (List.mem_cons_of_mem _ hx)).set (fun a k=>p1 x hx id ver a rfl k) _
theorem Owns.bump (h:Owns Rw rows l ho ((o,sz,cs)::v)) (cs':List AV):Owns Rw (ZdT o rows sz cs') l ho ((Ze2 o rows,sz,cs')::v):=by
 cases o with
 | nil =>
  have b:Owns Rw rows l ho v:=⟨h.len,h.keep,fun i r d q c=>h.calm i r d q fun x hx=>by
   rcases List.mem_cons.1 hx with rfl | hx
   ·intro a k;cases k
   ·exact c x hx,h.each,h.apart,fun x hx=>h.veach x (List.mem_cons_of_mem _ hx),(List.pairwise_cons.1 h.vapart).2⟩
  exact b.newV sz cs'
 | row id ver=>exact h.setV (ver+1) cs'
theorem Owns.eqV {v':List VE} (h:Owns Rw rows l ho v) (he:v=v'):Owns Rw rows l ho v':=he▸h
theorem Owns.nilZ (h:Owns Rw rows l ho ((o,sz,cs)::v)) (hs:0<sz) {n:Nat} (hn:cs.length=n*sz):o = .nil→n=0:=fun e=>by
 rcases h.veach _ (List.mem_cons_self ..) with q | ⟨id,ver,q1,q2,q3⟩
 ·have q2:cs=[]:=q.2
  rw [q2] at hn
  rcases Nat.eq_zero_or_pos n with w | w
  ·exact w
  ·have:=Nat.mul_pos w hs
   simp at hn;omega
 ·rw [e] at q1;cases q1
theorem Owns.underV (h:Owns Rw rows l ho v):∀ x∈v,x.1.under rows.length:=fun x a=>(h.veach x a).lt
theorem Owns.appendV {P:Program} {t el:TypeId} {by8 n m:Nat} {ag:Bool} (h:Owns Rw rows l ho ((o,sz,cs)::v)) (he:MK P t=some (el,sz,ag,by8)) (hz:(BX P el).isSome=true) (hs:0<sz) (hn:cs.length=n*sz)
  (hb:(n+m)*by8≤140737488355328) (hb2:n+m≤4611686018427387904) (ys:List AV) (hy:ys.length=m) (cs':List AV) (hc:cs++ys.flatMap (fun y=>y.pub.cells)=cs') :
  ∃ o' rows',Owns Rw rows' l ho ((o',sz,cs')::v)∧∀ (B:As) (L:Aw) (o2:Own),B7 P ⟨B,rows,L⟩ t (QJ o n) (.list ys o2)=((∀ y∈ys,y.cells.length=sz∧A9 y=true),QJ o' (n+m),⟨B,rows',L⟩):=by
 subst hc
 by_cases a:o = .nil∧m=0
 ·obtain ⟨rfl,rfl⟩:=a
  have e0:=h.nilZ hs hn rfl
  subst e0
  have ec:ys=[]:=List.length_eq_zero_iff.1 hy
  subst ec
  refine ⟨.nil,rows,h.eqV (by simp),fun B L o2=>?_⟩
  simp [QJ,B7,he,A3,BW,hs]
 refine ⟨_,_,h.bump _,fun B L o2=>?_⟩
 cases o with
 | nil =>
  have a:0<m:=Nat.pos_of_ne_zero fun e=>a ⟨rfl,e⟩
  have e0:=h.nilZ hs hn rfl
  subst e0
  have ec:cs=[]:=List.length_eq_zero_iff.1 (by simpa using hn)
  subst ec
  simp only [QJ,B7,he,A3,BW,Dz,hs,hz,hy,a,Aj (Nat.ne_of_gt a),Ze2,ZdT,List.length_nil,List.nil_append,Nat.zero_add,true_and,and_true,Prod.mk.injEq,eq_iff_iff,and_self]
  rw [Nat.zero_add] at hb hb2
  exact ⟨fun q=>q.2.2,fun q=>⟨hb,hb2,q⟩⟩
 | row id ver =>
  obtain ⟨id',ver',e,hlt,hv⟩:∃ id' ver',VO.row id ver = .row id' ver'∧id'<rows.length∧FP rows id' ver'=some (sz,cs):=by
   rcases h.veach _ (List.mem_cons_self ..) with q | ⟨id,ver,q1,q2,q3⟩
   ·cases q.1
   ·refine ⟨id,ver,q1,(Ak.1 q3).1,?_⟩
    simp only [FP,q3,if_true]
  cases e
  have b:cs.take (n*sz)=cs:=List.take_of_length_le (by omega)
  have c:=hb
  simp only [QJ,B7,he,hv,A3,BW,Dz,hs,hz,hy,Ze2,ZdT,b,Nat.le_of_eq hn.symm,true_and,and_true,Prod.mk.injEq,eq_iff_iff]
  exact ⟨fun q=>q.2.2,fun q=>⟨hb,hb2,q⟩⟩
theorem Owns.callV {rows':List RowA} {v':List VE} (h:Owns Rw rows l ho v) (hc:Owns rows rows' [] .none v'):Owns Rw rows' l ho (v'++v):=by
 have s:=h.len
 have u:=hc.len
 have keep:∀ i,i<rows.length→rows'[i]? = rows[i]? := fun i f=>hc.keep i f (fun q=>by cases q)
 have d:∀ x∈v,x.1.under rows.length:=h.underV
 have g:∀ x∈v',∀ id c,x.1 = .row id c→rows.length≤id:=fun x hx id c e=>by
  rcases hc.veach x hx with q | ⟨id',ver',q1,q2,q3⟩
  ·rw [q.1] at e;cases e
  ·rw [q1] at e;cases e;rcases q2 with q2 | q2;exact q2;cases q2
 refine ⟨by omega,fun i f p=>?_,fun i r j q m=>?_,fun x hx=>?_,h.apart,fun x hx=>?_,List.pairwise_append.2 ⟨hc.vapart,h.vapart,fun x hx y o id a b e k=>?_⟩⟩
 ·rw [keep i (by omega)];exact h.keep i f p
 ·by_cases e:rows.length≤i
  ·exact hc.calm i r j (.inl e) fun x hx=>m x (List.mem_append_left _ hx)
  ·rw [keep i (by omega)] at j
   exact h.calm i r j q fun x hx=>m x (List.mem_append_right _ hx)
 ·rcases h.each x hx with q | ⟨id,q1,q2,q3⟩
  ·exact .inl q
  ·exact .inr ⟨id,q1,q2,by rw [keep id (Ak.1 q3).1];exact q3⟩
 ·rcases List.mem_append.1 hx with hx | hx
  ·rcases hc.veach x hx with q | ⟨id,c,q1,q2,q3⟩
   ·exact .inl q
   ·exact .inr ⟨id,c,q1,.inl (by rcases q2 with q2 | q2;omega;cases q2),q3⟩
  ·rcases h.veach x hx with q | ⟨id,c,q1,q2,q3⟩
   ·exact .inl q
   ·exact .inr ⟨id,c,q1,q2,by rw [keep id (Ak.1 q3).1];exact q3⟩
 ·have t:=g x hx id a e
  have n:=d y o
  rw [k] at n
  exact absurd n (by simp only [VO.under];omega)
theorem Owns.dropV {x:VE} (h:Owns Rw rows l ho ((.nil,sz,cs)::v)):Owns Rw rows l ho v :=
 ⟨h.len,h.keep,fun i r c q b=>h.calm i r c q fun x hx=>by
  rcases List.mem_cons.1 hx with rfl | hx
  ·intro a k;cases k
  ·exact b x hx,h.each,h.apart,fun x hx=>h.veach x (List.mem_cons_of_mem _ hx),(List.pairwise_cons.1 h.vapart).2⟩
theorem Owns.deadV {id ver:Nat} (h:Owns Rw rows l ho ((.row id ver,sz,cs)::v)):Owns Rw (rows.set id (.dead (ver+1))) l ho v:=by
 obtain ⟨f,h1,o,p,n,c,d⟩:=h
 obtain ⟨hid,hrow⟩:(Rw.length≤id∨ho = .row id)∧rows[id]? = some (.vec ver sz cs):=by
  rcases c _ (List.mem_cons_self ..) with q | ⟨id',ver',q1,q2,q3⟩
  ·cases q.1
  ·cases q1;exact ⟨q2,q3⟩
 have b:=(Ak.1 hrow).1
 obtain ⟨j,g⟩:=List.pairwise_cons.1 d
 refine ⟨by simpa using f,fun i hi hn=>?_,fun i r hr q m=>?_,fun x hx=>(p x hx).set hrow _,n,fun x hx=>?_,g⟩
 ·rw [List.getElem?_set_ne (fun e=>by subst e;rcases hid with q | q;exact Nat.lt_irrefl _ (Nat.lt_of_lt_of_le hi q);exact hn q)];exact h1 i hi hn
 ·by_cases e:id=i
  ·subst e
   rw [List.getElem?_set_self b] at hr
   cases hr;rfl
  ·rw [List.getElem?_set_ne e] at hr
   refine o i r hr q fun x hx=>?_
   rcases List.mem_cons.1 hx with rfl | hx
   ·intro a k;cases k;exact e rfl
   ·exact m x hx
 ·exact (c x (List.mem_cons_of_mem _ hx)).set (fun a k=>j x hx id ver a rfl k) _
end
section
variable {P:Program} {w0:World} {n:Nat} {e:Env} {st:St} {M0:Mem} {W0:World} {ro:Option Nat} {Q:AQ} {c:Code}
variable {Rw:List RowA} {lw:List (Nat × Nat × Own)} {oh:Own} {v:List VE} {o:VO} {sz m:Nat} {cs xs:List AV}
theorem ZR (l i:Nat) {bs:List AV} (hl:st.boxes[l]? = some bs) (hi:bs[i]? = some (QJ o m)) (ho:Owns Rw st.rows lw oh ((o,sz,cs)::v)) (ag:Bool) (hag:ag=true∨sz=1) (hs:0<sz) (hn:cs.length=m*sz) (hx:OW sz ag cs 0 m=xs)
  (h:∀ rows',Owns Rw rows' lw oh v→Em P w0 n M0 W0 ro c Q e { st with boxes:=st.boxes.set l (bs.set i (.list xs .none)),rows:=rows' }):Em P w0 n M0 W0 ro c Q e st:=by
 cases o with
 | nil =>
  have e0:=ho.nilZ hs hn rfl
  subst e0
  have ex:xs=[]:=by rw [←hx];rfl
  subst ex
  exact TP l i hl hi rfl (h _ (ho.dropV (x:=(.nil,0,[]))))
 | row id ver =>
  rcases ho.veach _ (List.mem_cons_self ..) with q | ⟨id',ver',q1,q2,q3⟩
  ·cases q.1
  ·cases q1
   subst hx
   exact U4 l i ag hl hi (by simp only [FP,q3,if_true]) hag (by rw [Nat.zero_add];omega) (h _ ho.deadV)
theorem ZbM (k:Nat) (hk:look e k=some (true,QJ o m)) (ho:Owns Rw st.rows lw oh ((o,sz,cs)::v)) (ag:Bool) (hag:ag=true∨sz=1) (hs:0<sz) (hn:cs.length=m*sz) (hx:OW sz ag cs 0 m=xs)
  (h:∀ rows',Owns Rw rows' lw oh v→Em P w0 n M0 W0 ro c Q ((k,true,.list xs .none)::e) { st with rows:=rows' }):Em P w0 n M0 W0 ro c Q e st:=by
 cases o with
 | nil =>
  have e0:=ho.nilZ hs hn rfl
  subst e0
  have ex:xs=[]:=by rw [←hx];rfl
  subst ex
  exact ZgM k hk (h _ (ho.dropV (x:=(.nil,0,[]))))
 | row id ver =>
  rcases ho.veach _ (List.mem_cons_self ..) with q | ⟨id',ver',q1,q2,q3⟩
  ·cases q.1
  ·cases q1
   subst hx
   exact Zay k ag hk (by simp only [FP,q3,if_true]) hag (by rw [Nat.zero_add];omega) (h _ ho.deadV)
end
theorem Zhv {α:Type} {f:α→AV} {g:α→List AV} (sz:Nat) (hf:∀ x,f x = .agg (g x)) (hg:∀ x,(g x).length=sz) (xs:List α):OW sz true (xs.flatMap fun x=>(f x).cells) 0 xs.length=xs.map f:=by
 have b:(xs.flatMap fun x=>(f x).cells)=xs.flatMap g:=by
  congr 1;funext x;rw [hf];rfl
 rw [b]
 refine List.ext_getElem (by simp [OW]) fun i c a=>?_
 simp only [List.length_map] at a
 simp only [OW,List.getElem_map,List.getElem_range,Nat.zero_add,Qi,if_true]
 rw [Oa sz hg (List.getElem?_eq_getElem a),hf]
theorem ZbU {α:Type} {f:α→AV} (hf:∀ x,(f x).cells=[f x]) (xs:List α):OW 1 false (xs.flatMap fun x=>(f x).cells) 0 xs.length=xs.map f:=by
 have b:(xs.flatMap fun x=>(f x).cells)=xs.map f:=by
  induction xs with
  | nil=>rfl
  | cons x xs ih=>rw [List.flatMap_cons,ih,hf];rfl
 rw [b]
 refine List.ext_getElem (by simp [OW]) fun i c a=>?_
 simp only [OW,List.getElem_map,List.getElem_range,Nat.zero_add,Nat.mul_one,Qi,nth,Bool.false_eq_true,if_false]
 simp only [List.length_map] at a
 simp [a]
theorem Lt {α:Type} {f:α→AV} {sz:Nat} (hf:∀ x,(f x).cells.length=sz) (xs:List α):(xs.flatMap fun x=>(f x).cells).length=xs.length*sz:=by
 induction xs with
 | nil=>simp
 | cons x xs ih=>rw [List.flatMap_cons,List.length_append,ih,hf,List.length_cons,Nat.succ_mul,Nat.add_comm]
section
variable {P:Program} {w0:World} {f:FuncId} {st:St}
def finV (st:St) (Post:AV→St→Prop) (r:AV) (s:St):Prop :=
 st.boxes.length≤s.boxes.length∧st.rows.length≤s.rows.length∧st.loops.length≤s.loops.length∧Calm st.boxes.length s.rows.length st.loops.length (s.cut st.boxes.length s.rows.length st.loops.length) ∧
  Under st.boxes.length s.rows.length st.loops.length r∧Post r (s.cut st.boxes.length s.rows.length st.loops.length)
theorem ACalls.finV {args:List AV} {Post:AV→St→Prop} (h:ACalls P w0 f args st (finV st Post)):ACalls P w0 f args st Post:=by
 refine ⟨h.1,fun M w b a c=>(h.2 M w b a c).mono ?_⟩
 rintro en m ⟨v,M',r,d,l,⟨i,n,e,k,j,g⟩,h3,h4,h5⟩
 exact ⟨v,M'.cut st.boxes.length d.rows.length st.loops.length,r,_,l,g,h3.cut (by have:=a.N;omega) (by have:=a.NR;omega) (by have:=a.loop.NL;omega) (by rw [h4.loop.NL];exact e),h4.cut i (Nat.le_refl _) e k,h5.cut j⟩
theorem ZkT {B B' X:List (List AV)} {R0 rows:List RowA} {L l:List LoopA} {Post:AV→St→Prop} {r:AV} {ow:List (Nat × Nat × Own)} {v:List VE} (ho:Owns R0 rows ow .none v) (hc:Calm B.length R0.length L.length ⟨B',R0,L⟩) (hB:B'.length=B.length) (hu:Under B.length rows.length L.length r)
  (hv:∀ x∈v,∀ y∈x.2.2,Under B.length rows.length L.length y) (hp:Post r ⟨B',rows,L⟩):Go.Ev.finV ⟨B,R0,L⟩ Post r ⟨B'++X,rows,L++l⟩:=by
 have e:St.cut ⟨B'++X,rows,L++l⟩ B.length rows.length L.length=⟨B',rows,L⟩:=by simp [St.cut,←hB]
 have d:=ho.len
 refine ⟨by simp [hB],d,by simp,?_,hu,by simp only [e];exact hp⟩
 simp only [e]
 exact ⟨ho.rowsCalm (Nat.le_refl _) hc.rows hv,fun cs a x b=>DC (Nat.le_refl _) d (Nat.le_refl _) (hc.boxes cs a x b),fun f a k x b c=>DC (Nat.le_refl _) d (Nat.le_refl _) (hc.loops f a k x b c)⟩
theorem ZiU {B B' X:List (List AV)} {R0 rows:List RowA} {L:List LoopA} {Post:AV→St→Prop} {r:AV} {ow:List (Nat × Nat × Own)} {v:List VE} (ho:Owns R0 rows ow .none v) (hc:Calm B.length R0.length L.length ⟨B',R0,L⟩) (hB:B'.length=B.length) (hu:Under B.length rows.length L.length r)
  (hv:∀ x∈v,∀ y∈x.2.2,Under B.length rows.length L.length y) (hp:Post r ⟨B',rows,L⟩):Go.Ev.finV ⟨B,R0,L⟩ Post r ⟨B'++X,rows,L⟩:=by
 have:=ZkT (X:=X) (l:=[]) ho hc hB hu hv hp
 rwa [List.append_nil] at this
end
abbrev VP (Rw:Ax) (o:VO) (sz:Nat) (cs:List AV):Prop:=VAt 0 .none Rw (o,sz,cs)
theorem VP.up {Rw rows:List RowA} {o:VO} {sz:Nat} {cs:List AV} {l:List (Nat × Nat × Own)} {v:List VE} (h:VP Rw o sz cs) (ho:Owns Rw rows l .none v):VP rows o sz cs:=by
 rcases h with q | ⟨id,ver,q1,q2,q3⟩
 ·exact .inl q
 ·refine .inr ⟨id,ver,q1,q2,?_⟩
  rw [ho.keep id (Ak.1 q3).1 (fun e=>by cases e)]
  exact q3
theorem VP.row {rows:List RowA} {o:VO} {sz:Nat} {cs:List AV} (h:VP rows o sz cs) (hne:0<cs.length):∃ id ver,o = .row id ver∧id<rows.length∧FP rows id ver=some (sz,cs):=by
 rcases h with q | ⟨id,ver,q1,q2,q3⟩
 ·have q2:cs=[]:=q.2
  rw [q2] at hne;simp at hne
 ·refine ⟨id,ver,q1,(Ak.1 q3).1,?_⟩
  simp only [FP,q3,if_true]
theorem VP.under {rows:List RowA} {o:VO} {sz:Nat} {cs:List AV} (h:VP rows o sz cs):o.under rows.length:=VAt.lt h
def hOf:VO→Own
 | .nil => .none
 | .row id _ => .row id
theorem XK {o:VO} {i:Nat} (h:hOf o = .row i):∃ ver,o = .row i ver:=by
 cases o with
 | nil=>cases h
 | row id ver=>cases h;exact ⟨ver,rfl⟩
section
variable {Rw rows rows':List RowA} {l:List (Nat × Nat × Own)} {ho:Own} {v:List VE} {o o':VO} {sz:Nat} {cs cs':List AV}
theorem Owns.enterV (h:Owns Rw rows l ho ((o,sz,cs)::v)):Owns rows rows [] (hOf o) [(o,sz,cs)]:=by
 refine ⟨Nat.le_refl _,fun _ _ _=>rfl,fun i r c q d=>?_,by simp,.nil,fun x b=>?_,by simp⟩
 ·rcases q with q | q
  ·have:=(Ak.1 c).1;omega
  ·obtain ⟨a,e⟩:=XK q
   exact absurd e (d _ (List.mem_singleton.2 rfl) a)
 ·rw [List.mem_singleton.1 b]
  rcases h.veach _ (List.mem_cons_self ..) with w | ⟨id,a,w1,w2,w3⟩
  ·exact .inl w
  ·refine .inr ⟨id,a,w1,.inr ?_,w3⟩
   simp only at w1
   rw [w1];rfl
theorem Owns.callG (h:Owns Rw rows l ho ((o,sz,cs)::v)) (hc:Owns rows rows' [] (hOf o) [(o',sz,cs')]):Owns Rw rows' l ho ((o',sz,cs')::v):=by
 have hx:=h.veach _ (List.mem_cons_self ..)
 have f:=hc.veach _ (List.mem_cons_self ..)
 obtain ⟨p,u⟩:=List.pairwise_cons.1 h.vapart
 have z:=h.len
 have C:=hc.len
 have own:∀ i,hOf o = .row i→(Rw.length≤i∨ho = .row i)∧∃ c,o = .row i c∧rows[i]? = some (.vec c sz cs):=fun i e=>by
  obtain ⟨c,e⟩:=XK e
  rcases hx with q | ⟨id,d,q1,q2,q3⟩
  ·simp only at q;rw [e] at q;cases q.1
  ·simp only at q1;rw [e] at q1;cases q1
   exact ⟨q2,c,e,q3⟩
 have keep:∀ i,i<rows.length→hOf o ≠ .row i→rows'[i]? = rows[i]? := fun i j g=>hc.keep i j g
 have m:∀ i b,o' = .row i b→rows.length≤i∨hOf o = .row i:=fun i b e=>by
  rcases f with q | ⟨id,c,q1,q2,q3⟩
  ·simp only at q;rw [e] at q;cases q.1
  ·simp only at q1;rw [e] at q1;cases q1;exact q2
 refine ⟨by omega,fun i j g=>?_,fun i r n q t=>?_,fun x hxm=>?_,h.apart,fun x hxm=>?_,List.pairwise_cons.2 ⟨fun y s id a b e k=>?_,u⟩⟩
 ·have:hOf o ≠ .row i:=fun e=>by
   rcases (own i e).1 with q | q
   ·omega
   ·exact g q
  rw [keep i (by omega) this];exact h.keep i j g
 ·by_cases e:rows.length≤i∨hOf o = .row i
  ·exact hc.calm i r n e fun x hx=>by rw [List.mem_singleton.1 hx];exact t _ (List.mem_cons_self ..)
  ·rw [keep i (by omega) (fun k=>e (.inr k))] at n
   refine h.calm i r n q fun x hx=>?_
   rcases List.mem_cons.1 hx with rfl | hx
   ·intro c k
    simp only at k
    exact e (.inr (by rw [k];rfl))
   ·exact t x (List.mem_cons_of_mem _ hx)
 ·rcases h.each x hxm with q | ⟨id,q1,q2,q3⟩
  ·exact .inl q
  ·refine .inr ⟨id,q1,q2,?_⟩
   rw [keep id (Ak.1 q3).1 fun e=>by
    obtain ⟨_,c,_,w⟩:=own id e
    rw [w] at q3;cases q3]
   exact q3
 ·rcases List.mem_cons.1 hxm with rfl | hxm
  ·rcases f with q | ⟨id,c,q1,q2,q3⟩
   ·exact .inl q
   ·refine .inr ⟨id,c,q1,?_,q3⟩
    rcases q2 with q2 | q2
    ·exact .inl (by omega)
    ·exact (own id q2).1
  ·rcases h.veach x (List.mem_cons_of_mem _ hxm) with q | ⟨id,c,q1,q2,q3⟩
   ·exact .inl q
   ·refine .inr ⟨id,c,q1,q2,?_⟩
    rw [keep id (Ak.1 q3).1 fun e=>by
     obtain ⟨_,d,w,_⟩:=own id e
     exact p x hxm id d c w q1]
    exact q3
 ·rcases m id a e with q | q
  ·have:=(h.veach y (List.mem_cons_of_mem _ s)).lt
   rw [k] at this
   exact absurd this (by simp only [VO.under];omega)
  ·obtain ⟨c,w⟩:=XK q
   exact p y s id c b w k
end
end Go.Ev
