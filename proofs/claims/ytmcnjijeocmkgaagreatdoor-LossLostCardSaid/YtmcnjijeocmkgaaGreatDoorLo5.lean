/-
  Part 5 of the proof: rules and walks that the claim's last text uses.
-/
import Derived.BigQuiet
import Derived.Deep.LoopGhost
import Derived.Deep.QuietTactic
import Derived.Ground.Names2Prog
import Derived.Ground.NamesProg
import Derived.Ground.SlgfProg
import Derived.Ground.SlgnProg
import Derived.Ground.SlsfProg
import Derived.Laws.RangeAny
import Derived.Lib.OthersKept
import Derived.Shelf.LaysC
import Derived.Shelf.LaysM
import Derived.Shelf.Slices.Cells
import Derived.Shelf.Slices.Clone
import Derived.Shelf.Slices.CompactS
import Derived.Shelf.SlicesE.Clone
import Derived.Shelf.SlicesE.Compact
import Derived.Shelf.SlicesE.DeleteFunc
import Derived.Shelf.SlicesE.Equal
import Derived.Shelf.SlicesE.IndexFunc
import Derived.Shelf.Small.Bits
import Derived.Shelf.Small.Strs
import Derived.Shelf.Small.Utf8
import Derived.Shelf.Sort.Plain
import Derived.Shelf.Spec.SlicesInsertGrow
import Derived.Shelf.Strconv.Atoi
import Derived.Shelf.Strconv.AtoiAll
import Derived.Shelf.Strconv.AtoiErrFast
import Derived.Shelf.Strconv.AtoiFail
import Derived.Shelf.Strconv.AtoiInnerAll
import Derived.Shelf.Strconv.AtoiLong
import Derived.Shelf.Strconv.Clone
import Derived.Shelf.Strconv.Lower
import Derived.Shelf.Strconv.ParseInt10
import Derived.Shelf.Strconv.ParseIntEmpty
import Derived.Shelf.Strconv.ParseUint10
import Derived.Shelf.Strconv.ParseUint10Any
import Derived.Shelf.Strconv.ParseUint10Empty
import Derived.Shelf.Strconv.RangeError
import Derived.Shelf.Strconv.SyntaxError
import Derived.Shelf.Strconv.ToError
import Derived.Shelf.Strconv.ToErrorRange
import Derived.Shelf.Strings.AsciiSet
import Derived.Shelf.Strings.Cut
import Derived.Shelf.Strings.IndexAny
import Derived.Shelf.Strings.IndexAnyAll
import Derived.Shelf.Strings.Prefix
import Derived.Shelf.Strings.Repeat
import Derived.Shelf.Strings.Runes
import Derived.Shelf.Strings.Search1
import Derived.Shelf.Strings.Search2
import Derived.Shelf.Strings.Shaped
import Derived.Test.YtmcnjijeocmkgaaGreatDoorProg
import Derived.WalkMore
import Derived.WalkSmall
import Derived.Test.YtmcnjijeocmkgaaGreatDoorLo4
set_option linter.unusedSimpArgs false
set_option linter.unusedVariables false
set_option maxRecDepth 100000
set_option maxHeartbeats 4000000
namespace Go.Proofs.YtmcnjijeocmkgaaGreatDoor
open Go Go.RowKit Go.Ev
def HJ  (b:Bool):Int :=
 if b then
  3
 else
  0
def KL (b:Ty) (g:Lim):Int :=
 if (!g.bounds)&&((!(decide (b.min=0)))||(!(decide (b.max=0)))) then
  HJ  true
 else
  if (!g.scale)&&(!(decide (b.scale=0))) then
   HJ  true
  else
   if (!g.text)&&(decide (0<(b.words.length:Int))) then
    HJ  true
   else
    if (!g.list)&&(decide (0<(b.elem.length:Int))) then
     HJ  true
    else
     HJ  ((!g.fields)&&(decide (0<(b.fields.length:Int))))
theorem Zbc (w0:World) (B:Ao) (Rw:Av) (L:As) (a0:Ty) (a1:Lim) (r:Int) (h:KL a0 a1=r) :
  ACalls Tryz.prog w0 253 [.agg (a0.cs),.agg (.val (.string a1.name)::(Am a1.low::(Am a1.high::(.val (.bool a1.bounds)::(.val (.bool a1.scale)::(.val (.bool a1.text)::(.val (.bool a1.list)::([.val (.bool a1.fields)]))))))))] ⟨B,Rw,L⟩ fun x st=>x=Am r∧st=⟨B,Rw,L⟩:=by
 rw [KL] at h
 refine hd [.tmp 4] Tryz.func253 Tryz.ntmps253 fun M0 W0 k d f c l g hs=>?_
 simp only [AA]
 refine rg [2,3] hs ?_
 apply An;intro K2 i
 apply Aq
 refine AB (fun e st=>∃ (b:Bool),Ck e st B Rw L [(5,true,.val (.bool b))] [a0.cs,.val (.string a1.name)::(Am a1.low::(Am a1.high::(.val (.bool a1.bounds)::(.val (.bool a1.scale)::(.val (.bool a1.text)::(.val (.bool a1.list)::([.val (.bool a1.fields)])))))))] [] (HJ  b=r)) ?_ ?_
 ·intro K5 j
  exact go (tg (a:=([2,3,5],([5],()),[2,3,5],([5],()),[2,3,5],([5],()),[2,3,5],([5],()),[5],()))) h hs k d f c g trivial (q1 j)
 ·clear h;rintro e st ⟨b,Xk4,Rk4,rfl,rfl,g,h⟩
  rw [HJ] at h
  exact go (tg (a:=(([4],()),[],[4],()))) h hs k d f c g trivial (q1 i)
theorem Zo (w0:World) (B:Ao) (Rw:Av) (L:As) (a0:Ty) (a1:Lim) :
  ACalls Tryz.prog w0 253 [.agg (a0.cs),.agg (.val (.string a1.name)::(Am a1.low::(Am a1.high::(.val (.bool a1.bounds)::(.val (.bool a1.scale)::(.val (.bool a1.text)::(.val (.bool a1.list)::([.val (.bool a1.fields)]))))))))] ⟨B,Rw,L⟩ fun x st=>x=Am (KL a0 a1)∧st=⟨B,Rw,L⟩:=Zbc w0 B Rw L a0 a1 _ rfl
def HS  : ((List Lim)) :=
 [Lim.mk (⟨#[]⟩:ByteArray) 0 0 false false false false false,Lim.mk ((⟨#[98,111,111,108]⟩:ByteArray)) 0 0 false false false false false,Lim.mk ((⟨#[105,110,116]⟩:ByteArray)) ((-999999999999999)) 999999999999999 true false false false false,Lim.mk ((⟨#[100,101,99,105,109,97,108]⟩:ByteArray)) ((-999999999999999)) 999999999999999 true true false false false,Lim.mk ((⟨#[116,101,120,116]⟩:ByteArray)) 0 1024 true false true false false,Lim.mk ((⟨#[98,121,116,101,115]⟩:ByteArray)) 0 1024 true false false false false,Lim.mk ((⟨#[100,97,116,101]⟩:ByteArray)) ((-719162)) 2932896 true false false false false,Lim.mk ((⟨#[116,105,109,101]⟩:ByteArray)) ((-62135596800000)) 253402300799999 true false false false false,Lim.mk ((⟨#[108,105,115,116]⟩:ByteArray)) 0 256 true false false true false,Lim.mk ((⟨#[114,101,99,111,114,100]⟩:ByteArray)) 0 0 false false false false true,Lim.mk ((⟨#[118,97,114,105,97,110,116]⟩:ByteArray)) 0 0 false false false false true]
theorem ZA (w0:World) (B:Ao) (Rw:Av) (L:As)  (r:(List Lim)) (h:HS  = r) :
  ACalls Tryz.prog w0 252 [] ⟨B,Rw,L⟩ fun x st=>x = .agg (r.flatMap fun x=>(Ww x).cells)∧st=⟨B,Rw,L⟩:=by
 rw [HS] at h
 refine hd [.cell 0 259] Tryz.func252 Tryz.ntmps252 fun M0 W0 e b c a f d hs=>?_
 simp only [AA]
 refine rg [0] hs ?_
 refine rg [0] (al hs) ?_
 exact rT h hs a d
theorem XN (w0:World) (B:Ao) (Rw:Av) (L:As)  :
  ACalls Tryz.prog w0 252 [] ⟨B,Rw,L⟩ fun x st=>x = .agg ((HS ).flatMap fun x=>(Ww x).cells)∧st=⟨B,Rw,L⟩:=ZA w0 B Rw L  _ rfl
def LP (b:ByteArray):Vl :=
 Vl.mk 4 0 0 b ([]) ([])
theorem Za2 (w0:World) (B:Ao) (Rw:Av) (L:As) (a0:ByteArray) (r:Vl) (h:LP a0=r) :
  ACalls Tryz.prog w0 190 [.val (.string a0)] ⟨B,Rw,L⟩ fun x st=>x = .agg (r.cs)∧st=⟨B,Rw,L⟩:=by
 rw [LP] at h
 refine hd [.cell 2 34] Tryz.func190 Tryz.ntmps190 fun M0 W0 e b c a f d hs=>?_
 simp only [AA]
 refine rg [0,2] hs ?_
 refine rg [2] hs ?_
 exact rT h hs a d
theorem ZY (w0:World) (B:Ao) (Rw:Av) (L:As) (a0:ByteArray) :
  ACalls Tryz.prog w0 190 [.val (.string a0)] ⟨B,Rw,L⟩ fun x st=>x = .agg ((LP a0).cs)∧st=⟨B,Rw,L⟩:=Za2 w0 B Rw L a0 _ rfl
def KY (n:Nat)  : Option Int :=
 some (0)
def EY (n:Nat) (y:Ty):Nat→Int→Option Int
 | 0,_=>none
 | m+1,b =>
  if decide (b<(y.words.length:Int)) then
   (Cb y.words b).bind fun g =>
   (GY n (LP g)).bind fun h =>
   if !(decide (h=0)) then
    some (h)
   else
    if decide (0<b) then
     if A6 (b-1) then
      (Cb y.words (b-1)).bind fun q =>
      if Gn g q then
       some (7)
      else
       if A6 (b-1) then
        if sLt g q then
         some (24)
        else
         if A6 (b+1) then
          (EY n y m) (b+1)
         else none
       else none
     else none
    else
     if A6 (b+1) then
      (EY n y m) (b+1)
     else none
  else
   KY n 
def LW (n:Nat) (b:Ty):Option Int :=
 if (!(decide (b.min=0)))||(!(decide (b.max=0))) then
  some (3)
 else
  if decide (64<(b.words.length:Int)) then
   some (9)
  else
   EY n b n 0
theorem Zf (w0:World) (hT:Lib.Utf8Tabs 2 3 w0) (n:Nat) (B:Ao) (Rw:Av) (L:As) (a0:Ty) (r:Int) (h:LW n a0=some r) :
  ACalls Tryz.prog w0 254 [.agg (a0.cs)] ⟨B,Rw,L⟩ fun x st=>x=Am r∧st=⟨B,Rw,L⟩:=by
 rw [LW] at h
 refine hd [.tmp 2] Tryz.func254 Tryz.ntmps254 fun M0 W0 k f g c l d hs=>?_
 simp only [AA]
 refine rg [1] hs ?_
 apply An;intro K2 j
 apply Aq
 refine rg [1,6] hs ?_
 refine BQ h hs ?_ ?_<;>intro hs h
 ·refine rg [2] hs ?_
  exact rt h hs c d
 refine rg [1,15] hs ?_
 refine BQ h hs ?_ ?_<;>intro hs h
 ·refine rg [2] hs ?_
  exact rt h hs c d
 refine sk [1] hs j ?_
 clear j
 refine AB (fun e st=>Ck e st B Rw L [] [a0.cs] [] (KY n  = some r)) ?_ ?_
 ·intro K11 i
  refine rg [1,21,22,23] hs ?_
  apply Aq
  refine AC (fun m e st=>∃ (b:Int),Ck e st B Rw L [(1,true,.box B.length 0),(21,true,.list (a0.words.map CB) .none),(22,true,Am (a0.words.length:Int)),(23,true,Am b)] [a0.cs] [] (EY n a0 m b=some r)) n ⟨0,([]),Rw,ef hs,ef hs,d,h⟩ ?_
  rintro ml13 e st ⟨b,Xl13,Rl13,rfl,rfl,d,h⟩ Ul13 Vl13
  cases ml13 with
  | zero=>cases h
  | succ ml13 =>
  rw [EY] at h
  exact go (tg (a:=([1,21,22,23,24],([1,21,22,23],[1,3,4,21,22,23],[1,3,4,5,21,22,23],[1,3,4,5,21,22,23,32],([2],()),[1,3,4,21,22,23],([1,3,4,21,22,23,45],([2],()),[1,3,4,21,22,23],[1,21,22,23,57],([2],()),[1,21,22,23],[1,21,22,23],()),[1,3,4,21,22,23,45],[1,3,4,21,22,23],[1,21,22,23,57],[1,21,22,23],[1,21,22,23],()),[],()))) h hs k f g c d (q2 (ZY w0) (O1 w0 hT n)) (q2 i (fun e s=>Vl13 ml13 e s (Nat.lt_succ_self _)))
 ·clear h;rintro e st ⟨Xk10,Rk10,rfl,rfl,d,h⟩
  rw [KY] at h
  refine td k f g c d ?_
  refine rg [2] hs ?_
  exact rt h hs c d
def QW (n:Nat)  : Option Int :=
 some (0)
def HY (n:Nat) (h:Ty):Nat→Int→Option Int
 | 0,_=>none
 | m+1,b =>
  if decide (b<(h.fields.length:Int)) then
   (LS n h b).bind fun g =>
   if !(decide (g=0)) then
    some (g)
   else
    if A6 (b+1) then
     (HY n h m) (b+1)
    else none
  else
   QW n 
def HI (n:Nat) (g:Ty) (b:Bool):Option Int :=
 if b then
  some (4)
 else
  if (decide (g.kind=8))&&(decide (1<(g.elem.length:Int))) then
   some (3)
  else
   if decide (64<(g.fields.length:Int)) then
    some (9)
   else
    HY n g n 0
def Ko (n:Nat) (b:Ty):Option Int :=
 if (decide (b.kind=8))&&(decide ((b.elem.length:Int)=0)) then
  HI n b true
 else
  HI n b ((decide (b.kind=10))&&(decide ((b.fields.length:Int)=0)))
def L1 (n:Nat) (g:Ty) (b:Bool):Option Int :=
 if b then
  some (2)
 else
  Ko n g 
def P9 (n:Nat) (b:Ty):Option Int :=
 if !(decide (1≤b.kind)&&decide (b.kind≤10)) then
  some (11)
 else
  (Cb (HS ) b.kind).bind fun g =>
  if !(decide ((KL b g)=0)) then
   some (KL b g)
  else
   if (decide (b.kind=4))&&(decide (0<(b.words.length:Int))) then
    (LW n b).bind fun h =>
    if !(decide (h=0)) then
     some (h)
    else
     Ko n b 
   else
    if g.bounds&&(((decide (b.max<b.min))||(decide (b.min<g.low)))||(decide (g.high<b.max))) then
     L1 n b true
    else
     L1 n b (g.scale&&(!(decide (0≤b.scale)&&decide (b.scale≤12))))
theorem Zdo (w0:World) (hT:Lib.Utf8Tabs 2 3 w0) (n:Nat) (B:Ao) (Rw:Av) (L:As) (a0:Ty) (r:Int) (h:P9 n a0=some r) :
  ACalls Tryz.prog w0 172 [.agg (a0.cs)] ⟨B,Rw,L⟩ fun x st=>x=Am r∧st=⟨B,Rw,L⟩:=by
 rw [P9] at h
 refine hd [.tmp 2] Tryz.func172 Tryz.ntmps172 fun M0 W0 t o l b O k hs=>?_
 simp only [AA]
 refine rg [1] hs ?_
 apply An;intro K2 C
 refine rc 2 [1,11] hs ?_;intro K3 J
 refine Aw _ (Qb w0 _ _ _ a0.kind 1 10) (hv hs) ?_
 refine ne hs J ?_
 clear J
 refine BQ h hs ?_ ?_<;>intro hs h
 ·have p:=hs.1
  refine rg [2] hs ?_
  exact rt h hs b k
 have p:=hs.1
 refine sk [1] hs C ?_
 clear C
 apply An;intro K6 F
 obtain ⟨c,K,h⟩:=bind_some h
 obtain ⟨N,v,z⟩:=Bi K
 have g:=MU (f:=fun x=>(Ww x).cells) 8 (fun _=>rfl) z
 have G:(HS ).length=11:=rfl
 first | rw [G] at v | simp only [List.length_cons,List.length_nil,Nat.reduceAdd,Nat.zero_add] at v
 simp only [GE,GA,Gj,EQ,EO,F7,Dp,Ek,Ge,CP,CJ,EF,Ez,Et,Gi,Ew,F5,RZ] at g
 apply J2 PH [4,5] [1,3] kr (fun s=>∃ (X:Ao) (rows:Av),s=⟨B++([a0.cs]++X),rows,L⟩) 3 (B.length+1)
 ·simp +decide only [go_sem,Nat.reduceAdd]
 ·rintro s ⟨X,rows,rfl⟩
  refine ⟨2,?_⟩
  rw [Ap];simp +decide only [go_sem,Nat.reduceAdd,Dk,p,g]
  have hs:=Ae g hs
  (repeat' apply Ae)<;>first | refine Aw _ (XN w0 _ _ _ ) (hv hs) ?_ | exact cl
  rw [Ap];simp +decide only [go_sem,Nat.reduceAdd,p,g]
  (repeat' apply Ae)<;>first | rfl | exact cl
 ·exact gd (tg (a:=(4,5,[1,3]))) (Ae g hs)
 simp +decide only [go_sem,Nat.reduceAdd,p,g]
 (repeat' apply Ae)<;>first | refine F _ _ ?_ | exact cl
 clear F
 apply An;intro K8 D
 have hs:=Ae g hs
 refine rc 2 [1,3,4] hs ?_;intro K9 E
 refine Aw _ (Zo w0 _ _ _ a0 c) (hv hs) ?_
 refine ne hs E ?_
 clear E
 refine rg [1,3,4,20] hs ?_
 refine BQ h hs ?_ ?_<;>intro hs h
 ·refine rg [2] hs ?_
  exact rt h hs b k
 refine sk [1,3] hs D ?_
 clear D
 refine AB (fun e st=>Ck e st B Rw L [(1,true,.box B.length 0)] [a0.cs,.val (.string c.name)::(Am c.low::(Am c.high::(.val (.bool c.bounds)::(.val (.bool c.scale)::(.val (.bool c.text)::(.val (.bool c.list)::([.val (.bool c.fields)])))))))] [] (Ko n a0  = some r)) ?_ ?_
 ·intro K15 q
  apply Aq
  refine rg [1,3,22] hs ?_
  refine BQ h hs ?_ ?_<;>intro hs h
  ·exact go (tg (a:=([1,5],[1,5,35],([2],()),[1],()))) h hs t o l b k (q1 (Zf w0 hT n)) (q1 q)
  refine AB (fun e st=>∃ (j:Bool),Ck e st B Rw L [(1,true,.box B.length 0),(37,true,.val (.bool j))] [a0.cs,.val (.string c.name)::(Am c.low::(Am c.high::(.val (.bool c.bounds)::(.val (.bool c.scale)::(.val (.bool c.text)::(.val (.bool c.list)::([.val (.bool c.fields)])))))))] [] (L1 n a0 j=some r)) ?_ ?_
  ·intro K25 w
   refine rg [1,3,37] hs ?_
   refine BQ h hs ?_ ?_<;>intro hs h
   ·refine sk [1,37] hs w ?_
    exact ⟨true,([]),Rw,ef hs,ef hs,k,h⟩
   refine rk 2 [1,37] hs ?_
   refine OP _ (fun _=>Qb w0 _ _ _ a0.scale 0 12) (hv hs) ?_
   exact go (tg (a:=((),()))) h hs t o l b k trivial (q1 w)
  ·clear h;rintro e st ⟨j,Xk24,Rk24,rfl,rfl,k,h⟩
   rw [L1] at h
   exact go (tg (a:=(([2],()),[1],()))) h hs t o l b k trivial (q1 q)
 ·clear h;rintro e st ⟨Xk14,Rk14,rfl,rfl,k,h⟩
  rw [Ko] at h
  refine td t o l b k ?_
  apply An;intro K30 u
  apply Aq
  refine AB (fun e st=>∃ (i:Bool),Ck e st B Rw L [(1,true,.box B.length 0),(69,true,.val (.bool i))] [a0.cs,.val (.string c.name)::(Am c.low::(Am c.high::(.val (.bool c.bounds)::(.val (.bool c.scale)::(.val (.bool c.text)::(.val (.bool c.list)::([.val (.bool c.fields)])))))))] [] (HI n a0 i=some r)) ?_ ?_
  ·intro K33 y
   exact go (tg (a:=([1,69],([1,69],()),[1,69],()))) h hs t o l b k trivial (q1 y)
  ·clear h;rintro e st ⟨i,Xk32,Rk32,rfl,rfl,k,h⟩
   rw [HI] at h
   refine td t o l b k ?_
   refine BQ h hs ?_ ?_<;>intro hs h
   ·refine rg [2] hs ?_
    exact rt h hs b k
   refine rg [1,88] hs ?_
   refine BQ h hs ?_ ?_<;>intro hs h
   ·refine rg [2] hs ?_
    exact rt h hs b k
   refine rg [1,98] hs ?_
   refine BQ h hs ?_ ?_<;>intro hs h
   ·refine rg [2] hs ?_
    exact rt h hs b k
   refine sk [1] hs u ?_
   clear u
   refine AB (fun e st=>Ck e st B Rw L [] [a0.cs,.val (.string c.name)::(Am c.low::(Am c.high::(.val (.bool c.bounds)::(.val (.bool c.scale)::(.val (.bool c.text)::(.val (.bool c.list)::([.val (.bool c.fields)])))))))] [] (QW n  = some r)) ?_ ?_
   ·intro K46 H
    refine rg [1,105,106] hs ?_
    apply Aq
    refine AC (fun m e st=>∃ (d:Int),Ck e st B Rw L [(1,true,.box B.length 0),(105,true,Am (a0.fields.length:Int)),(106,true,Am d)] [a0.cs,.val (.string c.name)::(Am c.low::(Am c.high::(.val (.bool c.bounds)::(.val (.bool c.scale)::(.val (.bool c.text)::(.val (.bool c.list)::([.val (.bool c.fields)])))))))] [] (HY n a0 m d=some r)) n ⟨0,([]),Rk32,ef hs,ef hs,k,h⟩ ?_
    rintro ml48 e st ⟨d,Xl48,Rl48,rfl,rfl,k,h⟩ Ul48 Vl48
    cases ml48 with
    | zero=>cases h
    | succ ml48 =>
    rw [HY] at h
    exact go (tg (a:=([1,105,106,107],([1,105,106],[1,6,105,106],[1,7,105,106],[1,7,105,106,113],([2],()),[1,105,106],[1,105,106],()),[],()))) h hs t o l b k (q1 (ZF w0 n)) (q2 H (fun e s=>Vl48 ml48 e s (Nat.lt_succ_self _)))
   ·clear h;rintro e st ⟨Xk45,Rk45,rfl,rfl,k,h⟩
    rw [QW] at h
    refine td t o l b k ?_
    refine rg [2] hs ?_
    exact rt h hs b k
def NP (rec:Ty→Int→Int→Option (Int × Int)) (n:Nat)  (pla2_k18:Int):Option (Int × Int) :=
 some ((0,pla2_k18))
def B7 (rec:Ty→Int→Int→Option (Int × Int)) (n:Nat) (a0:Ty) (y:Int) (h:(List Ty)):Nat→Int→Int→Option (Int × Int)
 | 0,_,_=>none
 | m+1,b,pla2_l22 =>
  if decide (b<(h.length:Int)) then
   (Cb h b).bind fun q =>
   if A6 (y+1) then
    (rec q (y+1) pla2_l22).bind fun g =>
    if !(decide (g.1=0)) then
     some ((g.1,g.2))
    else
     if decide (a0.kind=9) then
      (Cb a0.fields b).bind fun z =>
      if decide (z.2.2.1=3) then
       (Cb z.2.2.2.2 0).bind fun x40 =>
       (Jk n q x40).bind fun y41 =>
       if !y41 then
        some ((18,g.2))
       else
        if A6 (b+1) then
         (B7 rec n a0 y h m) (b+1) g.2
        else none
      else
       if A6 (b+1) then
        (B7 rec n a0 y h m) (b+1) g.2
       else none
     else
      if A6 (b+1) then
       (B7 rec n a0 y h m) (b+1) g.2
      else none
   else none
  else
   NP rec n pla2_l22
def On (rec:Ty→Int→Int→Option (Int × Int)) (n:Nat) (q:Ty) (y:Int) (b:Int):Option (Int × Int) :=
 if decide (b=0) then
  some ((9,b))
 else
  if decide (8<y) then
   some ((23,b))
  else
   if A6 (b-1) then
    (P9 n q).bind fun g =>
    if !(decide (g=0)) then
     some ((g,b-1))
    else
     (IE n q).bind fun h =>
     B7 rec n q y h n 0 (b-1)
   else none
def IP:Nat→Ty→Int→Int→Option (Int × Int)
 | 0,_,_,_=>none
 | n+1,g,h,b=>On (IP n) n g h b
def QM (w0:World) (F:Ty→Int→Int→Option (Int × Int)):Prop:=∀ (B:Ao) (Rw:Av) (L:As) (g:Ty) (h:Int) (la2:Nat) (b:Int) (hla2:B[la2]? = some ([Am b])) (r:Int × Int),F g h b=some r→ACalls Tryz.prog w0 82 [.agg (g.cs),Am h,.box la2 0] ⟨B,Rw,L⟩ fun x st=>x=Am r.1∧st=⟨(B.set la2 [Am r.2]),Rw,L⟩
theorem WE (w0:World) (hT:Lib.Utf8Tabs 2 3 w0) (rec:Ty→Int→Int→Option (Int × Int)) (ih:QM w0 rec) (n:Nat):QM w0 (On rec n):=by
 intro B Rw L a0 a1 l a2 v r h
 rw [On] at h
 refine hd [.tmp 6] Tryz.func82 Tryz.ntmps82 fun M0 W0 E j i c hu k hs=>?_
 simp only [AA]
 have Q:=(Ak.1 v).1
 have hs:=Ae (Ar v) hs
 refine rg [1,2,3] hs ?_
 apply An;intro K2 F
 apply Aq
 refine rg [1,2,3,11] hs ?_
 refine BQ h hs ?_ ?_<;>intro hs h
 ·have Z:=hs.1
  refine rg [6] hs ?_
  exact rt h hs c k
 have Z:=hs.1
 refine rg [1,2,3,16] hs ?_
 refine BQ h hs ?_ ?_<;>intro hs h
 ·have V:=hs.1
  refine rg [6] hs ?_
  exact rt h hs c k
 have V:=hs.1
 refine sk [1,2,3] hs F ?_
 clear F
 obtain ⟨ad,h⟩:=Au h
 refine rg [1,2,3] hs ?_
 apply An;intro K11 u
 obtain ⟨af,G,h⟩:=bind_some h
 refine rc 2 [1,2,3,7] hs ?_;intro K12 q
 refine Aw _ (Zdo w0 hT n _ _ _ a0 _ G) (hv hs) ?_
 refine ne hs q ?_
 clear q
 refine rg [1,2,3,7,27] hs ?_
 refine BQ h hs ?_ ?_<;>intro hs h
 ·have z:=hs.1
  exact go (tg (a:=([6],()))) h hs E j i c k trivial trivial
 have z:=hs.1
 refine sk [1,2,3] hs u ?_
 clear u
 refine AB (fun e st=>∃ (d:Int) (Xk18:Ao) (Rk18:Av),e=[]∧st=⟨(B.set l ([Am d]))++([a0.cs]++Xk18),Rk18,L⟩∧Owns Rw Rk18 []∧NP rec n d=some r) ?_ ?_
 ·intro K19 N
  obtain ⟨w,O,h⟩:=bind_some h
  refine rc 2 [1,2,3,30,31,32] hs ?_;intro K20 t
  refine Aw _ (O7 w0 n _ _ _ a0 _ O) (hv hs) ?_
  refine ne hs t ?_
  clear t
  apply Aq
  refine AC (fun m e st=>∃ (g:Int) (b:Int) (Xl22:Ao) (Rl22:Av),e=[(1,true,Am a1),(2,true,.box l 0),(3,true,.box B.length 0),(30,true,.list (w.map J1) .none),(31,true,Am (w.length:Int)),(32,true,Am g)]∧st=⟨(B.set l ([Am b]))++([a0.cs]++Xl22),Rl22,L⟩∧Owns Rw Rl22 []∧B7 rec n a0 a1 w m g b=some r) n ⟨0,(a2-1),([]),Rw,ef hs,ef hs,k,h⟩ ?_
  rintro ml22 e st ⟨g,b,Xl22,Rl22,rfl,rfl,k,h⟩ Ul22 Vl22
  cases ml22 with
  | zero=>cases h
  | succ ml22 =>
  rw [B7] at h
  refine A9 E j i Y6 (CO c ev) k ow ow ?_
  refine rg [1,2,3,30,31,32,33] hs ?_
  apply An;intro K24 o
  refine BQ h hs ?_ ?_<;>intro hs h
  rotate_left
  ·have J:=hs.1
   refine sx [] hs N ?_
   exact ⟨b,([]),Rl22,ef hs,ef hs,k,h⟩
  have J:=hs.1
  refine sk [1,2,3,30,31,32] hs o ?_
  clear o
  apply An;intro K26 C
  apply Aq
  obtain ⟨aa,H,h⟩:=bind_some h
  obtain ⟨Y,U,x⟩:=Bi H
  have y:=Bj (f:=J1) x
  have hs:=Ae y hs
  refine rg [1,2,3,8,9,30,31,32] hs ?_
  apply An;intro K29 K
  obtain ⟨ab,h⟩:=Au h
  obtain ⟨ae,D,h⟩:=bind_some h
  refine rc 2 [1,2,3,8,9,10,30,31,32] hs ?_;intro K30 p
  refine ET _ (ih _ _ _ aa (a1+1) l b (ef hs) _ D) (hv hs) ?_;rintro _ _ ⟨rfl,rfl⟩
  refine ne hs p ?_
  clear p
  exact go (tg (a:=([1,2,3,8,9,10,30,31,32,43],([6],()),[1,2,3,8,9,30,31,32],(([25,1,2,3,30,31,32,69],([6],()),[1,2,3,30,31,32],[1,2,3,30,31,32],()),[25,1,2,3,30,31,32,69],[1,2,3,30,31,32],[1,2,3,30,31,32],()),[25,1,2,3,30,31,32,69],[1,2,3,30,31,32],[1,2,3,30,31,32],()))) h hs E j i c k (q1 (Xp w0 hT n)) (q3 K C (fun e s=>Vl22 ml22 e s (Nat.lt_succ_self _)))
 ·clear h;rintro e st ⟨d,Xk18,Rk18,rfl,rfl,k,h⟩
  rw [NP] at h
  refine A9 E j i Y6 (CO c ev) k ow ow ?_
  exact go (tg (a:=([6],()))) h hs E j i c k trivial trivial
theorem Ur (w0:World) (hT:Lib.Utf8Tabs 2 3 w0):∀ n:Nat,QM w0 (IP n)
 | 0=>fun _ _ _ _ _ _ _ _ _ h=>(nomatch h)
 | n+1=>WE w0 hT (IP n) (Ur w0 hT n) n
def HQ  : List (Nat × Vl)→Int→Option Int
 | [],b1_r6 =>
  some (b1_r6)
 | p_r6::rest,b1_r6 =>
  if A6 (b1_r6+1) then
   (HQ  rest) (b1_r6+1)
  else none
def NU (b:Vl):Option Int :=
 if b.depth<4611686018427387904∧b.wide=true then
  HQ  (F4 1 b) 0
 else none
theorem ZbB (w0:World) (B:Ao) (Rw:Av) (L:As) (a0:Vl) (r:Int) (h:NU a0=some r) :
  ACalls Tryz.prog w0 195 [.agg (a0.cs)] ⟨B,Rw,L⟩ fun x st=>x=Am r∧st=⟨B,Rw,L⟩:=by
 rw [NU] at h
 refine hd [.tmp 2] Tryz.func195 Tryz.ntmps195 fun M0 W0 y q j b J c hs=>?_
 simp only [AA]
 refine rg [1] hs ?_
 refine rg [1,3] hs ?_
 apply An;intro K3 f
 refine rc 2 [3,5] hs ?_;intro K4 e
 refine ET _ (RA w0 _ _ _ a0) (hv hs) ?_;rintro _ _ ⟨rfl,rfl⟩
 refine ne hs e ?_
 clear e
 apply Aq
 obtain ⟨t,h⟩:=Au h
 refine VY (JM a0) (fun st=>st.boxes[(B.length+2)]? = some a0.cs) (fun i st=>∃ (a:Int) (Rr6:Av),st=⟨B++([a0.cs,[Am a],a0.cs]),Rr6,L⟩∧Owns Rw Rr6 []∧HQ  ((F4 1 a0).drop i) a=some r) (fun _ _=>False) ev ev (OK w0 a0 t _) (fun x n=>SK a0 x n) (by decide) ?_ ⟨0,Rw,ef hs,c,h⟩ (fun _ _ h=>h.elim) ?_ ?_ ?_
 ·rintro i st o ⟨a,Rr6,rfl,c,h⟩ _ _;simp +decide [St.push]
 ·rintro i H ⟨XB,XR,XL⟩ x M1 W1 l o C hX w p g n z K u
  obtain ⟨v,m,rfl,E⟩:=To a0 i x n
  (try simp only at hX)
  subst hX
  obtain ⟨a,Rr6,rfl,c,h⟩:=w
  rw [Yn m,HQ] at h
  have d:=c
  simp only [St.ext,St.push,List.append_assoc,List.append_nil]
  refine P4 (ED [3] _) ?_ (FM _ _)
  apply Fv;simp +decide only [go_sem,Nat.reduceAdd]
  (repeat' apply Ae)<;>first | refine u _ _ (by simp [St.ext,St.push]) (fun G k=>?_) | exact cl
  clear u
  dsimp only [St.ext,St.push]
  apply Aq
  obtain ⟨D,h⟩:=Au h
  apply Ax 1 [3]
  rw [Ap];simp +decide only [go_sem,Nat.reduceAdd]
  (repeat' apply Ae)<;>first | refine k _ _ _ ⟨⟨B++[a0.cs,[Am (a+1)],a0.cs],Rr6,L⟩,[],by first | rfl | (simp only [List.append_assoc,List.append_nil,List.cons_append,List.nil_append];done),⟨by simp,by first | exact Nat.le_refl _ | (have:=c.len;simp;omega),rfl⟩,rfl,⟨(a+1),Rr6,ef hs,c,h⟩,?_⟩ | exact cl
  exact .inl rfl
 ·rintro s o ⟨XB,XR,XL⟩ hXR ⟨a,Rr6,rfl,c,h⟩ _ _
  simp only at hXR
  subst hXR
  rw [List.drop_eq_nil_of_le (by rw [OI];exact Nat.le_refl _),HQ] at h
  simp only [St.ext,St.push,List.append_assoc,List.append_nil]
  (repeat' apply Ae)<;>first | refine f _ _ ?_ | exact cl
  clear f
  refine VN (bs:=[a0.cs,[Am a],a0.cs]) y q j rfl b c ow ow ?_
  refine rg [2] hs ?_
  exact rt h hs b c
 ·rintro F s o X hX h;exact h.elim
def Dy (rec:Ty→Option Int) (n:Nat) (g:Int→Int→Option Int) (b:Int) (h:Int):Option Int :=
 if A6 (b+1) then
  g h (b+1)
 else none
def DR (rec:Ty→Option Int) (n:Nat)  (b:Int):Option Int :=
 some ((if 4097<b then 4097 else b))
def Bq (rec:Ty→Option Int) (n:Nat) (z:Ty):Nat→Int→Int→Option Int
 | 0,_,_=>none
 | m+1,g,b =>
  if decide (b<(z.fields.length:Int)) then
   (Cb z.fields b).bind fun h =>
   if decide (h.2.2.1=1) then
    (rec h.2.2.2.1).bind fun q =>
    if A6 (g+q) then
     Dy rec n (Bq rec n z m) b (g+q)
    else none
   else
    if decide (h.2.2.1=3) then
     (Cb h.2.2.2.2 0).bind fun x39 =>
     (NU x39).bind fun y =>
     if A6 (g+y) then
      Dy rec n (Bq rec n z m) b (g+y)
     else none
    else
     Dy rec n (Bq rec n z m) b g
  else
   DR rec n g
def I0 (rec:Ty→Option Int) (n:Nat) (b:Ty):Option Int :=
 if decide (b.kind=8) then
  if decide (0<b.min) then
   (Cb b.elem 0).bind fun q =>
   (rec q).bind fun g =>
   if A6 (b.min*g) then
    if A6 (1+(b.min*g)) then
     DR rec n (1+(b.min*g))
    else none
   else none
  else
   DR rec n 1
 else
  if decide (b.kind=10) then
   (Cb b.fields 0).bind fun y =>
   (rec y.2.2.2.1).bind fun h =>
   if A6 (1+h) then
    DR rec n (1+h)
   else none
  else
   if decide (b.kind=9) then
    Bq rec n b n 1 0
   else
    DR rec n 1
def C0:Nat→Ty→Option Int
 | 0,_=>none
 | n+1,b=>I0 (C0 n) n b
def LL (w0:World) (F:Ty→Option Int):Prop:=∀ (B:Ao) (Rw:Av) (L:As) (b:Ty) (r:Int),F b=some r→ACalls Tryz.prog w0 173 [.agg (b.cs)] ⟨B,Rw,L⟩ fun x st=>x=Am r∧st=⟨B,Rw,L⟩
theorem QT (w0:World) (rec:Ty→Option Int) (ih:LL w0 rec) (n:Nat):LL w0 (I0 rec n):=by
 intro B Rw L a0 r h
 rw [I0] at h
 refine hd [.tmp 2] Tryz.func173 Tryz.ntmps173 fun M0 W0 p i j c t k hs=>?_
 simp only [AA]
 refine rg [1] hs ?_
 refine rg [1,3] hs ?_
 refine AB (fun e st=>∃ (g:Int),Ck e st B Rw L [(3,true,Am g)] [a0.cs] [] (DR rec n g=some r)) ?_ ?_
 ·intro K5 l
  refine rg [1,3,7] hs ?_
  apply Aq
  refine rg [1,3,7,8] hs ?_
  refine BQ h hs ?_ ?_<;>intro hs h
  ·exact go (tg (a:=([1,3,12],([10,3],()),[3],()))) h hs p i j c k (q1 ih) (q1 l)
  refine rg [1,3,7,23] hs ?_
  refine BQ h hs ?_ ?_<;>intro hs h
  ·exact go (tg (a:=([3],()))) h hs p i j c k (q1 ih) (q1 l)
  refine rg [1,3,33] hs ?_
  refine BQ h hs ?_ ?_<;>intro hs h
  ·refine rg [3,36,37,38] hs ?_
   apply Aq
   refine AC (fun m e st=>∃ (d:Int) (b:Int),Ck e st B Rw L [(3,true,Am d),(36,true,.list (a0.fields.map Cd) .none),(37,true,Am (a0.fields.length:Int)),(38,true,Am b)] [a0.cs] [] (Bq rec n a0 m d b=some r)) n ⟨1,0,([]),Rw,ef hs,ef hs,k,h⟩ ?_
   rintro ml23 e st ⟨d,b,Xl23,Rl23,rfl,rfl,k,h⟩ Ul23 Vl23
   cases ml23 with
   | zero=>cases h
   | succ ml23 =>
   rw [Bq] at h
   refine td p i j c k ?_
   refine rg [3,36,37,38,39] hs ?_
   apply An;intro K25 o
   refine BQ h hs ?_ ?_<;>intro hs h
   rotate_left
   ·refine sx [3] hs l ?_
    exact ⟨d,([]),Rl23,ef hs,ef hs,k,h⟩
   refine sk [3,36,37,38] hs o ?_
   clear o
   refine AB (fun e st=>∃ (f:Int),Ck e st B Rw L [(3,true,Am f),(36,true,.list (a0.fields.map Cd) .none),(37,true,Am (a0.fields.length:Int)),(38,true,Am b)] [a0.cs] [] (Dy rec n (Bq rec n a0 ml23) b f=some r)) ?_ ?_
   ·intro K29 q
    exact go (tg (a:=([3,5,36,37,38],[3,5,36,37,38,43],[3,5,36,37,38,43,44],([3,36,37,38],()),[3,5,36,37,38,51],([3,36,37,38],()),[3,36,37,38],()))) h hs p i j c k (q2 ih (ZbB w0)) (q1 q)
   ·clear h;rintro e st ⟨f,Xk28,Rk28,rfl,rfl,k,h⟩
    rw [Dy] at h
    exact go (tg (a:=([3,36,37,38],()))) h hs p i j c k trivial (q1 (fun e s=>Vl23 ml23 e s (Nat.lt_succ_self _)))
  refine sk [3] hs l ?_
  exact ⟨1,([]),Rw,ef hs,ef hs,k,h⟩
 ·clear h;rintro e st ⟨g,Xk4,Rk4,rfl,rfl,k,h⟩
  rw [DR] at h
  refine td p i j c k ?_
  refine rg [2] hs ?_
  exact rt h hs c k
theorem ND (w0:World):∀ n:Nat,LL w0 (C0 n)
 | 0=>fun _ _ _ _ _ h=>(nomatch h)
 | n+1=>QT w0 (C0 n) (ND w0 n) n
def Hr (rec:Ty→Option Int) (n:Nat)  (b:Int):Option Int :=
 some (b)
def B5 (rec:Ty→Option Int) (n:Nat) (y:Ty):Nat→Int→Int→Option Int
 | 0,_,_=>none
 | m+1,g,b =>
  if decide (b<(y.fields.length:Int)) then
   (Cb y.fields b).bind fun q =>
   (rec q.2.2.2.1).bind fun h =>
   if A6 (b+1) then
    (B5 rec n y m) ((if g<h then h else g)) (b+1)
   else none
  else
   Hr rec n g
def H6 (rec:Ty→Option Int) (n:Nat) (g:Ty) (b:Int):Option Int :=
 B5 rec n g n b 0
def Cf (rec:Ty→Option Int) (n:Nat) (q:Ty):Nat→Int→Int→Option Int
 | 0,_,_=>none
 | m+1,g,b =>
  if decide (b<(q.elem.length:Int)) then
   (Cb q.elem b).bind fun y =>
   (rec y).bind fun h =>
   if A6 (b+1) then
    (Cf rec n q m) ((if g<h then h else g)) (b+1)
   else none
  else
   H6 rec n q g
def G2 (rec:Ty→Option Int) (n:Nat) (b:Ty):Option Int :=
 (C0 n b).bind fun g =>
 Cf rec n b n g 0
def B9:Nat→Ty→Option Int
 | 0,_=>none
 | n+1,b=>G2 (B9 n) n b
def IQ (w0:World) (F:Ty→Option Int):Prop:=∀ (B:Ao) (Rw:Av) (L:As) (b:Ty) (r:Int),F b=some r→ACalls Tryz.prog w0 83 [.agg (b.cs)] ⟨B,Rw,L⟩ fun x st=>x=Am r∧st=⟨B,Rw,L⟩
theorem Oy (w0:World) (rec:Ty→Option Int) (ih:IQ w0 rec) (n:Nat):IQ w0 (G2 rec n):=by
 intro B Rw L a0 r h
 rw [G2] at h
 refine hd [.tmp 2] Tryz.func83 Tryz.ntmps83 fun M0 W0 t o l b x k hs=>?_
 simp only [AA]
 refine rg [1] hs ?_
 obtain ⟨w,u,h⟩:=bind_some h
 refine rc 2 [1,3] hs ?_;intro K2 p
 refine Aw _ (ND w0 n _ _ _ a0 _ u) (hv hs) ?_
 refine ne hs p ?_
 clear p
 refine AB (fun e st=>∃ (i:Int),Ck e st B Rw L [(1,true,.box B.length 0),(3,true,Am i)] [a0.cs] [] (H6 rec n a0 i=some r)) ?_ ?_
 ·intro K6 v
  refine rg [1,3,11,12,13] hs ?_
  apply Aq
  refine AC (fun m e st=>∃ (j:Int) (f:Int),Ck e st B Rw L [(1,true,.box B.length 0),(3,true,Am j),(11,true,.list (a0.elem.map J1) .none),(12,true,Am (a0.elem.length:Int)),(13,true,Am f)] [a0.cs] [] (Cf rec n a0 m j f=some r)) n ⟨w,0,([]),Rw,ef hs,ef hs,k,h⟩ ?_
  rintro ml8 e st ⟨j,f,Xl8,Rl8,rfl,rfl,k,h⟩ Ul8 Vl8
  cases ml8 with
  | zero=>cases h
  | succ ml8 =>
  rw [Cf] at h
  exact go (tg (a:=([1,3,11,12,13,14],([1,3,11,12,13],[1,3,5,11,12,13],[1,3,11,12,13],[1,3,11,12,13],()),[1,3],()))) h hs t o l b k (q1 ih) (q2 v (fun e s=>Vl8 ml8 e s (Nat.lt_succ_self _)))
 ·clear h;rintro e st ⟨i,Xk5,Rk5,rfl,rfl,k,h⟩
  rw [H6] at h
  refine td t o l b k ?_
  refine AB (fun e st=>∃ (g:Int),Ck e st B Rw L [(3,true,Am g)] [a0.cs] [] (Hr rec n g=some r)) ?_ ?_
  ·intro K19 q
   refine rg [3,23,24,25] hs ?_
   apply Aq
   refine AC (fun m e st=>∃ (d:Int) (c:Int),Ck e st B Rw L [(3,true,Am d),(23,true,.list (a0.fields.map Cd) .none),(24,true,Am (a0.fields.length:Int)),(25,true,Am c)] [a0.cs] [] (B5 rec n a0 m d c=some r)) n ⟨i,0,([]),Rk5,ef hs,ef hs,k,h⟩ ?_
   rintro ml21 e st ⟨d,c,Xl21,Rl21,rfl,rfl,k,h⟩ Ul21 Vl21
   cases ml21 with
   | zero=>cases h
   | succ ml21 =>
   rw [B5] at h
   exact go (tg (a:=([3,23,24,25,26],([3,23,24,25],[3,7,23,24,25],[3,23,24,25],[3,23,24,25],()),[3],()))) h hs t o l b k (q1 ih) (q2 q (fun e s=>Vl21 ml21 e s (Nat.lt_succ_self _)))
  ·clear h;rintro e st ⟨g,Xk18,Rk18,rfl,rfl,k,h⟩
   rw [Hr] at h
   refine td t o l b k ?_
   refine rg [2] hs ?_
   exact rt h hs b k
theorem Ly (w0:World):∀ n:Nat,IQ w0 (B9 n)
 | 0=>fun _ _ _ _ _ h=>(nomatch h)
 | n+1=>Oy w0 (B9 n) (Ly w0 n) n
def HT (n:Nat) (h:Ty):Option Int :=
 (IP n h 1 4096).bind fun g =>
 if !(decide (g.1=0)) then
  some (g.1)
 else
  (B9 n h).bind fun b =>
  if decide (4096<b) then
   some (9)
  else
   some (0)
theorem ON (w0:World) (hT:Lib.Utf8Tabs 2 3 w0) (n:Nat) (B:Ao) (Rw:Av) (L:As) (a0:Ty) (r:Int) (h:HT n a0=some r) :
  ACalls Tryz.prog w0 29 [.agg (a0.cs)] ⟨B,Rw,L⟩ fun x st=>x=Am r∧st=⟨B,Rw,L⟩:=by
 rw [HT] at h
 refine hd [.tmp 2] Tryz.func29 Tryz.ntmps29 fun M0 W0 j c d b l i hs=>?_
 simp only [AA]
 refine rg [1] hs ?_
 refine rg [1,3] hs ?_
 apply An;intro K3 f
 obtain ⟨k,g,h⟩:=bind_some h
 refine rc 2 [1,4] hs ?_;intro K4 e
 refine ET _ (Ur w0 hT n _ _ _ a0 1 (B.length+1) 4096 ev _ g) (hv hs) ?_;rintro _ _ ⟨rfl,rfl⟩
 exact go (tg (a:=([1,4,8],([2],()),[1],[12],([2],()),[],[2],()))) h hs j c d b i (q1 (Ly w0 n)) (q2 e f)
def Z8 (x:ByteArray):Int:=Tn (Vl.mk 4 0 0 x [] [])
def Zd:Option ByteArray→List ByteArray→Int
 | _,[]=>0
 | none,x::r=>if Z8 x=0 then Zd (some x) r else Z8 x
 | some p,x::r=>if Z8 x=0 then (if Gn x p=true then 7 else if sLt x p=true then 24 else Zd (some x) r) else Z8 x
def ZK (l:List ByteArray):Nat→Option ByteArray
 | 0=>none
 | i+1=>l[i]?
theorem Zgg (x:ByteArray) (h:x.size≤1048576):(Vl.mk 4 0 0 x [] []).ok∧(Vl.mk 4 0 0 x [] []).size=1:=⟨by simp [Vl.ok,Zbj,Zbw,h],by simp [Vl.size,D8,EI]⟩
theorem Zi5 (n:Nat) (hn:4≤n) (x:ByteArray) (h:x.size≤1048576):GY n (LP x)=some (Z8 x):=by
 obtain ⟨b,a⟩:=Zgg x h
 have e:LP x=Vl.mk 4 0 0 x [] []:=rfl
 rw [e]
 exact V5 n _ (by rw [a];omega) (by rw [a];omega) b
theorem Zdc (n:Nat) (hn:4≤n) (t:Ty) (hl:t.words.length≤1000000000) (hz:∀ x∈t.words,x.size≤1048576):∀ (k m i:Nat),i+k=t.words.length→k<m→EY n t m i=some (Zd (ZK t.words i) (t.words.drop i))
 | k,0,i,_,h=>absurd h (Nat.not_lt_zero _)
 | 0,m+1,i,hi,_=>by
  rw [EY,AD,Ac]
  simp only [Bool.false_eq_true,if_false,KY]
  rw [List.drop_eq_nil_of_le (by omega)]
  cases ZK t.words i<;>rfl
 | k+1,m+1,i,hi,hm=>by
  have a:i<t.words.length:=by omega
  have ih:=Zdc n hn t hl hz k m (i+1) (by omega) (by omega)
  rw [EY,AD,Ah a]
  simp only [if_true,AH a,Af]
  rw [Zi5 n hn _ (hz _ (List.getElem_mem a)),List.drop_eq_getElem_cons a]
  simp only [Af]
  have e:ZK t.words (i+1)=some t.words[i]:=by simp only [ZK,List.getElem?_eq_getElem a]
  rw [e] at ih
  cases i with
  | zero =>
   simp only [ZK,Zd]
   by_cases hb:Z8 t.words[0]=0
   ·rw [Ai hb,Ah hb]
    simp only [Bool.not_true,Bool.false_eq_true,if_false]
    rw [Aj (by decide),Ai (AG (by omega))]
    exact ih
   ·rw [Aj hb,Ag hb];rfl
  | succ j =>
   have b:j<t.words.length:=by omega
   have c:ZK t.words (j+1)=some t.words[j]:=by simp only [ZK,List.getElem?_eq_getElem b]
   rw [c]
   simp only [Zd]
   by_cases hb:Z8 t.words[j+1]=0
   ·rw [Ai hb,Ah hb]
    simp only [Bool.not_true,Bool.false_eq_true,if_false,Zas,if_true,Yx]
    have d:A6 (j:Int):=ZaA (by omega)
    simp only [Ai d,AH b,Af]
    by_cases h1:Gn t.words[j+1] t.words[j]=true
    ·rw [Ai h1,Ai h1]
    ·rw [Aj h1,Aj h1]
     by_cases h2:sLt t.words[j+1] t.words[j]=true
     ·rw [Ai h2,Ai h2]
     ·rw [Aj h2,Aj h2,Ai (AG (by omega))]
      exact ih
   ·rw [Aj hb,Ag hb];rfl
def NE (t:Ty):Int:=if t.min≠0∨t.max≠0 then 3 else if 64<t.words.length then 9 else Zd none t.words
theorem Zbm (n:Nat) (hn:4≤n) (t:Ty) (hw:t.words.length<n) (hl:t.words.length≤1000000000) (hz:∀ x∈t.words,x.size≤1048576):LW n t=some (NE t):=by
 have e:=Zdc n hn t hl hz t.words.length n 0 (by omega) hw
 rw [List.drop_zero] at e
 rw [LW,NE]
 by_cases h:t.min≠0∨t.max≠0
 ·rw [Ai h,Ai (by simpa using h)]
 ·rw [Aj h,Aj (by simpa using h)]
  by_cases h2:64<t.words.length
  ·rw [Ai h2,Ai (Ah (by omega))]
  ·rw [Aj h2,Aj (by rw [decide_eq_true_eq];omega)]
   exact e
theorem X4 (n:Nat) (l:List TF) (p:TF→Bool) (hl:l.length≤1000000000) (hn:l.length<n):AO n l (fun x=>some (p x))=some (l.any p):=by
 have e:=QS n l p hl l.length n 0 (by omega) hn
 have a:Ba n l (fun x=>some (p x))=some (Ox p l 0):=e
 rw [AO,a,Af]
 congr 1
 have := @List.findIdx_lt_length _ p l
 unfold Ox
 rw [List.drop_zero]
 by_cases h:l.findIdx p<l.length
 ·rw [Ai h,Ad,List.any_eq_true.2 (this.1 h)]
 ·rw [Aj h,Ac]
  exact (Bool.eq_false_iff.2 fun q=>h (this.2 (List.any_eq_true.1 q))).symm
def Nb (k:Int) (b:List TF) (x:TF):Int :=
 if EZ x.2.1=true then
  if ¬ (1≤x.1∧x.1≤9999) then 2
  else if (b.any fun q=>En q x)=true then 7
  else if ¬ (1≤x.2.2.1∧x.2.2.1≤3)∨(k=10∧x.2.2.1≠1) then 11
  else if x.2.2.1=3∧x.2.2.2.2.length=0 then 4
  else if 1<x.2.2.2.2.length∨(x.2.2.1≠3∧0<x.2.2.2.2.length) then 3
  else 0
 else 12
def JD (k:Int):List TF→List TF→Int
 | _,[]=>0
 | b,x::r=>if Nb k b x=0 then JD k (b++[x]) r else Nb k b x
theorem Xj {α:Type} (l:List α) (i:Nat) (h:i<l.length):l.take i++[l[i]]=l.take (i+1):=by rw [List.take_succ_eq_append_getElem h]
theorem Zbd (n:Nat) (t:Ty) (i:Nat) (h:i<t.fields.length) (hl:t.fields.length≤1000000000) (hn:t.fields.length<n) (hz:∀ p∈t.fields,p.2.1.size≤1048576):LS n t i=some (Nb t.kind (t.fields.take i) t.fields[i]):=by
 rw [LS,AH h]
 simp only [Af]
 rw [Ai (Zj (by have:=hz _ (List.getElem_mem h);omega)),Nb,Int.toNat_natCast,X4 n _ _ (by rw [List.length_take];omega) (by rw [List.length_take];omega)]
 simp only [Af]
 by_cases h1:EZ t.fields[i].2.1=true
 rotate_left
 ·rw [Aj h1,Bool.eq_false_iff.2 h1];rfl
 rw [Ai h1,h1]
 simp only [Bool.not_true,Bool.false_eq_true,if_false]
 by_cases h2:1≤t.fields[i].1∧t.fields[i].1≤9999
 rotate_left
 ·rw [Ai (show (!(decide (1≤t.fields[i].1)&&decide (t.fields[i].1≤9999)))=true by simp;omega),Ai h2]
 rw [Aj (show ¬ (!(decide (1≤t.fields[i].1)&&decide (t.fields[i].1≤9999)))=true by simp;omega),Aj (fun q:¬ _=>q h2),Ab]
 by_cases h3:((t.fields.take i).any fun q=>En q t.fields[i])=true
 ·rw [Ai h3,Ai h3]
 rw [Aj h3,Aj h3]
 by_cases h4:¬ (1≤t.fields[i].2.2.1∧t.fields[i].2.2.1≤3)∨(t.kind=10∧t.fields[i].2.2.1≠1)
 ·rw [Ai h4,Ai (by simp;omega)]
 rw [Aj h4,Aj (by simp;omega)]
 by_cases h5:t.fields[i].2.2.1=3∧t.fields[i].2.2.2.2.length=0
 ·rw [Ai h5,Ai (by simp;exact ⟨h5.1,List.length_eq_zero_iff.1 h5.2⟩)]
 rw [Aj h5,Aj (by simp;intro a b;exact h5 ⟨a,by rw [b];rfl⟩)]
 by_cases h6:1<t.fields[i].2.2.2.2.length∨(t.fields[i].2.2.1≠3∧0<t.fields[i].2.2.2.2.length)
 ·rw [Ai h6,Ai (by simp only [Bool.or_eq_true,Bool.and_eq_true,decide_eq_true_eq,Bool.not_eq_true',decide_eq_false_iff_not];omega)]
 ·rw [Aj h6,Aj (by simp only [Bool.or_eq_true,Bool.and_eq_true,decide_eq_true_eq,Bool.not_eq_true',decide_eq_false_iff_not];omega)]
theorem XS (n:Nat) (t:Ty) (hl:t.fields.length≤1000000000) (hn:t.fields.length<n) (hz:∀ p∈t.fields,p.2.1.size≤1048576):∀ (k m i:Nat),i+k=t.fields.length→k<m→HY n t m i=some (JD t.kind (t.fields.take i) (t.fields.drop i))
 | k,0,i,_,h=>absurd h (Nat.not_lt_zero _)
 | 0,m+1,i,hi,_=>by
  rw [HY,AD,Ac]
  rw [List.drop_eq_nil_of_le (by omega)];rfl
 | k+1,m+1,i,hi,hm=>by
  have a:i<t.fields.length:=by omega
  rw [HY,AD,Ah a,Zbd n t i a hl hn hz,List.drop_eq_getElem_cons a,JD]
  simp only [if_true,Af]
  by_cases h:Nb t.kind (t.fields.take i) t.fields[i]=0
  ·rw [Ah h,Ai h]
   simp only [Bool.not_true,Bool.false_eq_true,if_false]
   rw [Ai (AG (by omega)),Xj _ _ a]
   exact XS n t hl hn hz k m (i+1) (by omega) (by omega)
  ·rw [Ag h,Aj h];rfl
def PZ (t:Ty):Int :=
 if t.kind<1∨10<t.kind then 11
 else if Bg t=true then 3
 else if t.kind=4∧0<t.words.length then NE t
 else if ((2≤t.kind∧t.kind≤8)∧BO t (AW t.kind).1 (AW t.kind).2=false)∨¬ (0≤t.scale∧t.scale≤12) then 2
 else if (t.kind=8∧t.elem.length=0)∨(t.kind=10∧t.fields.length=0) then 4
 else if 1<t.elem.length then 3
 else if 64<t.fields.length then 9
 else JD t.kind [] t.fields
def Ty.fit (t:Ty) (n:Nat):Prop:=4≤n∧t.words.length<n∧t.fields.length<n∧t.words.length≤1000000000∧t.fields.length≤1000000000∧t.elem.length≤1000000000∧(∀ x∈t.words,x.size≤1048576)∧∀ p∈t.fields,p.2.1.size≤1048576
def Ut (k:Int):Lim:=(HS[k.toNat]?).getD (Lim.mk ⟨#[]⟩ 0 0 false false false false false)
theorem Zgi (k:Int) (h:¬ (k<1∨10<k)):Cb HS k=some (Ut k):=by
 rcases Hy h with hk | hk | hk | hk | hk | hk | hk | hk | hk | hk<;>subst hk<;>rfl
theorem Ze2 (t:Ty) (h:¬ (t.kind<1∨10<t.kind)):KL t (Ut t.kind)=if Bg t=true then 3 else 0:=by
 have a:∀ x:Nat,decide (0<(x:Int)) = !decide ((x:Int)=0):=fun x=>by
  by_cases h:x=0
  ·subst h;rfl
  ·rw [Ah (show 0<(x:Int) by omega),Ag (show ¬ (x:Int)=0 by omega)];rfl
 have b:decide (t.min=0)=true∨decide (t.min=0)=false:=by cases decide (t.min=0)<;>simp
 rw [KL,Bg]
 simp only [a,HJ]
 generalize decide (t.min=0)=b1
 generalize decide (t.max=0)=b2
 generalize decide (t.scale=0)=b3
 generalize decide ((t.words.length:Int)=0)=b4
 generalize decide ((t.elem.length:Int)=0)=b5
 generalize decide ((t.fields.length:Int)=0)=b6
 clear b a
 rcases Hy h with hk | hk | hk | hk | hk | hk | hk | hk | hk | hk<;>simp only [hk]<;>cases b1<;>cases b2<;>cases b3<;>cases b4<;>cases b5<;>cases b6<;>rfl
theorem Zfr (n:Nat) (t:Ty) (h:t.fit n):P9 n t=some (PZ t):=by
 obtain ⟨r,D,l,w,p,G,u,s⟩:=h
 have x:=Zbm n r t D w u
 have k:=XS n t p l s t.fields.length n 0 (by omega) l
 rw [List.drop_zero,List.take_zero] at k
 have g:HY n t n 0=some (JD t.kind [] t.fields):=k
 have o:HI n t false=some (if 1<t.elem.length∧t.kind=8 then 3 else if 64<t.fields.length then 9 else JD t.kind [] t.fields):=by
  rw [HI,Aj (by decide)]
  by_cases q:1<t.elem.length∧t.kind=8
  ·rw [Ai q,Ai (by simp only [Bool.and_eq_true,decide_eq_true_eq];omega)]
  ·rw [Aj q,Aj (by simp only [Bool.and_eq_true,decide_eq_true_eq];omega)]
   by_cases q2:64<t.fields.length
   ·rw [Ai q2,Ai (Ah (by omega))]
   ·rw [Aj q2,Aj (by rw [decide_eq_true_eq];omega),g]
 have m:HI n t true=some 4:=by rw [HI,Ai rfl]
 have i:¬ Bg t=true→Ko n t=some (if (t.kind=8∧t.elem.length=0)∨(t.kind=10∧t.fields.length=0) then 4 else if 1<t.elem.length then 3 else if 64<t.fields.length then 9 else JD t.kind [] t.fields):=fun y=>by
  have C:1<t.elem.length→t.kind=8:=fun q=>by
   by_cases k8:t.kind=8
   ·exact k8
   ·exfalso;apply y;rw [Bg,Ag k8,Ah (show 0<(t.elem.length:Int) by omega)];simp
  rw [Ko]
  by_cases q1:t.kind=8∧t.elem.length=0
  ·rw [Ai (by simp only [Bool.and_eq_true,decide_eq_true_eq];omega),m,Ai (.inl q1)]
  rw [Aj (by simp only [Bool.and_eq_true,decide_eq_true_eq];omega)]
  by_cases q2:t.kind=10∧t.fields.length=0
  ·rw [Ah q2.1,Ah (show (t.fields.length:Int)=0 by omega),show (true&&true)=true from rfl,m,Ai (.inr q2)]
  ·have e:(decide (t.kind=10)&&decide ((t.fields.length:Int)=0))=false:=by
    rw [Bool.eq_false_iff];simp only [ne_eq,Bool.and_eq_true,decide_eq_true_eq];omega
   rw [e,o,Aj (show ¬ ((t.kind=8∧t.elem.length=0)∨(t.kind=10∧t.fields.length=0)) by omega)]
   by_cases q3:1<t.elem.length
   ·rw [Ai ⟨q3,C q3⟩,Ai q3]
   ·rw [Aj (fun q=>q3 q.1),Aj q3]
 rw [P9,PZ]
 by_cases q1:t.kind<1∨10<t.kind
 ·rw [Ai q1,Ai (by simp;omega)]
 rw [Aj q1,Aj (by simp;omega),Zgi _ q1]
 simp only [Af]
 rw [Ze2 t q1]
 by_cases q2:Bg t=true
 ·rw [Ai q2,Ai q2];rfl
 rw [Aj q2,Aj q2,Aj (by decide)]
 have d:=i q2
 by_cases q3:t.kind=4∧0<t.words.length
 ·rw [Ai q3,Ai (by simp only [Bool.and_eq_true,decide_eq_true_eq];omega),x]
  simp only [Af]
  by_cases z:NE t=0
  ·rw [Ah z,z,Aj (by decide),d]
   have F:t.elem.length=0:=by
    rcases Nat.eq_zero_or_pos t.elem.length with e | e
    ·exact e
    ·exfalso;apply q2;rw [Bg,Ag (show ¬ t.kind=8 by omega),Ah (show 0<(t.elem.length:Int) by omega)];simp
   have E:t.fields.length=0:=by
    rcases Nat.eq_zero_or_pos t.fields.length with e | e
    ·exact e
    ·exfalso;apply q2;rw [Bg,Ag (show ¬ t.kind=9 by omega),Ag (show ¬ t.kind=10 by omega),Ah (show 0<(t.fields.length:Int) by omega)];simp
   rw [Aa,Aa,Aa,List.length_eq_zero_iff.1 E];rfl
  ·rw [Ag z];rfl
 rw [Aj q3,Aj (by simp only [Bool.and_eq_true,decide_eq_true_eq];omega)]
 have f:t.kind≠3→t.scale=0:=fun c=>by
  by_cases z:t.scale=0
  ·exact z
  ·exfalso;apply q2;rw [Bg,Ag c,Ag z];simp
 have v:((Ut t.kind).bounds&&(((decide (t.max<t.min))||(decide (t.min<(Ut t.kind).low)))||(decide ((Ut t.kind).high<t.max))))=((decide (2≤t.kind∧t.kind≤8)) && !(BO t (AW t.kind).1 (AW t.kind).2)):=by
  have g1:∀ a b:Int,decide (a<b) = !decide (b≤a):=fun a b=>by
   by_cases q:a<b
   ·rw [Ah q,Ac];rfl
   ·rw [Ag q,Ad];rfl
  simp only [g1,BO]
  rcases Hy q1 with hk | hk | hk | hk | hk | hk | hk | hk | hk | hk<;>simp only [hk] <;>
   simp [Ut,HS,AW,MG,LI,Bool.or_comm,Bool.or_left_comm,Bool.or_assoc]
 have hs:(Ut t.kind).scale=decide (t.kind=3):=by
  rcases Hy q1 with hk | hk | hk | hk | hk | hk | hk | hk | hk | hk<;>simp only [hk]<;>rfl
 rw [v,hs]
 by_cases q4:(2≤t.kind∧t.kind≤8)∧BO t (AW t.kind).1 (AW t.kind).2=false
 ·rw [Ah q4.1,Ai (Or.inl q4),q4.2];rfl
 have j:(decide (2≤t.kind∧t.kind≤8) && !(BO t (AW t.kind).1 (AW t.kind).2))=false:=by
  rw [Bool.eq_false_iff];simp only [ne_eq,Bool.and_eq_true,decide_eq_true_eq,Bool.not_eq_true'];exact q4
 rw [j,Aj (by decide)]
 by_cases q5:¬ (0≤t.scale∧t.scale≤12)
 ·have c:t.kind=3:=by
   by_cases c:t.kind=3
   ·exact c
   ·exact absurd (f c) (by omega)
  have e:(decide (t.kind=3) && !(decide (0≤t.scale)&&decide (t.scale≤12)))=true:=by simp [c];omega
  rw [Ai (Or.inr q5),e];rfl
 ·have e:(decide (t.kind=3) && !(decide (0≤t.scale)&&decide (t.scale≤12)))=false:=by
   rw [Bool.eq_false_iff];simp;omega
  rw [Aj (fun q:_∨_=>q.elim q4 q5),e,L1,Aj (by decide),d]
inductive Ty.Good:Ty→Prop
 | mk (t:Ty) (h:PZ t=0) (he:∀ x∈t.elem,Ty.Good x) (hf:∀ p∈t.fields,Ty.Good p.2.2.2.1):Ty.Good t
inductive Vl.Good:Vl→Prop
 | mk (v:Vl) (h:Fj v=0) (hp:∀ x∈BK v,Vl.Good x):Vl.Good v
theorem XM:∀ (l:List (Nat × Vl)) (c:Int),V2 l c=0→∀ p∈l,Fj p.2=0
 | [],_,_,p,hp=>by simp at hp
 | q::r,c,h,p,hp=>by
  rw [V2] at h
  split at h
  ·cases h
  ·split at h
   ·cases h
   ·split at h
    ·rename_i h0
     rcases List.mem_cons.1 hp with rfl | hp
     ·exact h0
     ·exact XM r (c+1) h p hp
    ·rename_i h0;exact absurd h h0
theorem Rl:∀ (k:Nat) (v:Vl) (lv:Nat),v.size≤k→(∀ p∈F4 lv v,Fj p.2=0)→v.Good
 | 0,v,lv,h,_=>absurd h (by have:=v.size_eq;omega)
 | k+1,v,lv,h,hp=>by
  rw [PY] at hp
  refine .mk v (hp (lv,v) (List.mem_cons_self ..)) fun x a=>?_
  have:=MD a
  exact Rl k x (lv+1) (by omega) fun p b=>hp p (List.mem_cons_of_mem _ (List.mem_flatMap.2 ⟨x,a,b⟩))
theorem XO {v:Vl} (h:Tn v=0):v.Good:=Rl v.size v 1 (Nat.le_refl _) (XM _ _ h)
theorem Vs {v:Vl} (h:Fj v=0):¬ (v.kind<1∨10<v.kind)∧¬ DF v=true:=by
 rw [Fj] at h
 by_cases h1:Fe v=true
 ·rw [Ai h1] at h;exact absurd h (by decide)
 rw [Aj h1] at h
 by_cases h2:v.kind<1∨10<v.kind
 ·rw [Ai h2] at h;exact absurd h (by decide)
 rw [Aj h2] at h
 by_cases h3:DF v=true
 ·rw [Ai h3] at h;exact absurd h (by decide)
 exact ⟨h2,h3⟩
theorem Qv {t:Ty} (h:PZ t=0):¬ (t.kind<1∨10<t.kind)∧¬ Bg t=true∧¬ ((t.kind=8∧t.elem.length=0)∨(t.kind=10∧t.fields.length=0)):=by
 rw [PZ] at h
 by_cases h1:t.kind<1∨10<t.kind
 ·rw [Ai h1] at h;exact absurd h (by decide)
 rw [Aj h1] at h
 by_cases h2:Bg t=true
 ·rw [Ai h2] at h;exact absurd h (by decide)
 rw [Aj h2] at h
 refine ⟨h1,h2,?_⟩
 by_cases h3:t.kind=4∧0<t.words.length
 ·omega
 rw [Aj h3] at h
 by_cases h4:((2≤t.kind∧t.kind≤8)∧BO t (AW t.kind).1 (AW t.kind).2=false)∨¬ (0≤t.scale∧t.scale≤12)
 ·rw [Ai h4] at h;exact absurd h (by decide)
 rw [Aj h4] at h
 by_cases h5:(t.kind=8∧t.elem.length=0)∨(t.kind=10∧t.fields.length=0)
 ·rw [Ai h5] at h;exact absurd h (by decide)
 exact h5
theorem Ty.scale0 {t:Ty} (h:¬ Bg t=true) (k:t.kind≠3):t.scale=0:=by
 by_cases z:t.scale=0
 ·exact z
 ·exfalso;apply h;rw [Bg,Ag k,Ag z];simp
theorem Vl.scale0 {v:Vl} (h:¬ DF v=true) (k:v.kind≠3):v.scale=0:=by
 by_cases z:v.scale=0
 ·exact z
 ·exfalso;apply h;rw [DF,Ag k,Ag z];simp
theorem Lc {α:Type} (p:α→Bool) (l:List α):decide (0≤Ox p l 0)=l.any p:=by
 have := @List.findIdx_lt_length _ p l
 unfold Ox
 rw [List.drop_zero]
 by_cases h:l.findIdx p<l.length
 ·rw [Ai h,Ad,List.any_eq_true.2 (this.1 h)]
 ·rw [Aj h,Ac]
  exact (Bool.eq_false_iff.2 fun q=>h (this.2 (List.any_eq_true.1 q))).symm
theorem ZfO {α:Type} (p:α→Bool) (l:List α):decide (Ox p l 0<0) = !l.any p:=by
 rw [←Lc]
 by_cases h:0≤Ox p l 0
 ·rw [Ah h,Ac];rfl
 ·rw [Ag h,Ad];rfl
theorem Zde (n:Nat) (l:List (Vl)) (f:Vl→Option Bool) (p:Vl→Bool) (hf:∀ x∈l,f x=some (p x)) (hl:l.length≤1000000000):∀ (k m i:Nat),i+k=l.length→k<m→Bt n l f m i=some (Ox p l i)
 | k,0,i,_,h=>absurd h (Nat.not_lt_zero _)
 | 0,m+1,i,hi,_=>by
  rw [Bt,AD,Ac,I8 p l i (by omega)]
  rfl
 | k+1,m+1,i,hi,hm=>by
  have a:i<l.length:=by omega
  rw [Bt,AD,Ah a,Hg p l i a]
  simp only [if_true,AH a,Af,hf _ (List.getElem_mem a)]
  by_cases h:p l[i]=true
  ·rw [Ai h,Ai h]
  ·rw [Aj h,Aj h,Ai (AG (by omega))]
   exact Zde n l f p hf hl k m (i+1) (by omega) (by omega)
theorem ZcV (n:Nat) (l:List (ByteArray × Vl)) (f:ByteArray × Vl→Option Bool) (p:ByteArray × Vl→Bool) (hf:∀ x∈l,f x=some (p x)) (hl:l.length≤1000000000):∀ (k m i:Nat),i+k=l.length→k<m→BA n l f m i=some (Ox p l i)
 | k,0,i,_,h=>absurd h (Nat.not_lt_zero _)
 | 0,m+1,i,hi,_=>by
  rw [BA,AD,Ac,I8 p l i (by omega)]
  rfl
 | k+1,m+1,i,hi,hm=>by
  have a:i<l.length:=by omega
  rw [BA,AD,Ah a,Hg p l i a]
  simp only [if_true,AH a,Af,hf _ (List.getElem_mem a)]
  by_cases h:p l[i]=true
  ·rw [Ai h,Ai h]
  ·rw [Aj h,Aj h,Ai (AG (by omega))]
   exact ZcV n l f p hf hl k m (i+1) (by omega) (by omega)
theorem ZcZ (n:Nat) (l:List (TF)) (f:TF→Option Bool) (p:TF→Bool) (hf:∀ x∈l,f x=some (p x)) (hl:l.length≤1000000000):∀ (k m i:Nat),i+k=l.length→k<m→AN n l f m i=some (Ox p l i)
 | k,0,i,_,h=>absurd h (Nat.not_lt_zero _)
 | 0,m+1,i,hi,_=>by
  rw [AN,AD,Ac,I8 p l i (by omega)]
  rfl
 | k+1,m+1,i,hi,hm=>by
  have a:i<l.length:=by omega
  rw [AN,AD,Ah a,Hg p l i a]
  simp only [if_true,AH a,Af,hf _ (List.getElem_mem a)]
  by_cases h:p l[i]=true
  ·rw [Ai h,Ai h]
  ·rw [Aj h,Aj h,Ai (AG (by omega))]
   exact ZcZ n l f p hf hl k m (i+1) (by omega) (by omega)
theorem Zdf (n:Nat) (l:List ByteArray) (w:ByteArray) (hl:(l).length≤1000000000):∀ (k m i:Nat),i+k=(l).length→k<m→B1 n l w m i=some (Ox (fun x=>Gn w x) (l) i)
 | k,0,i,_,h=>absurd h (Nat.not_lt_zero _)
 | 0,m+1,i,hi,_=>by
  rw [B1,AD,Ac,I8 _ (l) i (by omega)]
  rfl
 | k+1,m+1,i,hi,hm=>by
  have a:i<(l).length:=by omega
  rw [B1,AD,Ah a,Hg _ (l) i a]
  simp only [if_true,AH a,Af]
  by_cases h:(fun x=>Gn w x) (l)[i]=true
  ·rw [Ai h,Ai h]
  ·rw [Aj h,Aj h,Ai (AG (by omega))]
   exact Zdf n l w hl k m (i+1) (by omega) (by omega)
theorem W8 (n:Nat) (l:List ByteArray) (w:ByteArray) (hl:l.length≤1000000000) (hn:l.length<n):Df n l w=some (l.any fun x=>Gn w x):=by
 have e:FV n l w=some (Ox (fun x=>Gn w x) l 0):=Zdf n l w hl l.length n 0 (by omega) hn
 rw [Df,e,Af,Lc]
theorem Wm (n:Nat) (l:List Vl) (f:Vl→Option Bool) (p:Vl→Bool) (hf:∀ x∈l,f x=some (p x)) (hl:l.length≤1000000000) (hn:l.length<n):Cc n l f=some (l.any p):=by
 have e:EA n l f=some (Ox p l 0):=Zde n l f p hf hl l.length n 0 (by omega) hn
 rw [Cc,e,Af,Lc]
theorem Wg (n:Nat) (l:List TF) (f:TF→Option Bool) (p:TF→Bool) (hf:∀ x∈l,f x=some (p x)) (hl:l.length≤1000000000) (hn:l.length<n):AO n l f=some (l.any p):=by
 have e:Ba n l f=some (Ox p l 0):=ZcZ n l f p hf hl l.length n 0 (by omega) hn
 rw [AO,e,Af,Lc]
def ZdX (v:Vl) (w:ByteArray):Bool:=v.fields.any fun x=>Gn x.1 w
theorem Zbl (n:Nat) (v:Vl) (w:ByteArray) (hk:v.kind=9) (hs:v.size≤1000000000) (hn:v.size<n):∃ u,L8 n v w=some (u,ZdX v w):=by
 have a:=Om v
 have e:C7 n v.fields (fun x=>some (HL x w))=some (Ox (fun x:ByteArray × Vl=>Gn x.1 w) v.fields 0):=ZcV n v.fields _ _ (fun x _=>rfl) (by omega) v.fields.length n 0 (by omega) (by omega)
 rw [L8,N7,e]
 simp only [Af]
 rw [Ah hk,ZfO]
 cases h:ZdX v w with
 | false =>
  unfold ZdX at h
  rw [h]
  exact ⟨_,rfl⟩
 | true =>
  unfold ZdX at h
  rw [h]
  simp only [Bool.not_true,Bool.or_self,Bool.false_eq_true,if_false]
  rcases Q6 (fun x:ByteArray × Vl=>Gn x.1 w) v.fields v.fields.length 0 (by omega) with q | ⟨i,hi,q,_⟩
  ·have:=Lc (fun x:ByteArray × Vl=>Gn x.1 w) v.fields
   rw [q,h] at this
   cases this
  ·rw [q,AH hi]
   simp only [Af]
   have:=v.field_size _ (List.getElem_mem hi)
   rw [QJ n _ (by omega) (by omega)]
   exact ⟨_,rfl⟩
theorem ZbW (a b:ByteArray):Gn a b=Gn b a:=by rw [Bool.eq_iff_iff,P1,P1];exact eq_comm
def Ys (t:Ty) (k:Nat):Bool:=decide (t.min≤(k:Int))&&decide ((k:Int)≤t.max)
def ZdN (v:Vl) (x:TF):Bool:=(!ZdX v x.2.1)&&(!(decide (x.2.2.1=2)))
theorem Ty.small_elem {t x:Ty} (h:t.small) (hx:x∈t.elem):x.small:=by
 obtain ⟨f,g,e⟩:=h
 have a:=t.elem_size x hx
 have b:=t.depth_eq
 have c:=(IA t.elem (Hk t.elem)).1 (Nat.le_refl _) x hx
 have d:Hk t.elem≤Max.max (Hk t.elem) (Ft t.fields):=Nat.le_max_left _ _
 exact ⟨by omega,by omega,(t.ok_eq.1 e).2.2.1 x hx⟩
theorem Ty.small_field {t:Ty} {p:TF} (h:t.small) (hx:p∈t.fields):p.2.2.2.1.small:=by
 obtain ⟨f,g,e⟩:=h
 have a:=t.field_size p hx
 have b:=t.depth_eq
 have c:=(HO t.fields (Ft t.fields)).1 (Nat.le_refl _) p hx
 have d:Ft t.fields≤Max.max (Hk t.elem) (Ft t.fields):=Nat.le_max_right _ _
 exact ⟨by omega,by omega,((t.ok_eq.1 e).2.2.2 p hx).2.1⟩
theorem Oq {t x:Ty} (h:t.Good) (hx:x∈t.elem):x.Good:=by cases h with | mk _ a b c=>exact b x hx
theorem HF {t:Ty} {p:TF} (h:t.Good) (hx:p∈t.fields):p.2.2.2.1.Good:=by cases h with | mk _ a b c=>exact c p hx
theorem SE {t:Ty} (h:t.Good):PZ t=0:=by cases h with | mk _ a b c=>exact a
theorem QO {v:Vl} (h:v.Good):Fj v=0:=by cases h with | mk _ a b=>exact a
theorem O9 {v x:Vl} (h:v.Good) (hx:x∈BK v):x.Good:=by cases h with | mk _ a b=>exact b x hx
def UG (k:Int) (x:TF):Prop:=(1≤x.2.2.1∧x.2.2.1≤3)∧(k=10→x.2.2.1=1)∧(x.2.2.1=3→x.2.2.2.2.length=1)∧(x.2.2.1≠3→x.2.2.2.2.length=0)
theorem Zi {k:Int} {b:List TF} {x:TF} (h:Nb k b x=0):UG k x:=by
 rw [Nb] at h
 by_cases h1:EZ x.2.1=true
 rotate_left
 ·rw [Aj h1] at h;exact absurd h (by decide)
 rw [Ai h1] at h
 by_cases h2:¬ (1≤x.1∧x.1≤9999)
 ·rw [Ai h2] at h;exact absurd h (by decide)
 rw [Aj h2] at h
 by_cases h3:(b.any fun q=>En q x)=true
 ·rw [Ai h3] at h;exact absurd h (by decide)
 rw [Aj h3] at h
 by_cases h4:¬ (1≤x.2.2.1∧x.2.2.1≤3)∨(k=10∧x.2.2.1≠1)
 ·rw [Ai h4] at h;exact absurd h (by decide)
 rw [Aj h4] at h
 by_cases h5:x.2.2.1=3∧x.2.2.2.2.length=0
 ·rw [Ai h5] at h;exact absurd h (by decide)
 rw [Aj h5] at h
 by_cases h6:1<x.2.2.2.2.length∨(x.2.2.1≠3∧0<x.2.2.2.2.length)
 ·rw [Ai h6] at h;exact absurd h (by decide)
 unfold UG
 omega
theorem Rb {k:Int}:∀ (l b:List TF),JD k b l=0→∀ x∈l,UG k x
 | [],_,_,x,hx=>by simp at hx
 | y::r,b,h,x,hx=>by
  rw [JD] at h
  by_cases q:Nb k b y=0
  ·rw [Ai q] at h
   rcases List.mem_cons.1 hx with rfl | hx
   ·exact Zi q
   ·exact Rb r _ h x hx
  ·rw [Aj q] at h;exact absurd h q
theorem ZQ {t:Ty} (h:¬ Bg t=true):(t.kind≠8→t.elem.length=0)∧(t.kind≠9→t.kind≠10→t.fields.length=0):=by
 refine ⟨fun k=>?_,fun b a=>?_⟩
 ·rcases Nat.eq_zero_or_pos t.elem.length with e | e
  ·exact e
  ·exfalso;apply h;rw [Bg,Ag k,Ah (show 0<(t.elem.length:Int) by omega)];simp
 ·rcases Nat.eq_zero_or_pos t.fields.length with e | e
  ·exact e
  ·exfalso;apply h;rw [Bg,Ag b,Ag a,Ah (show 0<(t.fields.length:Int) by omega)];simp
theorem TV {t:Ty} (h:PZ t=0):¬ (t.kind<1∨10<t.kind)∧(t.kind≠8→t.elem.length=0)∧(t.kind=8→t.elem.length=1∧0≤t.min∧t.min≤256)∧(t.kind≠9→t.kind≠10→t.fields.length=0)∧(t.kind=10→0<t.fields.length)∧∀ x∈t.fields,UG t.kind x:=by
 obtain ⟨a,c,f⟩:=Qv h
 obtain ⟨n1,n2⟩:=ZQ c
 rw [PZ,Aj a,Aj c] at h
 by_cases h3:t.kind=4∧0<t.words.length
 ·have:=n2 (by omega) (by omega)
  have d:t.fields=[]:=List.length_eq_zero_iff.1 this
  exact ⟨a,n1,by omega,n2,by omega,by rw [d];simp⟩
 rw [Aj h3] at h
 by_cases h4:((2≤t.kind∧t.kind≤8)∧BO t (AW t.kind).1 (AW t.kind).2=false)∨¬ (0≤t.scale∧t.scale≤12)
 ·rw [Ai h4] at h;exact absurd h (by decide)
 rw [Aj h4,Aj f] at h
 by_cases h6:1<t.elem.length
 ·rw [Ai h6] at h;exact absurd h (by decide)
 rw [Aj h6] at h
 by_cases h7:64<t.fields.length
 ·rw [Ai h7] at h;exact absurd h (by decide)
 rw [Aj h7] at h
 refine ⟨a,n1,fun g=>?_,n2,by omega,Rb _ _ h⟩
 have b:BO t (AW t.kind).1 (AW t.kind).2=true:=by
  cases q:BO t (AW t.kind).1 (AW t.kind).2
  ·exact absurd (Or.inl ⟨by omega,q⟩) h4
  ·rfl
 have e:(AW t.kind)=(0,256):=by rw [g];rfl
 rw [e,BO] at b
 simp only [Bool.and_eq_true,decide_eq_true_eq] at b
 omega
theorem Ty.fit_of {t:Ty} {n:Nat} (ht:t.small) (hn:t.size+2600000≤n):t.fit n:=by
 have f:=t.lens
 obtain ⟨h,_,a⟩:=ht
 obtain ⟨g,b,e,c⟩:=t.ok_eq.1 a
 exact ⟨by omega,by omega,by omega,by omega,by omega,by omega,b,fun p d=>(c p d).1⟩
theorem Px:∀ (k:Nat) (v:Vl) (lv:Nat),v.size≤k→(F4 lv v).length≤v.size
 | 0,v,lv,h=>absurd h (by have:=v.size_eq;omega)
 | k+1,v,lv,h=>by
  have c:=ZbI v
  rw [PY,List.length_cons,List.length_flatMap]
  have:((BK v).map fun x=>(F4 (lv+1) x).length).sum≤((BK v).map Vl.size).sum:=by
   have hall:∀ x∈BK v,(F4 (lv+1) x).length≤x.size:=fun x b=>Px k x (lv+1) (by have:=MD b;omega)
   clear c
   generalize BK v=l at hall
   induction l with
   | nil=>simp
   | cons a r ih =>
    have:=hall a (List.mem_cons_self ..)
    have:=ih fun x b=>hall x (List.mem_cons_of_mem _ b)
    simp only [List.map_cons,List.sum_cons]
    omega
  omega
theorem Xz:∀ (l:List (Nat × Vl)) (c:Int),0≤c→c+l.length≤1000000000→HQ l c=some (c+l.length)
 | [],c,_,_=>by rw [HQ];simp
 | p::r,c,h1,h2=>by
  rw [List.length_cons] at h2
  rw [HQ,Ai (by unfold A6;omega),Xz r (c+1) (by omega) (by omega),List.length_cons]
  congr 1
  omega
theorem Zdu (v:Vl) (hs:v.size≤1048576):NU v=some ((F4 1 v).length:Int):=by
 have:=Px v.size v 1 (Nat.le_refl _)
 rw [NU,Ai ⟨by have:=v.depth_size;omega,G1 _ v (Nat.le_refl _) (by omega)⟩,Xz _ 0 (by omega) (by omega)]
 congr 1
 omega
theorem Uj {s:ByteArray} (h:EZ s=true):s.size≤32:=by
 unfold EZ Zaz at h
 simp only [Bool.and_eq_true,decide_eq_true_eq] at h
 have:s.size=s.data.toList.length:=by simp
 omega
theorem ZaF (k:Int):∀ (l b:List TF),JD k b l=0→∀ x∈l,∃ b',Nb k b' x=0
 | [],_,_,x,hx=>absurd hx (by simp)
 | y::r,b,h,x,hx=>by
  rw [JD] at h
  by_cases q:Nb k b y=0
  ·rw [Ai q] at h
   rcases List.mem_cons.1 hx with rfl | hx
   ·exact ⟨b,q⟩
   ·exact ZaF k r _ h x hx
  ·rw [Aj q] at h;exact absurd h q
theorem YB {k:Int} {b:List TF} {x:TF} (h:Nb k b x=0):EZ x.2.1=true∧(1≤x.1∧x.1≤9999)∧(1≤x.2.2.1∧x.2.2.1≤3)∧(k=10→x.2.2.1=1)∧(x.2.2.1=3→x.2.2.2.2.length=1)∧(x.2.2.1≠3→x.2.2.2.2=[]):=by
 unfold Nb at h
 by_cases h1:EZ x.2.1=true
 ·rw [Ai h1] at h
  by_cases h2:¬ (1≤x.1∧x.1≤9999)
  ·rw [Ai h2] at h;exact absurd h (by decide)
  rw [Aj h2] at h
  by_cases h3:(b.any fun q=>En q x)=true
  ·rw [Ai h3] at h;exact absurd h (by decide)
  rw [Aj h3] at h
  by_cases h4:¬ (1≤x.2.2.1∧x.2.2.1≤3)∨(k=10∧x.2.2.1≠1)
  ·rw [Ai h4] at h;exact absurd h (by decide)
  rw [Aj h4] at h
  by_cases h5:x.2.2.1=3∧x.2.2.2.2.length=0
  ·rw [Ai h5] at h;exact absurd h (by decide)
  rw [Aj h5] at h
  by_cases h6:1<x.2.2.2.2.length∨(x.2.2.1≠3∧0<x.2.2.2.2.length)
  ·rw [Ai h6] at h;exact absurd h (by decide)
  refine ⟨h1,by omega,by omega,by omega,by omega,fun q=>?_⟩
  have:x.2.2.2.2.length=0:=by omega
  exact List.length_eq_zero_iff.1 this
 ·rw [Aj h1] at h;exact absurd h (by decide)
structure Ty.Own (t:Ty):Prop where
 kind:1≤t.kind∧t.kind≤10
 words:t.kind=4→0<t.words.length→t.min=0∧t.max=0∧t.words.length≤64∧Zd none t.words=0
 nowords:t.kind≠4→t.words=[]
 noelem:t.kind≠8→t.elem=[]
 nofields:t.kind≠9→t.kind≠10→t.fields=[]
 noscale:t.kind≠3→t.scale=0
 nobounds:¬ (2≤t.kind∧t.kind≤8)→t.min=0∧t.max=0
 scale:0≤t.scale∧t.scale≤12
 bounds:(2≤t.kind∧t.kind≤8)→¬ (t.kind=4∧0<t.words.length)→(AW t.kind).1≤t.min∧t.max≤(AW t.kind).2∧t.min≤t.max
 elem:t.kind=8→∃ e,t.elem=[e]
 cases:t.kind=10→0<t.fields.length
 fields:t.fields.length≤64
 each:∀ x∈t.fields,EZ x.2.1=true∧(1≤x.1∧x.1≤9999)∧(1≤x.2.2.1∧x.2.2.1≤3)∧(t.kind=10→x.2.2.1=1)∧(x.2.2.1=3→x.2.2.2.2.length=1)∧(x.2.2.1≠3→x.2.2.2.2=[])
 apart:JD t.kind [] t.fields=0
theorem Ty.own_of {t:Ty} (h:PZ t=0):t.Own:=by
 have r:=Qv h
 obtain ⟨o,i,s⟩:=r
 simp only [Bg,Bool.or_eq_true,Bool.and_eq_true,Bool.not_eq_true',Bool.and_eq_false_iff,decide_eq_false_iff_not,decide_eq_true_eq,not_or,not_and] at i
 obtain ⟨⟨⟨⟨f,k⟩,j⟩,g⟩,n⟩:=i
 have m:t.kind≠4→t.words=[]:=fun q=>List.length_eq_zero_iff.1 (by have:=j q;omega)
 have ne:t.kind≠8→t.elem=[]:=fun q=>List.length_eq_zero_iff.1 (by have:=g q;omega)
 have c:t.kind≠9→t.kind≠10→t.fields=[]:=fun q p=>List.length_eq_zero_iff.1 (by have:=n ⟨q,p⟩;omega)
 have d:t.kind≠3→t.scale=0:=fun q=>by
  have:=k q
  by_cases z:t.scale=0
  ·exact z
  ·exact absurd z this
 have l:¬ (2≤t.kind∧t.kind≤8)→t.min=0∧t.max=0:=fun q=>by
  have:=f (by omega)
  omega
 have u:=h
 rw [PZ,Aj o,Aj (by
  intro q
  simp only [Bg,Bool.or_eq_true,Bool.and_eq_true,Bool.not_eq_true',Bool.and_eq_false_iff,decide_eq_false_iff_not,decide_eq_true_eq] at q
  rcases q with (((q | q) | q) | q) | q
  ·have:=f q.1;have:=q.2;omega
  ·exact k q.1 q.2
  ·exact j q.1 q.2
  ·exact g q.1 q.2
  ·exact n q.1 q.2)] at h
 by_cases h3:t.kind=4∧0<t.words.length
 ·rw [Ai h3,NE] at h
  by_cases w1:t.min≠0∨t.max≠0
  ·rw [Ai w1] at h;exact absurd h (by decide)
  rw [Aj w1] at h
  by_cases w2:64<t.words.length
  ·rw [Ai w2] at h;exact absurd h (by decide)
  rw [Aj w2] at h
  have ef:t.fields=[]:=c (by omega) (by omega)
  exact { kind:=by omega,words:=fun _ _=>⟨by omega,by omega,by omega,h⟩,nowords:=m,noelem:=ne,nofields:=c,noscale:=d,nobounds:=l,scale:=by have:=d (by omega);omega,bounds:=fun _ q=>absurd h3 q,elem:=fun q=>by omega,cases:=fun q=>by omega,fields:=by rw [ef];simp,each:=fun x hx=>by rw [ef] at hx;simp at hx,apart:=by rw [ef];rfl }
 rw [Aj h3] at h
 by_cases h4:((2≤t.kind∧t.kind≤8)∧BO t (AW t.kind).1 (AW t.kind).2=false)∨¬ (0≤t.scale∧t.scale≤12)
 ·rw [Ai h4] at h;exact absurd h (by decide)
 rw [Aj h4] at h
 by_cases h5:(t.kind=8∧t.elem.length=0)∨(t.kind=10∧t.fields.length=0)
 ·rw [Ai h5] at h;exact absurd h (by decide)
 rw [Aj h5] at h
 by_cases h6:1<t.elem.length
 ·rw [Ai h6] at h;exact absurd h (by decide)
 rw [Aj h6] at h
 by_cases h7:64<t.fields.length
 ·rw [Ai h7] at h;exact absurd h (by decide)
 rw [Aj h7] at h
 refine { kind:=by omega,words:=fun a b=>absurd ⟨a,b⟩ h3,nowords:=m,noelem:=ne,nofields:=c,noscale:=d,nobounds:=l,scale:=by omega,bounds:=fun q _=>?_,elem:=fun q=>?_,cases:=fun q=>by omega,fields:=by omega,each:=fun x hx=>?_,apart:=h }
 ·have hb:BO t (AW t.kind).1 (AW t.kind).2=true:=by
   cases hb:BO t (AW t.kind).1 (AW t.kind).2 with
   | true=>rfl
   | false=>exact absurd (Or.inl ⟨q,hb⟩) h4
  unfold BO at hb
  simp only [Bool.and_eq_true,decide_eq_true_eq] at hb
  exact ⟨hb.1.1,hb.1.2,hb.2⟩
 ·match he:t.elem with
  | []=>exact absurd (Or.inl ⟨q,by rw [he];rfl⟩) h5
  | [e]=>exact ⟨e,rfl⟩
  | _::_::_=>rw [he] at h6;simp at h6
 ·obtain ⟨v,hb⟩:=ZaF _ _ _ h x hx
  exact YB hb
theorem Ty.Good.own {t:Ty} (h:t.Good):t.Own:=Ty.own_of (SE h)
def FD (b:Part):Option ByteArray :=
 if decide (b.kind=1) then
  if ((⟨#[46]⟩:ByteArray)).size+b.name.size≤9223372036854775807 then
   some (((⟨#[46]⟩:ByteArray))++b.name)
  else none
 else
  if decide (b.kind=2) then
   if A6 (b.index) then
    if ((⟨#[91]⟩:ByteArray)).size+((⟨(Lib.itoa b.index).toArray⟩:ByteArray)).size≤9223372036854775807 then
     if (((⟨#[91]⟩:ByteArray))++((⟨(Lib.itoa b.index).toArray⟩:ByteArray))).size+((⟨#[93]⟩:ByteArray)).size≤9223372036854775807 then
      some ((((⟨#[91]⟩:ByteArray))++((⟨(Lib.itoa b.index).toArray⟩:ByteArray)))++((⟨#[93]⟩:ByteArray)))
     else none
    else none
   else none
  else
   if decide (b.kind=3) then
    some ((⟨#[91,42,93]⟩:ByteArray))
   else
    if ((⟨#[63]⟩:ByteArray)).size+b.name.size≤9223372036854775807 then
     some (((⟨#[63]⟩:ByteArray))++b.name)
    else none
theorem NK (w0:World) (hP:Pow10 w0) (B:Ao) (Rw:Av) (L:As) (a0:Part) (r:ByteArray) (h:FD a0=some r) :
  ACalls Tryz.prog w0 233 [.agg (Am a0.kind::(Am a0.index::([.val (.string a0.name)])))] ⟨B,Rw,L⟩ fun x st=>x = .val (.string r)∧st=⟨B,Rw,L⟩:=by
 rw [FD] at h
 refine hd [.tmp 2] Tryz.func233 Tryz.ntmps233 fun M0 W0 q m n b s l hs=>?_
 simp only [AA]
 refine rg [1] hs ?_
 apply An;intro K2 i
 refine rg [1,4] hs ?_
 apply Aq
 refine rg [1,4,5] hs ?_
 refine BQ h hs ?_ ?_<;>intro hs h
 ·obtain ⟨o,h⟩:=Au h
  have f:=o
  try simp +decide only [go_sem] at f
  refine rg [2] hs ?_
  exact rt h hs b l
 refine rg [1,4,10] hs ?_
 refine BQ h hs ?_ ?_<;>intro hs h
 ·obtain ⟨p,h⟩:=Au h
  obtain ⟨k,h⟩:=Au h
  have c:=k
  try simp +decide only [go_sem] at c
  obtain ⟨j,h⟩:=Au h
  have d:=j
  try simp +decide only [go_sem] at d
  exact go (tg (a:=([2],()))) h hs q m n b l (q1 (YS w0)) trivial
 refine rg [1,17] hs ?_
 refine BQ h hs ?_ ?_<;>intro hs h
 ·refine rg [2] hs ?_
  exact rt h hs b l
 refine sk [1] hs i ?_
 clear i
 obtain ⟨g,h⟩:=Au h
 have e:=g
 try simp +decide only [go_sem] at e
 refine rg [2] hs ?_
 exact rt h hs b l
def Ea (b:Part) (g:Bool):Option Bool :=
 if g then
  if decide (b.index=0) then
   if b.name.size≤maxLen then
    some (EZ b.name)
   else none
  else
   some (false)
 else
  if decide (b.kind=2) then
   some (((Gn b.name (⟨#[]⟩:ByteArray))&&(decide (0≤b.index)))&&(decide (b.index<256)))
  else
   if decide (b.kind=3) then
    some ((Gn b.name (⟨#[]⟩:ByteArray))&&(decide (b.index=0)))
   else
    some (false)
def ES (b:Part):Option Bool :=
 if decide (b.kind=1) then
  Ea b true
 else
  Ea b (decide (b.kind=4))
theorem Nc (w0:World) (B:Ao) (Rw:Av) (L:As) (a0:Part) (r:Bool) (h:ES a0=some r) :
  ACalls Tryz.prog w0 157 [.agg (Am a0.kind::(Am a0.index::([.val (.string a0.name)])))] ⟨B,Rw,L⟩ fun x st=>x = .val (.bool r)∧st=⟨B,Rw,L⟩:=by
 rw [ES] at h
 refine hd [.tmp 2] Tryz.func157 Tryz.ntmps157 fun M0 W0 k d f c l g hs=>?_
 simp only [AA]
 refine rg [1] hs ?_
 apply An;intro K2 j
 refine rg [1,4] hs ?_
 apply Aq
 refine AB (fun e st=>∃ (b:Bool),Ck e st B Rw L [(1,true,.box B.length 0),(4,true,Am a0.kind),(5,true,.val (.bool b))] [Am a0.kind::(Am a0.index::([.val (.string a0.name)]))] [] (Ea a0 b=some r)) ?_ ?_
 ·intro K6 i
  exact go (tg (a:=([1,4,5],([1,4,5],()),[1,4,5],()))) h hs k d f c g trivial (q1 i)
 ·clear h;rintro e st ⟨b,Xk5,Rk5,rfl,rfl,g,h⟩
  rw [Ea] at h
  exact go (tg (a:=((([2],()),[2],()),[1,4,16],([2],()),[1,31],([2],()),[],[2],()))) h hs k d f c g (q1 (Ol w0)) (q1 j)
def Lo (n:Nat)  (b:Int):Option Int :=
 if decide (200<b) then
  some (3)
 else
  some (0)
def E0 (n:Nat) (z:List Part):Nat→Int→Int→Option Int
 | 0,_,_=>none
 | m+1,g,b =>
  if decide (b<(z.length:Int)) then
   (Cb z b).bind fun q =>
   (ES q).bind fun y =>
   if !y then
    some (3)
   else
    (FD q).bind fun h =>
    if A6 (g+(h.size:Int)) then
     if A6 (b+1) then
      (E0 n z m) (g+(h.size:Int)) (b+1)
     else none
    else none
  else
   Lo n g
def IC (n:Nat) (b:List Part):Option Int :=
 if (decide ((b.length:Int)<1))||(decide (16<(b.length:Int))) then
  some (3)
 else
  (Cb b 0).bind fun g =>
  if !(decide (g.kind=1)) then
   some (3)
  else
   E0 n b n ((-1)) 0
theorem S5 (w0:World) (hP:Pow10 w0) (n:Nat) (B:Ao) (Rw:Av) (L:As) (a0:List Part) (r:Int) (h:IC n a0=some r) :
  ACalls Tryz.prog w0 232 [.list (a0.map AK) .none] ⟨B,Rw,L⟩ fun x st=>x=Am r∧st=⟨B,Rw,L⟩:=by
 rw [IC] at h
 refine hd [.tmp 2] Tryz.func232 Tryz.ntmps232 fun M0 W0 t j i d w l hs=>?_
 simp only [AA]
 refine rg [0] hs ?_
 apply An;intro K2 p
 apply An;intro K3 k
 rcases Bool.eq_false_or_eq_true ((decide ((a0.length:Int)<1))||(decide (16<(a0.length:Int)))) with hf4 | hf4
 ·replace h:=A7 h hf4
  exact go (tg (a:=([0,20],[2],()))) h (Ae hf4 hs) t j i d l trivial (q1 k)
 ·replace h:=A8 h hf4
  obtain ⟨y,u,v,g,h⟩:=ix AK h
  have q:(a0.map AK).getD 0 .junk=_:=g
  have hs:=Ae hf4 hs
  have hs:=Ae g hs
  have hs:=Ae q hs
  refine rl [0,20] hs k ?_
  clear k
  refine BQ h hs ?_ ?_<;>intro hs h
  ·refine rg [2] hs ?_
   exact rt h hs d l
  refine sk [0] hs p ?_
  clear p
  refine rg [0,3] hs ?_
  refine AB (fun e st=>∃ (f:Int),Ck e st B Rw L [(3,true,Am f)] [] [] (Lo n f=some r)) ?_ ?_
  ·intro K13 o
   refine rg [3,21,22,23] hs ?_
   apply Aq
   refine AC (fun m e st=>∃ (c:Int) (b:Int),Ck e st B Rw L [(3,true,Am c),(21,true,.list (a0.map AK) .none),(22,true,Am (a0.length:Int)),(23,true,Am b)] [] [] (E0 n a0 m c b=some r)) n ⟨((-1)),0,([]),Rw,ef hs,ef hs,l,h⟩ ?_
   rintro ml15 e st ⟨c,b,Xl15,Rl15,rfl,rfl,l,h⟩ Ul15 Vl15
   cases ml15 with
   | zero=>cases h
   | succ ml15 =>
   rw [E0] at h
   exact go (tg (a:=([3,21,22,23,24],([3,21,22,23],[3,5,21,22,23],[3,5,21,22,23,29],([2],()),[3,5,21,22,23],[3,21,22,23],[3,21,22,23],()),[3],()))) h hs t j i d l (q2 (Nc w0) (NK w0 hP)) (q2 o (fun e s=>Vl15 ml15 e s (Nat.lt_succ_self _)))
  ·clear h;rintro e st ⟨f,Xk12,Rk12,rfl,rfl,l,h⟩
   rw [Lo] at h
   exact go (tg (a:=([37],([2],()),[],[2],()))) h hs t j i d l trivial trivial
instance (k:IntKind) (n:Int):Decidable (inK k n):=by cases k<;>exact inferInstanceAs (Decidable (_∧_))
@[go_sem] theorem Za6 (n:Int):SI (.val (.int .u8 n))=(0≤n∧n≤255):=rfl
@[go_sem] theorem Zgs:Gm []=(⟨#[]⟩:ByteArray):=rfl
@[go_sem] theorem Zfo (k:Nat):(∀ y∈List.replicate k (AV.val (.int .u8 0)),SI y)↔True:=iff_true_intro fun y a=>by
 rw [List.eq_of_mem_replicate a,Za6];omega
def ZbA (p:Part):Int:=if p.kind=1 then 1+p.name.size else if p.kind=2 then 2+(Lib.itoa p.index).length else if p.kind=3 then 3 else 1+p.name.size
def pOk (p:Part):Bool :=
 if p.kind=1∨p.kind=4 then decide (p.index=0)&&EZ p.name
 else if p.kind=2 then Gn p.name ⟨#[]⟩&&decide (0≤p.index)&&decide (p.index<256)
 else if p.kind=3 then Gn p.name ⟨#[]⟩&&decide (p.index=0) else false
theorem Vb (p:Part) (h:p.wf):ES p=some (pOk p):=by
 obtain ⟨_,_,a⟩:=h
 rw [ES,pOk]
 by_cases h1:p.kind=1
 ·rw [Ah h1,Ai rfl,Ea,Ai rfl,Ai (Or.inl h1)]
  by_cases hi:p.index=0
  ·rw [Ah hi,Ai rfl,Ai a];rfl
  ·rw [Ag hi,Aj (by decide)];rfl
 rw [Ag h1,Aj (by decide),Ea]
 by_cases h4:p.kind=4
 ·rw [Ah h4,Ai rfl,Ai (Or.inr h4)]
  by_cases hi:p.index=0
  ·rw [Ah hi,Ai rfl,Ai a];rfl
  ·rw [Ag hi,Aj (by decide)];rfl
 rw [Ag h4,Aj (by decide),Aj (show ¬ (p.kind=1∨p.kind=4) by omega)]
 by_cases h2:p.kind=2
 ·rw [Ah h2,Ai rfl,Ai h2]
 rw [Ag h2,Aj (by decide),Aj h2]
 by_cases h3:p.kind=3
 ·rw [Ah h3,Ai rfl,Ai h3]
 rw [Ag h3,Aj (by decide),Aj h3]
theorem Zct (i:Int) (h0:0≤i) (h:i<256):(Lib.itoa i).length=if i<10 then 1 else if i<100 then 2 else 3:=by
 unfold Lib.itoa
 rw [Aa,Lib.decDigits_length]
 by_cases h1:i<10
 ·rw [Ai h1,Lib.nDigits_small (by omega)]
 rw [Aj h1,Lib.nDigits_big (by omega)]
 by_cases h2:i<100
 ·rw [Ai h2,Lib.nDigits_small (by omega)]
 rw [Aj h2,Lib.nDigits_big (by omega),Lib.nDigits_small (by omega)]
theorem Fz (l:Array UInt8):(⟨l⟩:ByteArray).size=l.size:=rfl
theorem X9 (p:Part) (h:pOk p=true):∃ s,FD p=some s∧(s.size:Int)=ZbA p∧1≤ZbA p∧ZbA p≤40:=by
 unfold pOk at h
 rw [FD,ZbA]
 by_cases h1:p.kind=1
 ·rw [Ai (Or.inl h1),Bool.and_eq_true] at h
  have b:=Uj h.2
  rw [Ah h1,Ai rfl,Ai h1,Ai (by rw [Fz];simp;omega)]
  refine ⟨_,rfl,?_,by omega,by omega⟩
  rw [ByteArray.size_append,Fz];simp
 rw [Ag h1,Aj (by decide),Aj h1]
 by_cases h2:p.kind=2
 ·rw [Aa,Ai h2,Bool.and_eq_true,Bool.and_eq_true] at h
  have q1:=of_decide_eq_true h.1.2
  have q2:=of_decide_eq_true h.2
  have c:=Zct p.index q1 q2
  have a:(Lib.itoa p.index).length≤3:=by rw [c];repeat' split<;>try omega
  rw [Ah h2,Ai rfl,Ai h2,Ai (by unfold A6;omega),Ai (by rw [Fz,Fz];simp;omega),Ai (by rw [ByteArray.size_append,Fz,Fz,Fz];simp;omega)]
  refine ⟨_,rfl,?_,by omega,by omega⟩
  rw [ByteArray.size_append,ByteArray.size_append,Fz,Fz,Fz];simp;omega
 rw [Ag h2,Aj (by decide),Aj h2]
 by_cases h3:p.kind=3
 ·rw [Ah h3,Ai rfl,Ai h3]
  exact ⟨_,rfl,rfl,by decide,by decide⟩
 rw [Ag h3,Aj (by decide),Aj h3]
 by_cases h4:p.kind=4
 ·rw [Ai (Or.inr h4),Bool.and_eq_true] at h
  have b:=Uj h.2
  rw [Ai (by rw [Fz];simp;omega)]
  refine ⟨_,rfl,?_,by omega,by omega⟩
  rw [ByteArray.size_append,Fz];simp
 ·rw [Aa,Aj h2,Aj h3] at h
  exact absurd h (by decide)
def ZhK (l:List Part):Int:=(l.map ZbA).sum
theorem Ta (n:Nat) (l:List Part) (hw:∀ p∈l,p.wf) (hl:l.length≤20):∀ (k m i:Nat) (c:Int),i+k=l.length→k<m → -1≤c→c≤40*i →
  E0 n l m c i=some (if ((l.drop i).all pOk&&decide (c+ZhK (l.drop i)≤200))=true then 0 else 3)
 | k,0,i,_,_,h,_,_=>absurd h (Nat.not_lt_zero _)
 | 0,m+1,i,c,hi,_,_,_=>by
  rw [E0,AD,Ac,List.drop_eq_nil_of_le (by omega)]
  simp only [Bool.false_eq_true,if_false,Lo,ZhK,List.map_nil,List.sum_nil,Int.add_zero,List.all_nil,Bool.true_and]
  by_cases q:200<c
  ·rw [Ai (Ah q),Aj (by rw [decide_eq_true_eq];omega)]
  ·rw [Aj (by rw [decide_eq_true_eq];omega),Ai (by rw [decide_eq_true_eq];omega)]
 | k+1,m+1,i,c,hi,hm,h1,h2=>by
  have a:i<l.length:=by omega
  rw [E0,AD,Ah a,List.drop_eq_getElem_cons a,List.all_cons]
  simp only [if_true,AH a,Af,Vb _ (hw _ (List.getElem_mem a))]
  cases hb:pOk l[i] with
  | false=>rfl
  | true =>
   obtain ⟨s,e,z,b,d⟩:=X9 _ hb
   simp only [Bool.not_true,Bool.false_eq_true,if_false,e,Af,Bool.true_and]
   rw [Ai (by unfold A6;omega),Ai (AG (by omega)),z]
   have ih:=Ta n l hw hl k m (i+1) (c+ZbA l[i]) (by omega) (by omega) (by omega) (by omega)
   rw [show ((i:Int)+1)=((i+1:Nat):Int) by omega,ih]
   simp only [ZhK,List.map_cons,List.sum_cons,Int.add_assoc]
end Go.Proofs.YtmcnjijeocmkgaaGreatDoor
namespace Go.Proofs
open Go.Shelf
def Tryz.lays119_ren:Go.Shelf.Ren:=⟨fun | 119=>323 | n=>n,fun | 21=>21 | 4=>4 | n=>n,fun | n=>n⟩
theorem Tryz.lays119:Go.Proofs.Lays.n119 Tryz.prog Tryz.lays119_ren:={
 mixed:=by kernel_rfl
 f119:=Tryz.func323.trans (congrArg some (by kernel_rfl))
 t4:=Tryz.underlying4
 a4:=Tryz.isAgg4
 z4:=Tryz.sizeOf4
 v4:=Tryz.zeroValue4
 t21:=Tryz.underlying21
 a21:=Tryz.isAgg21
 z21:=Tryz.sizeOf21
 v21:=Tryz.zeroValue21 }
theorem Tryz.utf8_ValidRune (r:Int) (w:World) :
  Calls Tryz.prog 323 #[.int .i32 r] w fun e w'=>e = .returned (.bool (Lib.validRune r))∧w'=w:=Any.utf8_ValidRune Tryz.lays119 r w
def Tryz.lays137_ren:Go.Shelf.Ren:=⟨fun | 137=>322 | 217=>357 | 266=>369 | n=>n,fun | 9=>9 | 5=>5 | 3=>3 | n=>n,fun | n=>n⟩
theorem Tryz.lays137:Go.Proofs.Lays.n137 Tryz.prog Tryz.lays137_ren:={
 mixed:=by kernel_rfl
 f137:=Tryz.func322.trans (congrArg some (by kernel_rfl))
 f217:=Tryz.func357.trans (congrArg some (by kernel_rfl))
 f266:=Tryz.func369.trans (congrArg some (by kernel_rfl))
 t3:=Tryz.underlying3
 a3:=Tryz.isAgg3
 z3:=Tryz.sizeOf3
 v3:=Tryz.zeroValue3
 t5:=Tryz.underlying5
 a5:=Tryz.isAgg5
 z5:=Tryz.sizeOf5
 v5:=Tryz.zeroValue5
 t9:=Tryz.underlying9
 a9:=Tryz.isAgg9
 z9:=Tryz.sizeOf9
 v9:=Tryz.zeroValue9 }
open Go.RowKit in
theorem Tryz.strings_IndexByte (s:ByteArray) (c:Int) (w:World) :
  Calls Tryz.prog 322 #[.string s,.int .u8 c] w fun e w'=>e = .returned (.int .i64 (Lib.indexByte s.data.toList c.toNat.toUInt8))∧w'=w:=Any.strings_IndexByte Tryz.lays137 s c w
def Tryz.lays145_ren:Go.Shelf.Ren:=⟨fun | 145=>237 | 220=>286 | 219=>326 | 217=>357 | 225=>325 | 224=>324 | 267=>358 | 266=>369 | 314=>370 | n=>n,fun | 9=>9 | 4=>4 | 59=>245 | 3=>3 | 5=>5 | 46=>231 | 146=>309 | 51=>299 | n=>n,fun | 1=>1 | n=>n⟩
theorem Tryz.lays145:Go.Proofs.Lays.n145 Tryz.prog Tryz.lays145_ren:={
 mixed:=by kernel_rfl
 f145:=Tryz.func237.trans (congrArg some (by kernel_rfl))
 f217:=Tryz.func357.trans (congrArg some (by kernel_rfl))
 f219:=Tryz.func326.trans (congrArg some (by kernel_rfl))
 f220:=Tryz.func286.trans (congrArg some (by kernel_rfl))
 f224:=Tryz.func324.trans (congrArg some (by kernel_rfl))
 f225:=Tryz.func325.trans (congrArg some (by kernel_rfl))
 f266:=Tryz.func369.trans (congrArg some (by kernel_rfl))
 f267:=Tryz.func358.trans (congrArg some (by kernel_rfl))
 f314:=Tryz.func370.trans (congrArg some (by kernel_rfl))
 t3:=Tryz.underlying3
 a3:=Tryz.isAgg3
 z3:=Tryz.sizeOf3
 v3:=Tryz.zeroValue3
 t4:=Tryz.underlying4
 a4:=Tryz.isAgg4
 z4:=Tryz.sizeOf4
 v4:=Tryz.zeroValue4
 t5:=Tryz.underlying5
 a5:=Tryz.isAgg5
 z5:=Tryz.sizeOf5
 v5:=Tryz.zeroValue5
 t9:=Tryz.underlying9
 a9:=Tryz.isAgg9
 z9:=Tryz.sizeOf9
 v9:=Tryz.zeroValue9
 t46:=Tryz.underlying231
 a46:=Tryz.isAgg231
 z46:=Tryz.sizeOf231
 v46:=Tryz.zeroValue231
 t51:=Tryz.underlying299
 a51:=Tryz.isAgg299
 z51:=Tryz.sizeOf299
 v51:=Tryz.zeroValue299
 t59:=Tryz.underlying245
 a59:=Tryz.isAgg245
 z59:=Tryz.sizeOf245
 v59:=Tryz.zeroValue245
 t146:=Tryz.underlying309
 a146:=Tryz.isAgg309
 z146:=Tryz.sizeOf309
 v146:=Tryz.zeroValue309
 g1:=by kernel_rfl }
open Go.RowKit Go.Lib in
theorem Tryz.strings_Cut (s sep:ByteArray) (m:Int) (w:World) (hs:s.size<4294967281) (hm:w.cell? ⟨1,0,none⟩=some (.int .i64 m)) :
  Calls Tryz.prog 237 #[.string s,.string sep] w fun e w'=>e = .returned (.tuple #[.string ⟨(Lib.cut s.data.toList sep.data.toList).1.toArray⟩,.string ⟨(Lib.cut s.data.toList sep.data.toList).2.1.toArray⟩,.bool (Lib.cut s.data.toList sep.data.toList).2.2])∧∃ n,w'=w.drewN n:=Any.strings_Cut Tryz.lays145 s sep m w hs hm
def Tryz.lays99_ren:Go.Shelf.Ren:=⟨fun | 99=>236 | 206=>285 | n=>n,fun | 9=>9 | 4=>4 | 3=>3 | n=>n,fun | n=>n⟩
theorem Tryz.lays99:Go.Proofs.Lays.n99 Tryz.prog Tryz.lays99_ren:={
 mixed:=by kernel_rfl
 f99:=Tryz.func236.trans (congrArg some (by kernel_rfl))
 f206:=Tryz.func285.trans (congrArg some (by kernel_rfl))
 t3:=Tryz.underlying3
 a3:=Tryz.isAgg3
 z3:=Tryz.sizeOf3
 v3:=Tryz.zeroValue3
 t4:=Tryz.underlying4
 a4:=Tryz.isAgg4
 z4:=Tryz.sizeOf4
 v4:=Tryz.zeroValue4
 t9:=Tryz.underlying9
 a9:=Tryz.isAgg9
 z9:=Tryz.sizeOf9
 v9:=Tryz.zeroValue9 }
open Go.RowKit Go.Lib in
theorem Tryz.strings_HasPrefix (s p:ByteArray) (w:World) :
  Calls Tryz.prog 236 #[.string s,.string p] w fun e w'=>e = .returned (.bool (Lib.hasPrefix s.data.toList p.data.toList))∧w'=w:=Any.strings_HasPrefix Tryz.lays99 s p w
def Tryz.lays152_ren:Go.Shelf.Ren:=⟨fun | 152=>281 | 137=>322 | 119=>323 | 224=>324 | 225=>325 | 217=>357 | 266=>369 | n=>n,fun | 9=>9 | 21=>21 | 3=>3 | 4=>4 | 5=>5 | 0=>0 | 46=>231 | n=>n,fun | n=>n⟩
theorem Tryz.lays152:Go.Proofs.Lays.n152 Tryz.prog Tryz.lays152_ren:={
 mixed:=by kernel_rfl
 f119:=Tryz.func323.trans (congrArg some (by kernel_rfl))
 f137:=Tryz.func322.trans (congrArg some (by kernel_rfl))
 f152:=Tryz.func281.trans (congrArg some (by kernel_rfl))
 f217:=Tryz.func357.trans (congrArg some (by kernel_rfl))
 f224:=Tryz.func324.trans (congrArg some (by kernel_rfl))
 f225:=Tryz.func325.trans (congrArg some (by kernel_rfl))
 f266:=Tryz.func369.trans (congrArg some (by kernel_rfl))
 t0:=Tryz.underlying0
 a0:=Tryz.isAgg0
 z0:=Tryz.sizeOf0
 v0:=Tryz.zeroValue0
 t3:=Tryz.underlying3
 a3:=Tryz.isAgg3
 z3:=Tryz.sizeOf3
 v3:=Tryz.zeroValue3
 t4:=Tryz.underlying4
 a4:=Tryz.isAgg4
 z4:=Tryz.sizeOf4
 v4:=Tryz.zeroValue4
 t5:=Tryz.underlying5
 a5:=Tryz.isAgg5
 z5:=Tryz.sizeOf5
 v5:=Tryz.zeroValue5
 t9:=Tryz.underlying9
 a9:=Tryz.isAgg9
 z9:=Tryz.sizeOf9
 v9:=Tryz.zeroValue9
 t21:=Tryz.underlying21
 a21:=Tryz.isAgg21
 z21:=Tryz.sizeOf21
 v21:=Tryz.zeroValue21
 t46:=Tryz.underlying231
 a46:=Tryz.isAgg231
 z46:=Tryz.sizeOf231
 v46:=Tryz.zeroValue231 }
open Go.RowKit Go.Lib in
theorem Tryz.strings_IndexRune_ascii (s:ByteArray) (r:Int) (w:World) (h0:0≤r) (h1:r<128) :
  Calls Tryz.prog 281 #[.string s,.int .i32 r] w fun e w'=>e = .returned (.int .i64 (Lib.indexByte s.data.toList r.toNat.toUInt8))∧w'=w:=Any.strings_IndexRune_ascii Tryz.lays152 s r w h0 h1
def Tryz.lays226_ren:Go.Shelf.Ren:=⟨fun | 226=>282 | n=>n,fun | 3=>3 | 4=>4 | n=>n,fun | n=>n⟩
theorem Tryz.lays226:Go.Proofs.Lays.n226 Tryz.prog Tryz.lays226_ren:={
 mixed:=by kernel_rfl
 f226:=Tryz.func282.trans (congrArg some (by kernel_rfl))
 t3:=Tryz.underlying3
 a3:=Tryz.isAgg3
 z3:=Tryz.sizeOf3
 v3:=Tryz.zeroValue3
 t4:=Tryz.underlying4
 a4:=Tryz.isAgg4
 z4:=Tryz.sizeOf4
 v4:=Tryz.zeroValue4 }
open Go.RowKit Go.Lib in
theorem Tryz.strings_shouldUseASCIISet (n:Int) (w:World) :
  Calls Tryz.prog 282 #[.int .i64 n] w fun e w'=>e = .returned (.bool (decide (8<n)))∧w'=w:=Any.strings_shouldUseASCIISet Tryz.lays226 n w
def Tryz.lays153_ren:Go.Shelf.Ren:=⟨fun | 153=>235 | 152=>281 | 226=>282 | 227=>283 | 228=>284 | 137=>322 | 119=>323 | 224=>324 | 225=>325 | 217=>357 | 266=>369 | n=>n,fun | 9=>9 | 3=>3 | 4=>4 | 5=>5 | 21=>21 | 117=>287 | 116=>286 | 0=>0 | 46=>231 | 124=>323 | n=>n,fun | n=>n⟩
theorem Tryz.lays153:Go.Proofs.Lays.n153 Tryz.prog Tryz.lays153_ren:={
 mixed:=by kernel_rfl
 f119:=Tryz.func323.trans (congrArg some (by kernel_rfl))
 f137:=Tryz.func322.trans (congrArg some (by kernel_rfl))
 f152:=Tryz.func281.trans (congrArg some (by kernel_rfl))
 f153:=Tryz.func235.trans (congrArg some (by kernel_rfl))
 f217:=Tryz.func357.trans (congrArg some (by kernel_rfl))
 f224:=Tryz.func324.trans (congrArg some (by kernel_rfl))
 f225:=Tryz.func325.trans (congrArg some (by kernel_rfl))
 f226:=Tryz.func282.trans (congrArg some (by kernel_rfl))
 f227:=Tryz.func283.trans (congrArg some (by kernel_rfl))
 f228:=Tryz.func284.trans (congrArg some (by kernel_rfl))
 f266:=Tryz.func369.trans (congrArg some (by kernel_rfl))
 t0:=Tryz.underlying0
 a0:=Tryz.isAgg0
 z0:=Tryz.sizeOf0
 v0:=Tryz.zeroValue0
 t3:=Tryz.underlying3
 a3:=Tryz.isAgg3
 z3:=Tryz.sizeOf3
 v3:=Tryz.zeroValue3
 t4:=Tryz.underlying4
 a4:=Tryz.isAgg4
 z4:=Tryz.sizeOf4
 v4:=Tryz.zeroValue4
 t5:=Tryz.underlying5
 a5:=Tryz.isAgg5
 z5:=Tryz.sizeOf5
 v5:=Tryz.zeroValue5
 t9:=Tryz.underlying9
 a9:=Tryz.isAgg9
 z9:=Tryz.sizeOf9
 v9:=Tryz.zeroValue9
 t21:=Tryz.underlying21
 a21:=Tryz.isAgg21
 z21:=Tryz.sizeOf21
 v21:=Tryz.zeroValue21
 t46:=Tryz.underlying231
 a46:=Tryz.isAgg231
 z46:=Tryz.sizeOf231
 v46:=Tryz.zeroValue231
 t116:=Tryz.underlying286
 a116:=Tryz.isAgg286
 z116:=Tryz.sizeOf286
 t117:=Tryz.underlying287
 a117:=Tryz.isAgg287
 z117:=Tryz.sizeOf287
 v117:=Tryz.zeroValue287
 t124:=Tryz.underlying323
 a124:=Tryz.isAgg323
 z124:=Tryz.sizeOf323
 v124:=Tryz.zeroValue323 }
open Go.RowKit Go.Lib in
theorem Tryz.strings_IndexAny_long (hv116:∀ w,(zeroValue 286).run Tryz.prog w = .ok (.agg (Array.replicate 256 (.bool false))) w) (s chars:ByteArray) (w:World) (h2:2≤chars.size) (h8:8<s.size) (hs:s.size<4294967281) (hcs:chars.size<4294967281) (hascii:∀ (j:Nat) b,chars.data.toList[j]? = some b→b.toNat<128) :
  Calls Tryz.prog 235 #[.string s,.string chars] w fun e w'=>e = .returned (.int .i64 (Lib.indexAny s.data.toList chars.data.toList))∧w'=((w.alloc (.cells (Lib.setCells chars.data.toList) 286)).alloc (.cells (Lib.setCells chars.data.toList) 286)):=Any.strings_IndexAny_long Tryz.lays153 hv116 (by kernel_rfl) s chars w h2 h8 hs hcs hascii
def Tryz.laysAtoi_ren:Go.Shelf.Ren:=⟨fun | 172=>238 | 244=>287 | 245=>288 | 247=>327 | 279=>328 | 280=>329 | 281=>330 | 282=>331 | 287=>359 | 316=>360 | 171=>134 | 205=>361 | 321=>371 | 322=>372 | 243=>206 | 246=>272 | 283=>315 | 284=>316 | 285=>317 | 286=>318 | 129=>299 | 317=>344 | 318=>345 | 319=>346 | 320=>347 | 337=>364 | 338=>365 | n=>n,fun | 9=>9 | 3=>3 | 75=>248 | 76=>249 | 4=>4 | 5=>5 | 167=>324 | 37=>167 | 0=>0 | 85=>325 | 2=>2 | 168=>327 | 53=>301 | 175=>346 | 46=>231 | 210=>349 | 127=>313 | 145=>359 | 143=>357 | 21=>21 | 171=>315 | 173=>317 | 212=>339 | 51=>299 | 20=>20 | 213=>340 | 232=>360 | 233=>361 | 80=>242 | n=>n,fun | 15=>5 | 16=>6 | 17=>4 | 18=>7 | 19=>8 | n=>n⟩
theorem Tryz.laysAtoi:Go.Proofs.LaysC.n172 Tryz.prog Tryz.laysAtoi_ren:={
 mixed:=by kernel_rfl
 f129:=Tryz.func299.trans (congrArg some (by kernel_rfl))
 f171:=Tryz.func134.trans (congrArg some (by kernel_rfl))
 f172:=Tryz.func238.trans (congrArg some (by kernel_rfl))
 f205:=Tryz.func361.trans (congrArg some (by kernel_rfl))
 f243:=Tryz.func206.trans (congrArg some (by kernel_rfl))
 f244:=Tryz.func287.trans (congrArg some (by kernel_rfl))
 f245:=Tryz.func288.trans (congrArg some (by kernel_rfl))
 f246:=Tryz.func272.trans (congrArg some (by kernel_rfl))
 f247:=Tryz.func327.trans (congrArg some (by kernel_rfl))
 f279:=Tryz.func328.trans (congrArg some (by kernel_rfl))
 f280:=Tryz.func329.trans (congrArg some (by kernel_rfl))
 f281:=Tryz.func330.trans (congrArg some (by kernel_rfl))
 f282:=Tryz.func331.trans (congrArg some (by kernel_rfl))
 f283:=Tryz.func315.trans (congrArg some (by kernel_rfl))
 f284:=Tryz.func316.trans (congrArg some (by kernel_rfl))
 f285:=Tryz.func317.trans (congrArg some (by kernel_rfl))
 f286:=Tryz.func318.trans (congrArg some (by kernel_rfl))
 f287:=Tryz.func359.trans (congrArg some (by kernel_rfl))
 f316:=Tryz.func360.trans (congrArg some (by kernel_rfl))
 f317:=Tryz.func344.trans (congrArg some (by kernel_rfl))
 f318:=Tryz.func345.trans (congrArg some (by kernel_rfl))
 f319:=Tryz.func346.trans (congrArg some (by kernel_rfl))
 f320:=Tryz.func347.trans (congrArg some (by kernel_rfl))
 f321:=Tryz.func371.trans (congrArg some (by kernel_rfl))
 f322:=Tryz.func372.trans (congrArg some (by kernel_rfl))
 f337:=Tryz.func364.trans (congrArg some (by kernel_rfl))
 f338:=Tryz.func365.trans (congrArg some (by kernel_rfl))
 t0:=Tryz.underlying0
 a0:=Tryz.isAgg0
 z0:=Tryz.sizeOf0
 v0:=Tryz.zeroValue0
 t2:=Tryz.underlying2
 a2:=Tryz.isAgg2
 z2:=Tryz.sizeOf2
 v2:=Tryz.zeroValue2
 t3:=Tryz.underlying3
 a3:=Tryz.isAgg3
 z3:=Tryz.sizeOf3
 v3:=Tryz.zeroValue3
 t4:=Tryz.underlying4
 a4:=Tryz.isAgg4
 z4:=Tryz.sizeOf4
 v4:=Tryz.zeroValue4
 t5:=Tryz.underlying5
 a5:=Tryz.isAgg5
 z5:=Tryz.sizeOf5
 v5:=Tryz.zeroValue5
 t9:=Tryz.underlying9
 a9:=Tryz.isAgg9
 z9:=Tryz.sizeOf9
 v9:=Tryz.zeroValue9
 t20:=Tryz.underlying20
 a20:=Tryz.isAgg20
 z20:=Tryz.sizeOf20
 v20:=Tryz.zeroValue20
 t21:=Tryz.underlying21
 a21:=Tryz.isAgg21
 z21:=Tryz.sizeOf21
 v21:=Tryz.zeroValue21
 t37:=Tryz.underlying167
 a37:=Tryz.isAgg167
 z37:=Tryz.sizeOf167
 v37:=Tryz.zeroValue167
 t46:=Tryz.underlying231
 a46:=Tryz.isAgg231
 z46:=Tryz.sizeOf231
 v46:=Tryz.zeroValue231
 t51:=Tryz.underlying299
 a51:=Tryz.isAgg299
 z51:=Tryz.sizeOf299
 v51:=Tryz.zeroValue299
 t53:=Tryz.underlying301
 a53:=Tryz.isAgg301
 z53:=Tryz.sizeOf301
 v53:=Tryz.zeroValue301
 t75:=Tryz.underlying248
 a75:=Tryz.isAgg248
 z75:=Tryz.sizeOf248
 v75:=Tryz.zeroValue248
 t76:=Tryz.underlying249
 a76:=Tryz.isAgg249
 z76:=Tryz.sizeOf249
 v76:=Tryz.zeroValue249
 t85:=Tryz.underlying325
 a85:=Tryz.isAgg325
 z85:=Tryz.sizeOf325
 v85:=Tryz.zeroValue325
 t127:=Tryz.underlying313
 a127:=Tryz.isAgg313
 z127:=Tryz.sizeOf313
 v127:=Tryz.zeroValue313
 t143:=Tryz.underlying357
 a143:=Tryz.isAgg357
 z143:=Tryz.sizeOf357
 v143:=Tryz.zeroValue357
 t145:=Tryz.underlying359
 a145:=Tryz.isAgg359
 z145:=Tryz.sizeOf359
 v145:=Tryz.zeroValue359
 t167:=Tryz.underlying324
 a167:=Tryz.isAgg324
 z167:=Tryz.sizeOf324
 v167:=Tryz.zeroValue324
 t168:=Tryz.underlying327
 a168:=Tryz.isAgg327
 z168:=Tryz.sizeOf327
 v168:=Tryz.zeroValue327
 t171:=Tryz.underlying315
 a171:=Tryz.isAgg315
 z171:=Tryz.sizeOf315
 v171:=Tryz.zeroValue315
 t173:=Tryz.underlying317
 a173:=Tryz.isAgg317
 z173:=Tryz.sizeOf317
 v173:=Tryz.zeroValue317
 t175:=Tryz.underlying346
 a175:=Tryz.isAgg346
 z175:=Tryz.sizeOf346
 v175:=Tryz.zeroValue346
 t210:=Tryz.underlying349
 a210:=Tryz.isAgg349
 z210:=Tryz.sizeOf349
 v210:=Tryz.zeroValue349
 t212:=Tryz.underlying339
 a212:=Tryz.isAgg339
 z212:=Tryz.sizeOf339
 v212:=Tryz.zeroValue339
 t213:=Tryz.underlying340
 a213:=Tryz.isAgg340
 z213:=Tryz.sizeOf340
 t232:=Tryz.underlying360
 a232:=Tryz.isAgg360
 z232:=Tryz.sizeOf360
 v232:=Tryz.zeroValue360
 t233:=Tryz.underlying361
 a233:=Tryz.isAgg361
 z233:=Tryz.sizeOf361
 v233:=Tryz.zeroValue361
 g15:=by kernel_rfl
 g16:=by kernel_rfl
 g17:=by kernel_rfl
 g18:=by kernel_rfl
 g19:=by kernel_rfl
 t80:=Tryz.underlying242
 a80:=Tryz.isAgg242
 z80:=Tryz.sizeOf242
 v80:=Tryz.zeroValue242
 i0:=by kernel_rfl
 i2:=by kernel_rfl
 i3:=by kernel_rfl
 i4:=by kernel_rfl
 i5:=by kernel_rfl
 i9:=by kernel_rfl
 i20:=by kernel_rfl
 i21:=by kernel_rfl
 i37:=by kernel_rfl
 i46:=by kernel_rfl
 i51:=by kernel_rfl
 i53:=by kernel_rfl
 i75:=by kernel_rfl
 i76:=by kernel_rfl
 i80:=by kernel_rfl
 i85:=by kernel_rfl
 i127:=by kernel_rfl
 i143:=by kernel_rfl
 i145:=by kernel_rfl
 i167:=by kernel_rfl
 i168:=by kernel_rfl
 i171:=by kernel_rfl
 i173:=by kernel_rfl
 i175:=by kernel_rfl
 i210:=by kernel_rfl
 i212:=by kernel_rfl
 i232:=by kernel_rfl
 i233:=by kernel_rfl
 m15:=by kernel_rfl
 m16:=by kernel_rfl
 m17:=by kernel_rfl
 m18:=by kernel_rfl
 m19:=by kernel_rfl
 c0:=by kernel_rfl
 c2:=by kernel_rfl
 c3:=by kernel_rfl
 c4:=by kernel_rfl
 c5:=by kernel_rfl
 c9:=by kernel_rfl
 c20:=by kernel_rfl
 c21:=by kernel_rfl
 c37:=by kernel_rfl
 c46:=by kernel_rfl
 c51:=by kernel_rfl
 c53:=by kernel_rfl
 c75:=by kernel_rfl
 c76:=by kernel_rfl
 c80:=by kernel_rfl
 c85:=by kernel_rfl
 c127:=by kernel_rfl
 c143:=by kernel_rfl
 c145:=by kernel_rfl
 c167:=by kernel_rfl
 c168:=by kernel_rfl
 c171:=by kernel_rfl
 c173:=by kernel_rfl
 c175:=by kernel_rfl
 c210:=by kernel_rfl
 c212:=by kernel_rfl
 c213:=by kernel_rfl
 c232:=by kernel_rfl
 c233:=by kernel_rfl }
def Tryz.laysComp_ren:Go.Shelf.Ren:=⟨fun | 194=>160 | n=>n,fun | 31=>22 | 9=>9 | 3=>3 | 4=>4 | 0=>0 | n=>n,fun | n=>n⟩
theorem Tryz.laysComp:Go.Proofs.Lays.n194 Tryz.prog Tryz.laysComp_ren:={
 mixed:=by kernel_rfl
 f194:=Tryz.func160.trans (congrArg some (by kernel_rfl))
 t0:=Tryz.underlying0
 a0:=Tryz.isAgg0
 z0:=Tryz.sizeOf0
 v0:=Tryz.zeroValue0
 t3:=Tryz.underlying3
 a3:=Tryz.isAgg3
 z3:=Tryz.sizeOf3
 v3:=Tryz.zeroValue3
 t4:=Tryz.underlying4
 a4:=Tryz.isAgg4
 z4:=Tryz.sizeOf4
 v4:=Tryz.zeroValue4
 t9:=Tryz.underlying9
 a9:=Tryz.isAgg9
 z9:=Tryz.sizeOf9
 v9:=Tryz.zeroValue9
 t31:=Tryz.underlying22
 a31:=Tryz.isAgg22
 z31:=Tryz.sizeOf22
 v31:=Tryz.zeroValue22 }
def Tryz.laysSortS_ren:Go.Shelf.Ren:=⟨fun | 190=>159 | 125=>240 | 258=>239 | 128=>298 | 129=>299 | 302=>289 | 303=>290 | 304=>291 | 305=>292 | 306=>293 | 307=>294 | 308=>295 | 309=>296 | 310=>297 | 333=>332 | 329=>333 | 330=>334 | 334=>335 | 335=>336 | 336=>337 | 344=>362 | n=>n,fun | 31=>22 | 9=>9 | 3=>3 | 46=>231 | 0=>0 | 51=>299 | 53=>301 | 4=>4 | 183=>293 | 182=>292 | 131=>90 | 5=>5 | 218=>330 | 222=>135 | 228=>351 | 229=>302 | n=>n,fun | n=>n⟩
theorem Tryz.laysSortS:Go.Proofs.Lays.n190 Tryz.prog Tryz.laysSortS_ren:={
 mixed:=by kernel_rfl
 f125:=Tryz.func240.trans (congrArg some (by kernel_rfl))
 f128:=Tryz.func298.trans (congrArg some (by kernel_rfl))
 f129:=Tryz.func299.trans (congrArg some (by kernel_rfl))
 f190:=Tryz.func159.trans (congrArg some (by kernel_rfl))
 f258:=Tryz.func239.trans (congrArg some (by kernel_rfl))
 f302:=Tryz.func289.trans (congrArg some (by kernel_rfl))
 f303:=Tryz.func290.trans (congrArg some (by kernel_rfl))
 f304:=Tryz.func291.trans (congrArg some (by kernel_rfl))
 f305:=Tryz.func292.trans (congrArg some (by kernel_rfl))
 f306:=Tryz.func293.trans (congrArg some (by kernel_rfl))
 f307:=Tryz.func294.trans (congrArg some (by kernel_rfl))
 f308:=Tryz.func295.trans (congrArg some (by kernel_rfl))
 f309:=Tryz.func296.trans (congrArg some (by kernel_rfl))
 f310:=Tryz.func297.trans (congrArg some (by kernel_rfl))
 f329:=Tryz.func333.trans (congrArg some (by kernel_rfl))
 f330:=Tryz.func334.trans (congrArg some (by kernel_rfl))
 f333:=Tryz.func332.trans (congrArg some (by kernel_rfl))
 f334:=Tryz.func335.trans (congrArg some (by kernel_rfl))
 f335:=Tryz.func336.trans (congrArg some (by kernel_rfl))
 f336:=Tryz.func337.trans (congrArg some (by kernel_rfl))
 f344:=Tryz.func362.trans (congrArg some (by kernel_rfl))
 t0:=Tryz.underlying0
 a0:=Tryz.isAgg0
 z0:=Tryz.sizeOf0
 v0:=Tryz.zeroValue0
 t3:=Tryz.underlying3
 a3:=Tryz.isAgg3
 z3:=Tryz.sizeOf3
 v3:=Tryz.zeroValue3
 t4:=Tryz.underlying4
 a4:=Tryz.isAgg4
 z4:=Tryz.sizeOf4
 v4:=Tryz.zeroValue4
 t5:=Tryz.underlying5
 a5:=Tryz.isAgg5
 z5:=Tryz.sizeOf5
 v5:=Tryz.zeroValue5
 t9:=Tryz.underlying9
 a9:=Tryz.isAgg9
 z9:=Tryz.sizeOf9
 v9:=Tryz.zeroValue9
 t31:=Tryz.underlying22
 a31:=Tryz.isAgg22
 z31:=Tryz.sizeOf22
 v31:=Tryz.zeroValue22
 t46:=Tryz.underlying231
 a46:=Tryz.isAgg231
 z46:=Tryz.sizeOf231
 v46:=Tryz.zeroValue231
 t51:=Tryz.underlying299
 a51:=Tryz.isAgg299
 z51:=Tryz.sizeOf299
 v51:=Tryz.zeroValue299
 t53:=Tryz.underlying301
 a53:=Tryz.isAgg301
 z53:=Tryz.sizeOf301
 v53:=Tryz.zeroValue301
 t131:=Tryz.underlying90
 a131:=Tryz.isAgg90
 z131:=Tryz.sizeOf90
 v131:=Tryz.zeroValue90
 t182:=Tryz.underlying292
 a182:=Tryz.isAgg292
 z182:=Tryz.sizeOf292
 v182:=Tryz.zeroValue292
 t183:=Tryz.underlying293
 a183:=Tryz.isAgg293
 z183:=Tryz.sizeOf293
 v183:=Tryz.zeroValue293
 t218:=Tryz.underlying330
 a218:=Tryz.isAgg330
 z218:=Tryz.sizeOf330
 v218:=Tryz.zeroValue330
 t222:=Tryz.underlying135
 a222:=Tryz.isAgg135
 z222:=Tryz.sizeOf135
 v222:=Tryz.zeroValue135
 t228:=Tryz.underlying351
 a228:=Tryz.isAgg351
 z228:=Tryz.sizeOf351
 v228:=Tryz.zeroValue351
 t229:=Tryz.underlying302
 a229:=Tryz.isAgg302
 z229:=Tryz.sizeOf302
 v229:=Tryz.zeroValue302 }
end Go.Proofs
namespace Go.Proofs
open Go.Shelf Go.RowKit Go.Lib Go
variable {P:Program} {ρ:Ren}
abbrev stops:ByteArray:=⟨#[46,91,63]⟩
theorem Yc:∀ (i:Nat) (h:i<stops.size),(stops[i]'h).toNat<128∧((stops[i]'h).toNat:Int)≠65533:=by decide
theorem ZgW (n:Nat):128≤(UInt8.ofNat (128+n % 64)).toNat:=by rw [UInt8.toNat_ofNat'];omega
theorem ZbL (r:Int) (h0:128≤r):(∃ a b,Utf8.encode r=⟨#[a,b]⟩∧128≤b.toNat)∨(∃ a b c,Utf8.encode r=⟨#[a,b,c]⟩∧128≤c.toNat)∨∃ a b c d,Utf8.encode r=⟨#[a,b,c,d]⟩:=by
 obtain ⟨c,hc,he⟩:∃ c:Nat,128≤c∧(if Utf8.valid r=true then r.toNat else Utf8.runeError)=c:=by
  by_cases h:Utf8.valid r=true
  ·exact ⟨r.toNat,by omega,by rw [Ai h]⟩
  ·exact ⟨Utf8.runeError,by decide,by rw [Aj h]⟩
 unfold Utf8.encode
 simp only [he]
 rw [Aa]
 by_cases h1:c<2048
 ·rw [Ai h1];exact .inl ⟨_,_,rfl,ZgW _⟩
 rw [Aj h1]
 by_cases h2:c<65536
 ·rw [Ai h2];exact .inr (.inl ⟨_,_,_,rfl,ZgW _⟩)
 ·rw [Aj h2];exact .inr (.inr ⟨_,_,_,_,rfl⟩)
set_option maxRecDepth 1000000 in
theorem Z2 (L:Lays.n152 P ρ) (w:World) :
  Calls P (ρ.f 152) #[.string stops,.int .i32 65533] w fun e w'=>e = .returned (.int .i64 (-1))∧∃ pos,w'=w.iter stops pos:=by
 have t3:=L.t3;have a3:=L.a3;have z3:=L.z3;have v3:=L.v3
 have t4:=L.t4;have a4:=L.a4;have z4:=L.z4;have v4:=L.v4
 have t5:=L.t5;have a5:=L.a5;have z5:=L.z5;have v5:=L.v5
 have t9:=L.t9;have a9:=L.a9;have z9:=L.z9;have v9:=L.v9
 have t21:=L.t21;have a21:=L.a21;have z21:=L.z21;have v21:=L.v21
 go_enter L.f152,Body.n152_ntmps ρ
 go_wp2
 go_loopg [5,6] 3 (fun g _ _ wx=>∃ i:Nat,i+g=3∧wx=w.iter stops i)
 case atStart=>exact ⟨0,by omega,rfl⟩
 case round =>
  obtain ⟨i,hig,rfl⟩:=hrel
  cases gk with
  | zero =>
   obtain rfl:i=3:=by omega
   have hnx:=run_next_end (P:=P) w stops 3
   go_wp2
   go_ret
   exact ⟨rfl,_,rfl⟩
  | succ g =>
   have hi:i<stops.size:=by show i<3;omega
   obtain ⟨x,hx⟩:∃ x:UInt8,stops[i]'hi=x:=⟨_,rfl⟩
   obtain ⟨hx128,hxn⟩:=Yc i hi
   have hnx:=fun ty=>run_next_ascii (P:=P) w stops i ty hi hx128
   rw [hx] at hnx hxn
   have hb:((x.toNat:Int) == 65533)=false:=beq_eq_false_iff_ne.2 hxn
   go_wp2
   go_roundg g
   case measure=>omega
   case rel=>exact ⟨i+1,by omega,rfl⟩
set_option maxRecDepth 1000000 in
theorem Zcn (L:Lays.n152 P ρ) (r:Int) (w:World) (h0:128≤r) (h1:r≠65533) (hv:Lib.validRune r=false) :
  Calls P (ρ.f 152) #[.string stops,.int .i32 r] w fun e w'=>e = .returned (.int .i64 (-1))∧Below w.heap.size w w':=by
 have t3:=L.t3;have a3:=L.a3;have z3:=L.z3;have v3:=L.v3
 have t4:=L.t4;have a4:=L.a4;have z4:=L.z4;have v4:=L.v4
 have t5:=L.t5;have a5:=L.a5;have z5:=L.z5;have v5:=L.v5
 have t9:=L.t9;have a9:=L.a9;have z9:=L.z9;have v9:=L.v9
 have t21:=L.t21;have a21:=L.a21;have z21:=L.z21;have v21:=L.v21
 have e119:∀ args w,(callFunc (ρ.f 119) args).run P w = .ok (.enter (ρ.f 119) args) w:=enters_of L.f119 (by kernel_rfl) rfl
 have hlt:¬ r<128:=by omega
 have hne:(r == 65533)=false:=beq_eq_false_iff_ne.2 h1
 go_enter L.f152,Body.n152_ntmps ρ
 go_wp2_with (go_at_fn (ρ.f 119);refine (Any.utf8_ValidRune { L with } _ _).mono ?_;rintro e w' ⟨rfl,hw⟩;rw [hw,hv])
 go_ret
 exact ⟨rfl,.refl _ _⟩
set_option maxRecDepth 1000000 in
theorem ZcQ (L:Lays.n152 P ρ) (r:Int) (w:World) (h0:128≤r) (h1:r≠65533) (hv:Lib.validRune r=true) (a b:UInt8) (he:Utf8.encode r=⟨#[a,b]⟩) (hb:128≤b.toNat) :
  Calls P (ρ.f 152) #[.string stops,.int .i32 r] w fun e w'=>e = .returned (.int .i64 (-1))∧Below w.heap.size w w':=by
 have mixed:=L.mixed
 have t3:=L.t3;have a3:=L.a3;have z3:=L.z3;have v3:=L.v3
 have t4:=L.t4;have a4:=L.a4;have z4:=L.z4;have v4:=L.v4
 have t5:=L.t5;have a5:=L.a5;have z5:=L.z5;have v5:=L.v5
 have t9:=L.t9;have a9:=L.a9;have z9:=L.z9;have v9:=L.v9
 have t21:=L.t21;have a21:=L.a21;have z21:=L.z21;have v21:=L.v21
 have e119:∀ args w,(callFunc (ρ.f 119) args).run P w = .ok (.enter (ρ.f 119) args) w:=enters_of L.f119 (by kernel_rfl) rfl
 have e137:∀ args w,(callFunc (ρ.f 137) args).run P w = .ok (.enter (ρ.f 137) args) w:=enters_of L.f137 (by kernel_rfl) rfl
 have hlt:¬ r<128:=by omega
 have hne:(r == 65533)=false:=beq_eq_false_iff_ne.2 h1
 have hbn:(((stops[1]'(by decide)).toNat:Int) != (((⟨#[a,b]⟩:ByteArray)[1]'(by simp [ByteArray.size])).toNat:Int))=true:=bne_iff_ne.2 (by show (91:Int)≠(b.toNat:Int);omega)
 have hsum:IntKind.i64.wrap (1+1)=2:=by decide
 have hx:Lib.indexByte (stops.extract 2 3).data.toList ((((⟨#[a,b]⟩:ByteArray)[1]'(by simp [ByteArray.size])).toNat:Int)).toNat.toUInt8 = -1:=by
  show Lib.indexByte [63] (b.toNat:Int).toNat.toUInt8 = -1
  have e:(b.toNat:Int).toNat.toUInt8=b:=by simp
  rw [e]
  have hn:((63:UInt8) == b)=false:=beq_eq_false_iff_ne.2 (fun q=>by rw [←q] at hb;exact absurd hb (by decide))
  simp [Lib.indexByte,hn]
 go_enter L.f152,Body.n152_ntmps ρ
 go_wp2_with (first
  | (go_at_fn (ρ.f 119);refine (Any.utf8_ValidRune { L with } _ _).mono ?_;rintro e w' ⟨rfl,hw⟩;rw [hw,hv])
  | (go_at_fn (ρ.f 137);refine (Any.strings_IndexByte { L with } _ _ _).mono ?_;rintro e w' ⟨rfl,hw⟩;rw [hw]))
 go_step3
 go_wp2
 go_loopg [9] 1 (fun g s9 wx=>s9 = .int .i64 1∧wx=w)
 case atStart=>exact ⟨rfl,rfl⟩
 case round =>
  obtain ⟨rfl,rfl⟩:=hrel
  go_wp2
  go_step3
  go_wp2
  refine wp_region_quiet_lit mixed (by kernel_rfl) ?_
  repeat (first | go_big_quiet_step (fail) | quiet_step (fail))
  refine wpQuiet_nil ?_
  intro _ hw'
  obtain ⟨nq,hw''⟩:=hw'
  subst hw''
  go_wp2
  refine wp_region_quiet_lit mixed (by kernel_rfl) ?_
  repeat (first | go_big_quiet_step (fail) | quiet_step (fail))
  refine wpQuiet_step (fun K hK=>?_)
  go_simp
  refine ⟨_,fun q=>((Any.strings_IndexByte { L with } _ _ _).mono fun e w' h=>⟨h.1,q,h.2⟩),hK _ ?_⟩
  clear hK K
  repeat (first | go_big_quiet_step (fail) | quiet_step (fail))
  refine wpQuiet_nil ?_
  intro _ hw'
  obtain ⟨nq2,hw''⟩:=hw'
  subst hw''
  rw [hx]
  go_wp2
  go_simp
  try rw [Exit.noGoto_ret]
  go_ret
  exact ⟨rfl,⟨rfl,rfl,rfl,Nat.le_refl _,fun _ _=>rfl⟩⟩
set_option maxRecDepth 1000000 in
theorem Y7 (L:Lays.n152 P ρ) (r:Int) (w:World) (h0:128≤r) (h1:r≠65533) (hv:Lib.validRune r=true) (a b c:UInt8) (he:Utf8.encode r=⟨#[a,b,c]⟩) (hb:128≤c.toNat) :
  Calls P (ρ.f 152) #[.string stops,.int .i32 r] w fun e w'=>e = .returned (.int .i64 (-1))∧Below w.heap.size w w':=by
 have mixed:=L.mixed
 have t3:=L.t3;have a3:=L.a3;have z3:=L.z3;have v3:=L.v3
 have t4:=L.t4;have a4:=L.a4;have z4:=L.z4;have v4:=L.v4
 have t5:=L.t5;have a5:=L.a5;have z5:=L.z5;have v5:=L.v5
 have t9:=L.t9;have a9:=L.a9;have z9:=L.z9;have v9:=L.v9
 have t21:=L.t21;have a21:=L.a21;have z21:=L.z21;have v21:=L.v21
 have e119:∀ args w,(callFunc (ρ.f 119) args).run P w = .ok (.enter (ρ.f 119) args) w:=enters_of L.f119 (by kernel_rfl) rfl
 have e137:∀ args w,(callFunc (ρ.f 137) args).run P w = .ok (.enter (ρ.f 137) args) w:=enters_of L.f137 (by kernel_rfl) rfl
 have hlt:¬ r<128:=by omega
 have hne:(r == 65533)=false:=beq_eq_false_iff_ne.2 h1
 have hbn:(((stops[2]'(by decide)).toNat:Int) != (((⟨#[a,b,c]⟩:ByteArray)[2]'(by simp [ByteArray.size])).toNat:Int))=true:=bne_iff_ne.2 (by show (63:Int)≠(c.toNat:Int);omega)
 have hsum:IntKind.i64.wrap (2+1)=3:=by decide
 have hx:Lib.indexByte ByteArray.empty.data.toList ((((⟨#[a,b,c]⟩:ByteArray)[2]'(by simp [ByteArray.size])).toNat:Int)).toNat.toUInt8 = -1:=by
  show Lib.indexByte [] (c.toNat:Int).toNat.toUInt8 = -1
  have e:(c.toNat:Int).toNat.toUInt8=c:=by simp
  rw [e]
  rfl
 go_enter L.f152,Body.n152_ntmps ρ
 go_wp2_with (first
  | (go_at_fn (ρ.f 119);refine (Any.utf8_ValidRune { L with } _ _).mono ?_;rintro e w' ⟨rfl,hw⟩;rw [hw,hv])
  | (go_at_fn (ρ.f 137);refine (Any.strings_IndexByte { L with } _ _ _).mono ?_;rintro e w' ⟨rfl,hw⟩;rw [hw]))
 go_step3
 go_wp2
 go_loopg [9] 1 (fun g s9 wx=>s9 = .int .i64 2∧wx=w)
 case atStart=>exact ⟨rfl,rfl⟩
 case round =>
  obtain ⟨rfl,rfl⟩:=hrel
  go_wp2
  go_step3
  go_wp2
  refine wp_region_quiet_lit mixed (by kernel_rfl) ?_
  repeat (first | go_big_quiet_step (fail) | quiet_step (fail))
  refine wpQuiet_nil ?_
  intro _ hw'
  obtain ⟨nq,hw''⟩:=hw'
  subst hw''
  go_wp2
  refine wp_region_quiet_lit mixed (by kernel_rfl) ?_
  repeat (first | go_big_quiet_step (fail) | quiet_step (fail))
  refine wpQuiet_step (fun K hK=>?_)
  go_simp
  refine ⟨_,fun q=>((Any.strings_IndexByte { L with } _ _ _).mono fun e w' h=>⟨h.1,q,h.2⟩),hK _ ?_⟩
  clear hK K
  repeat (first | go_big_quiet_step (fail) | quiet_step (fail))
  refine wpQuiet_nil ?_
  intro _ hw'
  obtain ⟨nq2,hw''⟩:=hw'
  subst hw''
  rw [hx]
  go_wp2
  go_simp
  try rw [Exit.noGoto_ret]
  go_ret
  exact ⟨rfl,⟨rfl,rfl,rfl,Nat.le_refl _,fun _ _=>rfl⟩⟩
set_option maxRecDepth 1000000 in
theorem ZbD (L:Lays.n152 P ρ) (r:Int) (w:World) (h0:128≤r) (h1:r≠65533) (hv:Lib.validRune r=true) (a b c d:UInt8) (he:Utf8.encode r=⟨#[a,b,c,d]⟩) :
  Calls P (ρ.f 152) #[.string stops,.int .i32 r] w fun e w'=>e = .returned (.int .i64 (-1))∧Below w.heap.size w w':=by
 have mixed:=L.mixed
 have t3:=L.t3;have a3:=L.a3;have z3:=L.z3;have v3:=L.v3
 have t4:=L.t4;have a4:=L.a4;have z4:=L.z4;have v4:=L.v4
 have t5:=L.t5;have a5:=L.a5;have z5:=L.z5;have v5:=L.v5
 have t9:=L.t9;have a9:=L.a9;have z9:=L.z9;have v9:=L.v9
 have t21:=L.t21;have a21:=L.a21;have z21:=L.z21;have v21:=L.v21
 have e119:∀ args w,(callFunc (ρ.f 119) args).run P w = .ok (.enter (ρ.f 119) args) w:=enters_of L.f119 (by kernel_rfl) rfl
 have e137:∀ args w,(callFunc (ρ.f 137) args).run P w = .ok (.enter (ρ.f 137) args) w:=enters_of L.f137 (by kernel_rfl) rfl
 have hlt:¬ r<128:=by omega
 have hne:(r == 65533)=false:=beq_eq_false_iff_ne.2 h1
 go_enter L.f152,Body.n152_ntmps ρ
 go_wp2_with (first
  | (go_at_fn (ρ.f 119);refine (Any.utf8_ValidRune { L with } _ _).mono ?_;rintro e w' ⟨rfl,hw⟩;rw [hw,hv])
  | (go_at_fn (ρ.f 137);refine (Any.strings_IndexByte { L with } _ _ _).mono ?_;rintro e w' ⟨rfl,hw⟩;rw [hw]))
 go_step3
 go_wp2
 go_loopg [9] 1 (fun g s9 wx=>s9 = .int .i64 3∧wx=w)
 case atStart=>exact ⟨rfl,rfl⟩
 case round =>
  obtain ⟨rfl,rfl⟩:=hrel
  go_wp2
  go_simp
  try rw [Exit.noGoto_ret]
  go_ret
  exact ⟨rfl,.refl _ _⟩
theorem Zdq (L:Lays.n152 P ρ) (r:Int) (w:World) (h0:128≤r) :
  Calls P (ρ.f 152) #[.string stops,.int .i32 r] w fun e w'=>e = .returned (.int .i64 (-1))∧Below w.heap.size w w':=by
 by_cases h1:r=65533
 ·subst h1
  refine (Z2 L w).mono ?_
  rintro e w' ⟨h,g,rfl⟩
  exact ⟨h,(Below.refl _ _).alloc (Nat.le_refl _) _⟩
 cases hv:Lib.validRune r with
 | false=>exact Zcn L r w h0 h1 hv
 | true =>
  rcases ZbL r h0 with ⟨a,b,he,hb⟩ | ⟨a,b,c,he,hb⟩ | ⟨a,b,c,d,he⟩
  ·exact ZcQ L r w h0 h1 hv a b he hb
  ·exact Y7 L r w h0 h1 hv a b c he hb
  ·exact ZbD L r w h0 h1 hv a b c d he
theorem get!_at (s:ByteArray) (k:Nat) (h:k<s.size):s.data.toList[k]? = some (s.get! k):=by
 rw [Lib.data_getElem? s k h]
 congr 1
 exact (get_at s k h).symm
theorem Zc5 (s : ByteArray) (pos : Nat) (h : pos < s.size) (ha : 128 ≤ (s[pos]'h).toNat) : pos + (Utf8.decode s pos).2 ≤ s.size ∧ ∀ j, pos ≤ j → j < pos + (Utf8.decode s pos).2 → 128 ≤ (s.get! j).toNat := by
  have h0 : 128 ≤ (s.get! (pos + 0)).toNat := by rw [get_at s pos h]; exact ha
  have fin : ∀ n, (∀ k, k < n → pos + k < s.size ∧ 128 ≤ (s.get! (pos + k)).toNat) → 0 < n → pos + n ≤ s.size ∧ ∀ j, pos ≤ j → j < pos + n → 128 ≤ (s.get! j).toNat := fun n hn h1 =>
    ⟨by have := (hn (n - 1) (by omega)).1; omega, fun j hj hj2 => by have := (hn (j - pos) (by omega)).2; rwa [Nat.add_sub_cancel' hj] at this⟩
  have cont : ∀ k, (decide (pos + k < s.size) && (s.get! (pos + k)).toNat / 64 == 2) = true → pos + k < s.size ∧ 128 ≤ (s.get! (pos + k)).toNat := fun k q => by
    rw [Bool.and_eq_true, decide_eq_true_eq, beq_iff_eq] at q; exact ⟨q.1, by omega⟩
  have z : pos + 0 < s.size ∧ 128 ≤ (s.get! (pos + 0)).toNat := ⟨h, h0⟩
  have one : ∀ c : Nat, pos + (c, 1).2 ≤ s.size ∧ ∀ j, pos ≤ j → j < pos + (c, 1).2 → 128 ≤ (s.get! j).toNat := fun _ => fin 1 (fun k hk => by obtain rfl : k = 0 := by omega
                                                                                                                                               exact z) (by omega)
  unfold Utf8.decode
  simp only
  rw [Aa]
  split
  · rename_i q
    rw [Bool.and_eq_true] at q
    split
    · exact fin 2 (fun k hk => by
        rcases (by omega : k = 0 ∨ k = 1) with rfl | rfl
        · exact z
        · exact cont 1 q.2) (by omega)
    · exact one _
  · split
    · rename_i q
      rw [Bool.and_eq_true, Bool.and_eq_true] at q
      split
      · exact fin 3 (fun k hk => by
          rcases (by omega : k = 0 ∨ k = 1 ∨ k = 2) with rfl | rfl | rfl
          · exact z
          · exact cont 1 q.1.2
          · exact cont 2 q.2) (by omega)
      · exact one _
    · split
      · rename_i q
        rw [Bool.and_eq_true, Bool.and_eq_true, Bool.and_eq_true] at q
        split
        · exact fin 4 (fun k hk => by
            rcases (by omega : k = 0 ∨ k = 1 ∨ k = 2 ∨ k = 3) with rfl | rfl | rfl | rfl
            · exact z
            · exact cont 1 q.1.1.2
            · exact cont 2 q.1.2
            · exact cont 3 q.2) (by omega)
        · exact one _
      · exact one _
theorem Zah (b:UInt8) (h:128≤b.toNat):stops.data.toList.contains b=false:=by
 show ([46,91,63]:List UInt8).contains b=false
 simp
 refine ⟨?_,?_,?_⟩<;>(rintro rfl;exact absurd h (by decide))
set_option maxRecDepth 1000000 in
theorem ZbG (L:Lays.n153 P ρ) (s:ByteArray) (w:World) (h8:s.size≤8) :
  Calls P (ρ.f 153) #[.string s,.string stops] w fun e w'=>e = .returned (.int .i64 (Lib.indexAny s.data.toList stops.data.toList))∧Below w.heap.size w w':=by
 have hemp:stops.toList.isEmpty=false:=by rw [Lib.toList_data];rfl
 have hn1:((stops.size:Int) == 1)=false:=by decide
 have h8z:decide ((8:Int)<(s.size:Int))=false:=Ag (by omega)
 have t3:=L.t3;have a3:=L.a3;have z3:=L.z3;have v3:=L.v3
 have t4:=L.t4;have a4:=L.a4;have z4:=L.z4;have v4:=L.v4
 have t5:=L.t5;have a5:=L.a5;have z5:=L.z5;have v5:=L.v5
 have t9:=L.t9;have a9:=L.a9;have z9:=L.z9;have v9:=L.v9
 have t21:=L.t21;have a21:=L.a21;have z21:=L.z21;have v21:=L.v21
 have e152:∀ args w,(callFunc (ρ.f 152) args).run P w = .ok (.enter (ρ.f 152) args) w:=enters_of L.f152 (by kernel_rfl) rfl
 have e226:∀ args w,(callFunc (ρ.f 226) args).run P w = .ok (.enter (ρ.f 226) args) w:=enters_of L.f226 (by kernel_rfl) rfl
 go_enter L.f153,Body.n153_ntmps ρ
 go_wp2_with (go_at_fn (ρ.f 226);refine (Any.strings_shouldUseASCIISet { L with } _ _).mono ?_;rintro e w' ⟨rfl,hw⟩;rw [hw,h8z])
 go_loopg [9,10] s.size (fun g _ _ wr=>∃ pos:Nat,pos+g=s.size∧wr.heap[w.heap.size]? = some (.stringIter s pos)∧Below w.heap.size w wr∧Lib.NoAny s.data.toList stops.data.toList pos)
 case atStart=>exact ⟨0,by omega,World.iter_heap w s 0,(Below.refl _ _).alloc (Nat.le_refl _) _,Lib.NoAny.zero _ _⟩
 case round =>
  obtain ⟨i,hig,hit,hbw,hno⟩:=hrel
  have HN:Aside (Lib.NoAny s.data.toList stops.data.toList i):=hno
  clear hno
  by_cases hp:i<s.size
  ·have hnx:=fun ty=>Lib.run_next_any_at (P:=P) wr w.heap.size s i ty hit hp
   have hit2:=Lib.iterAt_heap wr w.heap.size s i (i+(Utf8.decode s i).2) hit
   have hbw2:=Lib.below_iterAt hbw (k:=w.heap.size) (Nat.le_refl _) s (i+(Utf8.decode s i).2)
   obtain ⟨W1,hW1⟩:∃ W1,W1=wr.iterAt w.heap.size s (i+(Utf8.decode s i).2):=⟨_,rfl⟩
   rw [←hW1] at hnx hit2 hbw2
   have hlt1:w.heap.size<W1.heap.size:=(Array.getElem?_eq_some_iff.1 hit2).1
   clear hW1
   obtain ⟨x,hx⟩:∃ x:UInt8,s[i]'hp=x:=⟨_,rfl⟩
   have hxl:s.data.toList[i]? = some x:=by rw [←hx];exact Lib.data_getElem? s i hp
   by_cases hxa:x.toNat<128
   ·have hdec:Utf8.decode s i=(x.toNat,1):=by rw [←hx];exact decode_ascii s i hp (by rw [hx];exact hxa)
    rw [hdec] at hnx hit2
    have Hx:Aside (s.data.toList[i]? = some x):=hxl
    clear hxl hx hdec
    have hcon:=Lib.contains_iff_indexByte stops.data.toList x
    have hback:(x.toNat:Int).toNat.toUInt8=x:=by simp
    cases hin:stops.data.toList.contains x
    ·rw [hin] at hcon
     have hlt:¬ ((0:Int)≤Lib.indexByte stops.data.toList x):=of_decide_eq_false hcon.symm
     clear hcon
     go_wp2_with (go_at_fn (ρ.f 152);refine (Any.strings_IndexRune_ascii { L with } _ _ _ (by omega) (by omega)).mono ?_;rintro e w' ⟨rfl,hw⟩;rw [hw,hback])
     go_roundg (s.size-(i+1))
     case measure=>omega
     case rel=>exact ⟨i+1,by omega,hit2,hbw2,HN.out.succ Hx.out hin⟩
    ·rw [hin] at hcon
     have hge:(0:Int)≤Lib.indexByte stops.data.toList x:=of_decide_eq_true hcon.symm
     clear hcon
     go_wp2_with (go_at_fn (ρ.f 152);refine (Any.strings_IndexRune_ascii { L with } _ _ _ (by omega) (by omega)).mono ?_;rintro e w' ⟨rfl,hw⟩;rw [hw,hback])
     go_ret
     exact ⟨by rw [Lib.indexAny_hit HN.out Hx.out hin];rfl,hbw2⟩
   ·have hxa':128≤(s[i]'hp).toNat:=by rw [hx];omega
    obtain ⟨d1,d2⟩:=decode_high s i hp hxa'
    obtain ⟨d3,d4⟩:=Zc5 s i hp hxa'
    have HD:Aside (Lib.NoAny s.data.toList stops.data.toList (i+(Utf8.decode s i).2)):=fun j b hj hb=>by
     by_cases c:j<i
     ·exact HN.out j b c hb
     ·have q:=d4 j (by omega) hj
      have hjs:j<s.size:=by omega
      rw [get!_at s j hjs] at hb
      cases hb
      exact Zah _ q
    generalize hdd:Utf8.decode s i=dd at *
    obtain ⟨r,k⟩:=dd
    simp only at d1 d2 d3 HD hnx hit2
    clear d4 hdd hxa' hxa hxl hx
    have hlt:¬ ((0:Int) ≤ -1):=by decide
    go_wp2_with (go_at_fn (ρ.f 152);refine (Zdq { L with } _ _ (by omega)).mono ?_;rintro e w2 ⟨rfl,hb2⟩)
    go_roundg (s.size-(i+k))
    case measure=>omega
    case rel=>exact ⟨i+k,by omega,by rw [hb2.block w.heap.size hlt1];exact hit2,hbw2.trans ⟨hb2.os,hb2.tape,hb2.output,by have:=hb2.size;omega,fun j hj=>hb2.block j (by omega)⟩,HD.out⟩
  ·have hnx:=Lib.run_next_end_at (P:=P) wr w.heap.size s i
   have hnx:=fun ty=>hnx ty hit hp
   go_wp2
   go_ret
   exact ⟨by rw [Lib.indexAny_none (by rw [←Lib.size_eq];exact fun j b hj=>HN.out j b (by omega))];rfl,hbw⟩
end Go.Proofs
namespace Go.Proofs.YtmcnjijeocmkgaaGreatDoor
open Go Go.RowKit Go.Ev
abbrev Jh (w0:World):Prop:=∃ m,w0.cell? ⟨1,0,none⟩=some (.int .i64 m)
abbrev Jl (w0:World):Prop:=(∃ ev,w0.cell? ⟨5,0,none⟩=some ev∧(ev = .nilIface∨∃ te pe,ev = .iface te pe))∧∃ ev,w0.cell? ⟨6,0,none⟩=some ev∧(ev = .nilIface∨∃ te pe,ev = .iface te pe)
theorem Za5:∀ (j:Nat) (b:UInt8),stops.data.toList[j]? = some b→b.toNat<128:=fun j b h=>by
 have a:b∈([46,91,63]:List UInt8):=List.mem_of_getElem? h
 simp only [List.mem_cons,List.not_mem_nil,or_false] at a
 rcases a with rfl | rfl | rfl<;>decide
theorem KU {w0 w:World} {p:Addr} {v:Value} (h:w0.cell? p=some v) (hb:Below w0.heap.size w0 w):w.cell? p=some v:=by
 rw [hb.cell (World.block_lt_of_cell? w0 _ h)];exact h
def XA (s:ByteArray):Int:=Lib.indexAny s.data.toList [46,91,63]
def WZ (s p:ByteArray):Bool:=Lib.hasPrefix s.data.toList p.data.toList
def Oz (s p:ByteArray):ByteArray:=⟨(Lib.cut s.data.toList p.data.toList).1.toArray⟩
def Ze (s p:ByteArray):ByteArray:=⟨(Lib.cut s.data.toList p.data.toList).2.1.toArray⟩
def Zgk (s p:ByteArray):Bool:=(Lib.cut s.data.toList p.data.toList).2.2
def It (s:ByteArray):Int:=match Lib.atoiAll s.data.toList with
 | .ok v=>v
 | .range=>Lib.atoiSat s.data.toList
 | _=>0
def Rx (s:ByteArray):Bool:=match Lib.atoiAll s.data.toList with
 | .ok _=>true
 | _=>false
section
variable (w0:World) (B:Ao) (Rw:Av) (L:As)
theorem U3 (s c:ByteArray) (h:s.size≤4294967280∧c=stops) :
  ACalls Tryz.prog w0 235 [.val (.string s),.val (.string c)] ⟨B,Rw,L⟩ fun v s'=>v=Am (XA s)∧s'=⟨B,Rw,L⟩ :=
 JX (AZ Tryz.func235 rfl (by decide)) rfl fun M w b g a=>by
  obtain ⟨h,rfl⟩:=h
  have:=L9 (us:=[.string s,.string stops]) a
  subst this
  by_cases h8:s.size≤8
  ·exact ZbG Tryz.lays153 s w h8
  ·refine (Tryz.strings_IndexAny_long (zero_of_info (show (Tryz.prog.info? 286).map (fun i=>(i.zero,i.size))=some (some (.agg (Array.replicate 256 (.bool false))),256) by kernel_rfl)).1 s stops w (by decide) (by omega) (by omega) (by decide) Za5).mono fun e j ⟨f,d⟩=>⟨f,?_⟩
   rw [d]
   exact ((Below.refl _ _).alloc (Nat.le_refl _) _).alloc (by simp) _
theorem Um (s p:ByteArray) :
  ACalls Tryz.prog w0 236 [.val (.string s),.val (.string p)] ⟨B,Rw,L⟩ fun v s'=>v = .val (.bool (WZ s p))∧s'=⟨B,Rw,L⟩ :=
 JX (AZ Tryz.func236 rfl (by decide)) rfl fun M w b f a=>by
  have:=L9 (us:=[.string s,.string p]) a
  subst this
  exact (Tryz.strings_HasPrefix s p w).mono fun e g ⟨d,c⟩=>⟨d,c▸Below.refl _ _⟩
theorem Y4 (s p:ByteArray):(Oz s p).size≤s.size∧(Ze s p).size≤s.size:=by
 have e:s.data.toList.length=s.size:=by simp
 unfold Oz Ze Lib.cut
 split
 ·refine ⟨?_,?_⟩
  ·show ((s.data.toList.take _).toArray).size≤_
   rw [List.size_toArray,List.length_take];omega
  ·show ((s.data.toList.drop _).toArray).size≤_
   rw [List.size_toArray,List.length_drop];omega
 ·refine ⟨?_,?_⟩
  ·show (s.data.toList.toArray).size≤_
   rw [List.size_toArray];omega
  ·exact Nat.zero_le _
theorem Zdi (hM:Jh w0) (s p:ByteArray) (h:s.size≤4294967280) :
  ACalls Tryz.prog w0 237 [.val (.string s),.val (.string p)] ⟨B,Rw,L⟩ fun v s'=>v = .tup [.val (.string (Oz s p)),.val (.string (Ze s p)),.val (.bool (Zgk s p))]∧s'=⟨B,Rw,L⟩ :=
 Qw (rs:=[.string (Oz s p),.string (Ze s p),.bool (Zgk s p)]) (AZ Tryz.func237 rfl (by decide)) (by
  obtain ⟨j,f⟩:=Y4 s p
  have k:∀ x:ByteArray,x.size≤s.size→F2 (.string x)=true:=fun x q=>Ah (by unfold maxLen;omega)
  intro r b
  simp only [List.mem_cons,List.not_mem_nil,or_false] at b
  rcases b with rfl | rfl | rfl
  ·exact k _ j
  ·exact k _ f
  ·rfl) fun M w c d a=>by
  have:=L9 (us:=[.string s,.string p]) a
  subst this
  obtain ⟨m,i⟩:=hM
  exact (Tryz.strings_Cut s p m w (by omega) (KU i d)).mono fun e o ⟨l,n,g⟩=>⟨l,g▸(⟨rfl,rfl,rfl,Nat.le_refl _,fun _ _=>rfl⟩:Below w.heap.size w (w.drewN n))⟩
theorem ZbK (s:ByteArray):A6 (It s):=by
 unfold It A6
 cases h:Lib.atoiAll s.data.toList with
 | ok v=>have:=Lib.atoiAll_bounds h;simp only;omega
 | range=>have:=Lib.atoiSat_bounds s.data.toList;simp only;omega
 | _=>simp only;omega
theorem Zbs (hE:Jl w0) (s:ByteArray) (h:s.size≤4294967280) :
  ACalls Tryz.prog w0 238 [.val (.string s)] ⟨B,Rw,L⟩ fun v s'=>(∃ e,v = .tup [Am (It s),.val e]∧F9 e=Rx s∧PT e=true)∧s'=⟨B,Rw,L⟩:=by
 refine ⟨AZ Tryz.func238 rfl (by decide),fun M w j d g=>?_⟩
 have:=L9 (us:=[.string s]) g
 subst this
 obtain ⟨⟨n,r,u⟩,x,m,o⟩:=hE
 have fin:∀ (e:Value),F9 e=Rx s→PT e=true→F2 e=true→∀ c,Below w.heap.size w c→Comes' w0 M w (fun v s'=>(∃ e,v = .tup [Am (It s),.val e]∧F9 e=Rx s∧PT e=true)∧s'=⟨B,Rw,L⟩) (.returned (.tuple #[.int .i64 (It s),e])) c:=by
  intro e q1 q2 q3 c f
  obtain ⟨k,q⟩:=d.later f w.heap.size 0 (Nat.le_refl _) (.inr rfl)
  refine ⟨_,_,.tup [Am (It s),.val e],_,rfl,⟨⟨e,rfl,q1,q2⟩,rfl⟩,q,k,.tup rfl fun i a b=>?_⟩
  have l:i=0∨i=1:=by simp at a;omega
  rcases l with rfl | rfl
  ·exact .flat rfl
  ·exact .flat q3
 cases hc:Lib.atoiAll s.data.toList with
 | ok v =>
  refine (Any.strconv_Atoi_ok Tryz.laysAtoi s (by omega) v hc w).mono ?_
  rintro en c ⟨rfl,p⟩
  have hv:It s=v:=by unfold It;rw [hc]
  rw [←hv]
  refine fin .nilIface (by unfold Rx;rw [hc];rfl) rfl rfl c ?_
  rcases p with rfl | ⟨t,rfl⟩
  ·exact .refl _ _
  ·exact Lib.bytesWorld_below _ _ _
 | range =>
  refine (Any.strconv_Atoi_range Tryz.laysAtoi s (by omega) hc x w (KU m d.below) o).mono ?_
  rintro en c ⟨N,rfl,_,_,f⟩
  have hv:It s=Lib.atoiSat s.data.toList:=by unfold It;rw [hc]
  rw [←hv]
  exact fin _ (by unfold Rx;rw [hc];rfl) rfl rfl c f
 | _ =>
  refine (Any.strconv_Atoi_syntax Tryz.laysAtoi s (by omega) hc n w (KU r d.below) u).mono ?_
  rintro en c ⟨N,rfl,_,_,f⟩
  have hv:It s=0:=by unfold It;rw [hc]
  rw [←hv]
  exact fin _ (by unfold Rx;rw [hc];rfl) rfl rfl c f
end
@[go_sem] theorem Zfs:We Tryz.prog 248=true:=by kernel_rfl
def Kv (g:Int) (b:ByteArray):Option Int :=
 if 0≤g∧g≤(b.size:Int)∧(b.size:Int)≤(b.size:Int) then
  if (b.extract g.toNat b.size).size≤4294967280∧(⟨#[46,91,63]⟩:ByteArray)=stops then
   if decide ((XA (b.extract g.toNat b.size))<0) then
    some (b.size:Int)
   else
    if A6 (g+(XA (b.extract g.toNat b.size))) then
     some (g+(XA (b.extract g.toNat b.size)))
    else none
  else none
 else none
theorem Yl (w0:World) (B:Ao) (Rw:Av) (L:As) (a0:Int) (la1:Nat) (a1:ByteArray) (hla1:B[la1]? = some ([.val (.string a1)])) (r:Int) (h:Kv a0 a1=some r) :
  ACalls Tryz.prog w0 234 [Am a0,.box la1 0] ⟨B,Rw,L⟩ fun x st=>x=Am r∧st=⟨B,Rw,L⟩:=by
 rw [Kv] at h
 refine hd [.tmp 3] Tryz.func234 Tryz.ntmps234 fun M0 W0 g d e b i f hs=>?_
 simp only [AA]
 have c:=(Ak.1 hla1).1
 have hs:=Ae (Ar hla1) hs
 exact go (tg (a:=([0,1],[0,1,4],[0,1,4,10],([3],()),[0,4],[3],()))) h hs g d e b f (q1 (U3 w0)) trivial
def NG (b:ByteArray):Option (Part × ByteArray × Bool) :=
 (Kv 1 b).bind fun g =>
 if WZ b ((⟨#[91,42,93]⟩:ByteArray)) then
  if 0≤3∧3≤(b.size:Int)∧(b.size:Int)≤(b.size:Int) then
   some ((Part.mk 3 0 (⟨#[]⟩:ByteArray),b.extract 3 b.size,true))
  else none
 else
  if 0≤0∧0<(b.size:Int) then
   if decide ((((b.get! 0).toNat:Int))=46) then
    if 0≤1∧1≤g∧g≤(b.size:Int) then
     if 0≤g∧g≤(b.size:Int)∧(b.size:Int)≤(b.size:Int) then
      some ((Part.mk 1 0 (b.extract 1 g.toNat),b.extract g.toNat b.size,true))
     else none
    else none
   else
    if 0≤0∧0<(b.size:Int) then
     if decide ((((b.get! 0).toNat:Int))=63) then
      if 0≤1∧1≤g∧g≤(b.size:Int) then
       if 0≤g∧g≤(b.size:Int)∧(b.size:Int)≤(b.size:Int) then
        some ((Part.mk 4 0 (b.extract 1 g.toNat),b.extract g.toNat b.size,true))
       else none
      else none
     else
      if 0≤1∧1≤(b.size:Int)∧(b.size:Int)≤(b.size:Int) then
       if (b.extract 1 b.size).size≤4294967280 then
        if (Oz (b.extract 1 b.size) ((⟨#[93]⟩:ByteArray))).size≤4294967280 then
         if 0≤0∧0<(b.size:Int) then
          if ((decide ((((b.get! 0).toNat:Int))=91))&&(Zgk (b.extract 1 b.size) ((⟨#[93]⟩:ByteArray))))&&(Rx (Oz (b.extract 1 b.size) ((⟨#[93]⟩:ByteArray)))) then
           if A6 (It (Oz (b.extract 1 b.size) ((⟨#[93]⟩:ByteArray)))) then
            some ((Part.mk 2 (It (Oz (b.extract 1 b.size) ((⟨#[93]⟩:ByteArray)))) (⟨#[]⟩:ByteArray),Ze (b.extract 1 b.size) ((⟨#[93]⟩:ByteArray)),Gn ((⟨(Lib.itoa (It (Oz (b.extract 1 b.size) ((⟨#[93]⟩:ByteArray))))).toArray⟩:ByteArray)) (Oz (b.extract 1 b.size) ((⟨#[93]⟩:ByteArray)))))
           else none
          else
           some ((Part.mk 2 (It (Oz (b.extract 1 b.size) ((⟨#[93]⟩:ByteArray)))) (⟨#[]⟩:ByteArray),Ze (b.extract 1 b.size) ((⟨#[93]⟩:ByteArray)),false))
         else none
        else none
       else none
      else none
    else none
  else none
theorem Za8 (w0:World) (hE:Jl w0) (hM:Jh w0) (hP:Pow10 w0) (B:Ao) (Rw:Av) (L:As) (a0:ByteArray) (r:Part × ByteArray × Bool) (h:NG a0=some r) :
  ACalls Tryz.prog w0 156 [.val (.string a0)] ⟨B,Rw,L⟩ fun x st=>x = .tup [.agg (Am r.1.kind::(Am r.1.index::([.val (.string r.1.name)]))),.val (.string r.2.1),.val (.bool r.2.2)]∧st=⟨B,Rw,L⟩:=by
 rw [NG] at h
 refine hd [.cell 2 146,.tmp 3,.tmp 4] Tryz.func156 Tryz.ntmps156 fun M0 W0 O N J e Q m hs=>?_
 simp only [AA]
 refine rg [1,2] hs ?_
 refine rg [1,2,5] hs ?_
 obtain ⟨U,w,h⟩:=bind_some h
 refine rc 2 [1,2,6] hs ?_;intro K3 v
 refine Aw _ (Yl w0 _ _ _ 1 B.length a0 ev _ w) (hv hs) ?_
 refine ne hs v ?_
 clear v
 apply An;intro K5 n
 apply Aq
 refine rc 2 [1,2,6,15] hs ?_;intro K6 t
 refine Aw _ (Um w0 _ _ _ a0 ((⟨#[91,42,93]⟩:ByteArray))) (hv hs) ?_
 refine ne hs t ?_
 clear t
 refine BQ h hs ?_ ?_<;>intro hs h
 ·have d:=hs.1
  apply An;intro K8 p
  obtain ⟨K,h⟩:=Au h
  apply J2 PH [3] [2,3,4] kr (fun s=>∃ (X:Ao) (rows:Av) (i:List AV),s=⟨B++([[.val (.string a0)],i]++X),rows,L⟩) 2 (B.length+2)
  ·simp +decide only [go_sem,Nat.reduceAdd]
  ·rintro s ⟨X,rows,i,rfl⟩
   refine ⟨1,?_⟩
   rw [Ap];simp +decide only [go_sem,Nat.reduceAdd,Dk,d]
   (repeat' apply Ae)<;>first | rfl | exact cl
  ·exact gd (tg (a:=(3,[2,3,4]))) hs
  simp +decide only [go_sem,Nat.reduceAdd,d]
  (repeat' apply Ae)<;>first | refine p _ _ ?_ | exact cl
  clear p
  exact rt h hs e m
 have d:=hs.1
 obtain ⟨D,h⟩:=Au h
 refine rg [1,2,6,21] hs ?_
 refine BQ h hs ?_ ?_<;>intro hs h
 ·have b:=hs.1
  apply An;intro K13 g
  obtain ⟨F,h⟩:=Au h
  obtain ⟨E,h⟩:=Au h
  apply J2 PH [7] [2,3,4] kr (fun s=>∃ (X:Ao) (rows:Av) (i:List AV),s=⟨B++([[.val (.string a0)],i]++X),rows,L⟩) 2 (B.length+2)
  ·simp +decide only [go_sem,Nat.reduceAdd]
  ·rintro s ⟨X,rows,i,rfl⟩
   refine ⟨1,?_⟩
   rw [Ap];simp +decide only [go_sem,Nat.reduceAdd,Dk,d,b]
   (repeat' apply Ae)<;>first | rfl | exact cl
  ·exact gd (tg (a:=(7,[2,3,4]))) hs
  simp +decide only [go_sem,Nat.reduceAdd,d,b]
  (repeat' apply Ae)<;>first | refine g _ _ ?_ | exact cl
  clear g
  exact rt h hs e m
 have b:=hs.1
 obtain ⟨G,h⟩:=Au h
 refine rg [1,2,6,32] hs ?_
 refine BQ h hs ?_ ?_<;>intro hs h
 ·have c:=hs.1
  apply An;intro K19 l
  obtain ⟨C,h⟩:=Au h
  obtain ⟨y,h⟩:=Au h
  apply J2 PH [7] [2,3,4] kr (fun s=>∃ (X:Ao) (rows:Av) (i:List AV),s=⟨B++([[.val (.string a0)],i]++X),rows,L⟩) 2 (B.length+2)
  ·simp +decide only [go_sem,Nat.reduceAdd]
  ·rintro s ⟨X,rows,i,rfl⟩
   refine ⟨1,?_⟩
   rw [Ap];simp +decide only [go_sem,Nat.reduceAdd,Dk,d,b,c]
   (repeat' apply Ae)<;>first | rfl | exact cl
  ·exact gd (tg (a:=(7,[2,3,4]))) hs
  simp +decide only [go_sem,Nat.reduceAdd,d,b,c]
  (repeat' apply Ae)<;>first | refine l _ _ ?_ | exact cl
  clear l
  exact rt h hs e m
 have c:=hs.1
 refine sk [1,2] hs n ?_
 clear n
 obtain ⟨H,h⟩:=Au h
 obtain ⟨q,h⟩:=Au h
 refine rc 2 [1,2,7,8,9] hs ?_;intro K22 j
 refine Aw _ (Zdi w0 _ _ _ hM (a0.extract 1 a0.size) ((⟨#[93]⟩:ByteArray)) q) (hv hs) ?_
 refine ne hs j ?_
 clear j
 apply An;intro K25 k
 obtain ⟨u,h⟩:=Au h
 apply Ax 2 [1,2,7,8,9,10,11]
 rw [Ap];simp +decide only [go_sem,Nat.reduceAdd,d,b,c,and_false,if_false]
 (repeat' apply Ae)<;>first | (refine ET _ (Zbs w0 _ _ _ hE (Oz (a0.extract 1 a0.size) ((⟨#[93]⟩:ByteArray))) u) (by first | rfl | (simp +decide only [go_sem,Nat.reduceAdd,d,b,c,and_false,if_false];done) | (simp +decide only [go_sem,Nat.reduceAdd,Vl.cs,Ty.cs,d,b,c,and_false,if_false];done)) ?_;rintro _ _ ⟨⟨Ev27,rfl,Hn27,Hi27⟩,rfl⟩) | exact cl
 rw [Ap];simp +decide only [go_sem,Nat.reduceAdd,d,b,c,Hn27,Hi27,and_false,if_false]
 (repeat' apply Ae)<;>first | refine k _ _ ?_ | exact cl
 clear k
 apply An;intro K28 f
 obtain ⟨z,h⟩:=Au h
 rcases Bool.eq_false_or_eq_true (((decide ((((a0.get! 0).toNat:Int))=91))&&(Zgk (a0.extract 1 a0.size) ((⟨#[93]⟩:ByteArray))))&&(Rx (Oz (a0.extract 1 a0.size) ((⟨#[93]⟩:ByteArray))))) with hf30 | hf30
 ·replace h:=A7 h hf30
  obtain ⟨o,h⟩:=Au h
  apply Ax 2 [2,3,4]
  rw [Ap];simp +decide only [go_sem,Nat.reduceAdd,d,b,c,Hn27,Hi27,and_false,if_false,hf30]
  (repeat' apply Ae)<;>first | refine Aw _ (YS w0 _ _ _ hP (It (Oz (a0.extract 1 a0.size) ((⟨#[93]⟩:ByteArray)))) o) (by first | rfl | (simp +decide only [go_sem,Nat.reduceAdd,d,b,c,Hn27,Hi27,and_false,if_false,hf30];done) | (simp +decide only [go_sem,Nat.reduceAdd,Vl.cs,Ty.cs,d,b,c,Hn27,Hi27,and_false,if_false,hf30];done)) ?_ | exact cl
  rw [Ap];simp +decide only [go_sem,Nat.reduceAdd,d,b,c,Hn27,Hi27,and_false,if_false,hf30]
  (repeat' apply Ae)<;>first | refine f _ _ ?_ | exact cl
  clear f
  apply A1;simp +decide only [go_sem,Nat.reduceAdd,d,b,c,Hn27,Hi27,and_false,if_false,hf30]
  have hgt:=Option.some.inj h;subst hgt
  first | refine C5 e rfl m.pre ev ⟨?_,rfl⟩ | refine EP e rfl m.pre ev ⟨?_,rfl⟩
  first | rfl | (simp +decide only [go_sem,Nat.reduceAdd,d,b,c,Hn27,Hi27,and_false,if_false,hf30];done) | (simp +decide only [go_sem,Nat.reduceAdd,Vl.cs,Ty.cs,d,b,c,Hn27,Hi27,and_false,if_false,hf30];done)
 ·replace h:=A8 h hf30
  apply Ax 2 [2,3,4]
  rw [Ap];simp +decide only [go_sem,Nat.reduceAdd,d,b,c,Hn27,Hi27,and_false,if_false,hf30]
  (repeat' apply Ae)<;>first | refine Hz ?_ | exact cl
  rw [Ap];simp +decide only [go_sem,Nat.reduceAdd,d,b,c,Hn27,Hi27,and_false,if_false,hf30]
  (repeat' apply Ae)<;>first | refine f _ _ ?_ | exact cl
  clear f
  apply A1;simp +decide only [go_sem,Nat.reduceAdd,d,b,c,Hn27,Hi27,and_false,if_false,hf30]
  have hgt:=Option.some.inj h;subst hgt
  first | refine C5 e rfl m.pre ev ⟨?_,rfl⟩ | refine EP e rfl m.pre ev ⟨?_,rfl⟩
  first | rfl | (simp +decide only [go_sem,Nat.reduceAdd,d,b,c,Hn27,Hi27,and_false,if_false,hf30];done) | (simp +decide only [go_sem,Nat.reduceAdd,Vl.cs,Ty.cs,d,b,c,Hn27,Hi27,and_false,if_false,hf30];done)
def Lj (n:Nat)  (b:List Part):Option ((List Part) × Int) :=
 if decide (16<(b.length:Int)) then
  some (([],9))
 else
  some ((b,0))
def HM (n:Nat)  : Nat→(List Part)→ByteArray→Option ((List Part) × Int)
 | 0,_,_=>none
 | m+1,b,g =>
  if !(Gn g (⟨#[]⟩:ByteArray)) then
   (NG g).bind fun h =>
   if !h.2.2 then
    some (([],13))
   else
    (ES h.1).bind fun q =>
    if !q then
     some (([],13))
    else
     if (b.length+1)*32≤140737488355328∧b.length+1≤4611686018427387904 then
      (HM n m) (b++([h.1])) h.2.1
     else none
  else
   Lj n b
def Do (n:Nat) (b:ByteArray):Option ((List Part) × Int) :=
 if Gn b (⟨#[]⟩:ByteArray) then
  some (([],4))
 else
  if decide (200<(b.size:Int)) then
   some (([],5))
  else
   if ((⟨#[46]⟩:ByteArray)).size+b.size≤9223372036854775807 then
    HM n n ([]) (((⟨#[46]⟩:ByteArray))++b)
   else none
theorem Gx (w0:World) (hE:Jl w0) (hM:Jh w0) (hP:Pow10 w0) (n:Nat) (B:Ao) (Rw:Av) (L:As) (a0:ByteArray) (r:(List Part) × Int) (h:Do n a0=some r) :
  ACalls Tryz.prog w0 66 [.val (.string a0)] ⟨B,Rw,L⟩ fun x st=>x = .tup [.list (r.1.map AK) .none,Am r.2]∧st=⟨B,Rw,L⟩:=by
 rw [Do] at h
 refine hd [.tmp 2,.tmp 3] Tryz.func66 Tryz.ntmps66 fun M0 W0 y p l g D j hs=>?_
 simp only [AA]
 refine rg [0] hs ?_
 apply An;intro K2 u
 apply Aq
 refine rg [0,9] hs ?_
 refine BQ h hs ?_ ?_<;>intro hs h
 ·refine rg [2,3] hs ?_
  exact rt h hs g j
 refine rg [0,12] hs ?_
 refine BQ h hs ?_ ?_<;>intro hs h
 ·refine rg [2,3] hs ?_
  exact rt h hs g j
 refine sk [0] hs u ?_
 clear u
 refine rg [0,4] hs ?_
 refine AB (fun e st=>∃ (f:List Part) (i:Ev.Own),Ck e st B Rw L [(4,true,.list (f.map AK) i)] [] [(3,f.length,i)] (Lj n f=some r)) ?_ ?_
 ·intro K12 t
  obtain ⟨w,h⟩:=Au h
  have o:=w
  try simp +decide only [go_sem] at o
  refine rg [4,5] hs ?_
  apply Aq
  refine AC (fun m e st=>∃ (b:List Part) (d:ByteArray) (c:Ev.Own),Ck e st B Rw L [(4,true,.list (b.map AK) c),(5,true,.val (.string d))] [] [(3,b.length,c)] (HM n m b d=some r)) n ⟨([]),(((⟨#[46]⟩:ByteArray))++a0),.full,([]),Rw,ef hs,ef hs,Owns.of_eq ((j).full 3 0) D6,h⟩ ?_
  rintro ml15 e st ⟨b,d,c,Xl15,Rl15,rfl,rfl,j,h⟩ Ul15 Vl15
  cases ml15 with
  | zero=>cases h
  | succ ml15 =>
  rw [HM] at h
  have z:=j.unders
  simp only [List.mem_cons,List.not_mem_nil,or_false,forall_eq_or_imp,forall_eq] at z
  refine td y p l g j ?_
  apply An;intro K16 k
  refine rg [4,5,19] hs ?_
  refine BQ h hs ?_ ?_<;>intro hs h
  rotate_left
  ·refine sx [4] hs t ?_
   exact ⟨b,c,([]),Rl15,ef hs,ef hs,Owns.of_eq (j) D6,h⟩
  refine sk [4,5] hs k ?_
  clear k
  apply Aq
  obtain ⟨C,q,h⟩:=bind_some h
  refine rc 2 [4,6,7,8] hs ?_;intro K19 v
  refine Aw _ (Za8 w0 hE hM hP _ _ _ d _ q) (hv hs) ?_
  exact go (tg (a:=(([4,6,7,32],[2,3],()),[4,6,7,32],([2,3],()),[4,6,7],[4,5],()))) h hs y p l g j (q2 (Nc w0) (ae Zat Vw)) (q2 v (fun e s=>Vl15 ml15 e s (Nat.lt_succ_self _)))
 ·clear h;rintro e st ⟨f,i,Xk11,Rk11,rfl,rfl,j,h⟩
  rw [Lj] at h
  exact go (tg (a:=([4,40],([2,3],()),[4],[2,3],()))) h hs y p l g j trivial trivial
theorem Re (c:List UInt8):∀ l:List UInt8,Lib.indexAny l c<(l.length:Int)
 | []=>by show (-1:Int)<0;decide
 | b::l=>by
  have ih:=Re c l
  rw [Lib.indexAny,List.length_cons]
  split
  ·omega
  ·split<;>omega
theorem Y2 (s:ByteArray):s.data.toList.length=s.size:=by simp
theorem Zjq (s:ByteArray) (h1:1≤s.size) (h2:s.size≤300):∃ y:Nat,Kv 1 s=some (y:Int)∧1≤y∧y≤s.size:=by
 have e:((1:Int).toNat)=1:=rfl
 have b:(s.extract 1 s.size).size=s.size-1:=by rw [ByteArray.size_extract];omega
 have d:=Lib.indexAny_ge [46,91,63] (s.extract 1 s.size).data.toList
 have a:=Re [46,91,63] (s.extract 1 s.size).data.toList
 rw [Y2,b] at a
 rw [Kv,Ai ⟨by decide,by omega,by omega⟩,e,Ai ⟨by rw [b];omega,rfl⟩]
 have d : -1≤XA (s.extract 1 s.size):=d
 have a:XA (s.extract 1 s.size)<((s.size-1:Nat):Int):=a
 by_cases c:XA (s.extract 1 s.size)<0
 ·rw [Ai (Ah c)]
  exact ⟨s.size,rfl,h1,Nat.le_refl _⟩
 ·rw [Aj (by rw [decide_eq_true_eq];exact c),Ai (by unfold A6;omega)]
  exact ⟨(1+XA (s.extract 1 s.size)).toNat,congrArg some (by omega),by omega,by omega⟩
theorem Zda {s:ByteArray} (h:WZ s ⟨#[91,42,93]⟩=true):3≤s.size:=by
 have h:[91,42,93].isPrefixOf s.data.toList=true:=h
 have:=(List.isPrefixOf_iff_prefix.1 h).length_le
 rw [Y2] at this
 exact this
theorem Zfp (s:ByteArray) (h1:1≤s.size) (h2:s.size≤300):∃ (p:Part) (r:ByteArray) (b:Bool),NG s=some (p,r,b)∧r.size<s.size∧p.wf:=by
 obtain ⟨y,e,n,q⟩:=Zjq s h1 h2
 have g:∀ x:ByteArray,x.size≤300→x.size≤maxLen:=fun x h=>Nat.le_trans h (by decide)
 have c:A6 0:=by decide
 have l:A6 1:=by decide
 have k:A6 2:=by decide
 have i:A6 3:=by decide
 have j:A6 4:=by decide
 have a:(⟨#[]⟩:ByteArray).size≤maxLen:=by decide
 have f:(y:Int).toNat=y:=rfl
 rw [NG,e,Af]
 by_cases c1:WZ s ⟨#[91,42,93]⟩=true
 ·have:=Zda c1
  rw [Ai c1,Ai ⟨by decide,by omega,by omega⟩]
  exact ⟨_,_,_,rfl,by rw [ByteArray.size_extract];omega,i,c,a⟩
 rw [Aj c1,Ai ⟨by decide,by omega⟩]
 by_cases c2:decide (((s.get! 0).toNat:Int)=46)=true
 ·rw [Ai c2,Ai ⟨by decide,by omega,by omega⟩,Ai ⟨by omega,by omega,by omega⟩,f]
  exact ⟨_,_,_,rfl,by rw [ByteArray.size_extract];omega,l,c,g _ (by simp only;rw [ByteArray.size_extract];omega)⟩
 rw [Aj c2,Ai ⟨by decide,by omega⟩]
 by_cases c3:decide (((s.get! 0).toNat:Int)=63)=true
 ·rw [Ai c3,Ai ⟨by decide,by omega,by omega⟩,Ai ⟨by omega,by omega,by omega⟩,f]
  exact ⟨_,_,_,rfl,by rw [ByteArray.size_extract];omega,j,c,g _ (by simp only;rw [ByteArray.size_extract];omega)⟩
 have t:(s.extract 1 s.size).size=s.size-1:=by rw [ByteArray.size_extract];omega
 obtain ⟨o,m⟩:=Y4 (s.extract 1 s.size) ⟨#[93]⟩
 have d:=ZbK (Oz (s.extract 1 s.size) ⟨#[93]⟩)
 rw [Aj c3,Ai ⟨by decide,by omega,by omega⟩,Ab,Ab,Ai ⟨by decide,by omega⟩,Ai d]
 have fin:∀ b:Bool,∃ (p:Part) (r:ByteArray) (b':Bool),some (Part.mk 2 (It (Oz (s.extract 1 s.size) ⟨#[93]⟩)) ⟨#[]⟩,Ze (s.extract 1 s.size) ⟨#[93]⟩,b)=some (p,r,b')∧r.size<s.size∧p.wf:=fun b =>
  ⟨_,_,_,rfl,by omega,k,d,a⟩
 split
 ·exact fin _
 ·exact fin _
def Wl (l:List Part):Prop:=l.length≤16∧∀ p∈l,p.wf∧pOk p=true
theorem Vj (n:Nat):∀ (m:Nat) (l:List Part) (s:ByteArray),s.size<m→l.length+s.size≤300→(∀ p∈l,p.wf∧pOk p=true)→∃ r:List Part × Int,HM n m l s=some r∧Wl r.1
 | 0,l,s,h,_,_=>absurd h (Nat.not_lt_zero _)
 | m+1,l,s,hm,hs,hp=>by
  rw [HM,Zaj]
  by_cases c:s.size=0
  ·rw [Ah c,Aj (by decide),Lj]
   by_cases d:16<(l.length:Int)
   ·rw [Ai (Ah d)]
    exact ⟨_,rfl,by simp,by simp⟩
   ·rw [Aj (by rw [decide_eq_true_eq];exact d)]
    exact ⟨_,rfl,by simp only;omega,hp⟩
  ·obtain ⟨p,r,b,e,f,a⟩:=Zfp s (by omega) (by omega)
   rw [Ag c,Ai (by rfl),e,Af]
   cases b with
   | false=>exact ⟨_,rfl,by simp,by simp⟩
   | true =>
    rw [Aj (show ¬ (!true)=true by decide),Vb p a,Af]
    cases hv:pOk p with
    | false=>exact ⟨_,rfl,by simp,by simp⟩
    | true =>
     rw [Aj (show ¬ (!true)=true by decide),Ab]
     exact Vj n m (l++[p]) r (by omega) (by rw [List.length_append,List.length_singleton];omega) (fun q hq=>by
      rcases List.mem_append.1 hq with hq | hq
      ·exact hp q hq
      ·rw [List.mem_singleton.1 hq];exact ⟨a,hv⟩)
theorem Zdr (n:Nat) (hn:302≤n) (s:ByteArray):∃ r:List Part × Int,Do n s=some r∧Wl r.1:=by
 rw [Do]
 by_cases c:Gn s ⟨#[]⟩=true
 ·rw [Ai c];exact ⟨_,rfl,by simp,by simp⟩
 rw [Aj c]
 by_cases d:200<(s.size:Int)
 ·rw [Ai (Ah d)];exact ⟨_,rfl,by simp,by simp⟩
 have z:(⟨#[46]⟩:ByteArray).size=1:=rfl
 rw [Aj (by rw [decide_eq_true_eq];exact d),Ai (by rw [z];omega)]
 exact Vj n n [] _ (by rw [ByteArray.size_append,z];omega) (by rw [ByteArray.size_append,z,List.length_nil];omega) (by simp)
def XW (n:Nat) (s:ByteArray):List Part × Int:=(Do n s).getD ([],4)
theorem SZ (n:Nat) (hn:302≤n) (s:ByteArray):Do n s=some (XW n s)∧Wl (XW n s).1:=by
 obtain ⟨r,e,h⟩:=Zdr n hn s
 rw [XW,e]
 exact ⟨rfl,h⟩
def DL (b:Part):Bool :=
 !(decide (b.kind=1))
theorem PS (w0:World) (B:Ao) (Rw:Av) (L:As) (a0:Part) (r:Bool) (h:DL a0=r) :
  ACalls Tryz.prog w0 153 [.agg (Am a0.kind::(Am a0.index::([.val (.string a0.name)])))] ⟨B,Rw,L⟩ fun x st=>x = .val (.bool r)∧st=⟨B,Rw,L⟩:=by
 rw [DL] at h
 refine hd [.tmp 2] Tryz.func153 Tryz.ntmps153 fun M0 W0 e b c a f d hs=>?_
 simp only [AA]
 refine rg [1] hs ?_
 refine rg [2] hs ?_
 exact rT h hs a d
theorem Pi (w0:World) (B:Ao) (Rw:Av) (L:As) (a0:Part) :
  ACalls Tryz.prog w0 153 [.agg (Am a0.kind::(Am a0.index::([.val (.string a0.name)])))] ⟨B,Rw,L⟩ fun x st=>x = .val (.bool (DL a0))∧st=⟨B,Rw,L⟩:=PS w0 B Rw L a0 _ rfl
def GL (n:Nat)  : Option Bool :=
 some (true)
def Ci (n:Nat) (q:List Part) (y:List Part):Nat→Int→Option Bool
 | 0,_=>none
 | m+1,b =>
  if decide (b<(q.length:Int)) then
   (Cb q b).bind fun g =>
   (Cb y b).bind fun h =>
   if !(decide (g.kind=h.kind)&&(decide (g.index=h.index)&&(Gn g.name h.name))) then
    some (false)
   else
    if A6 (b+1) then
     (Ci n q y m) (b+1)
    else none
  else
   GL n 
def Eg (n:Nat) (b:List Part) (g:List Part):Option Bool :=
 if !(decide ((b.length:Int)=(g.length:Int))) then
  some (false)
 else
  Ci n b g n 0
theorem LO (w0:World) (n:Nat) (B:Ao) (Rw:Av) (L:As) (a0:List Part) (a1:List Part) (r:Bool) (h:Eg n a0 a1=some r) :
  ACalls Tryz.prog w0 175 [.list (a0.map AK) .none,.list (a1.map AK) .none] ⟨B,Rw,L⟩ fun x st=>x = .val (.bool r)∧st=⟨B,Rw,L⟩:=by
 rw [Eg] at h
 refine hd [.tmp 4] Tryz.func175 Tryz.ntmps175 fun M0 W0 k f g c l d hs=>?_
 simp only [AA]
 refine rg [0,1] hs ?_
 apply An;intro K2 i
 refine rg [0,1,10] hs ?_
 refine BQ h hs ?_ ?_<;>intro hs h
 ·refine rg [4] hs ?_
  exact rt h hs c d
 refine sk [0,1] hs i ?_
 clear i
 refine AB (fun e st=>Ck e st B Rw L [] [] [] (GL n  = some r)) ?_ ?_
 ·intro K8 j
  refine rg [0,1,12,13] hs ?_
  apply Aq
  refine AC (fun m e st=>∃ (b:Int),Ck e st B Rw L [(0,true,.list (a0.map AK) .none),(1,true,.list (a1.map AK) .none),(12,true,Am (a0.length:Int)),(13,true,Am b)] [] [] (Ci n a0 a1 m b=some r)) n ⟨0,([]),Rw,ef hs,ef hs,d,h⟩ ?_
  rintro ml10 e st ⟨b,Xl10,Rl10,rfl,rfl,d,h⟩ Ul10 Vl10
  cases ml10 with
  | zero=>cases h
  | succ ml10 =>
  rw [Ci] at h
  exact go (tg (a:=([0,1,12,13,14],([0,1,12,13],[0,1,5,12,13],[9,0,1,12,13,24],([4],()),[0,1,12,13],[0,1,12,13],()),[],()))) h hs k f g c d trivial (q2 j (fun e s=>Vl10 ml10 e s (Nat.lt_succ_self _)))
 ·clear h;rintro e st ⟨Xk7,Rk7,rfl,rfl,d,h⟩
  rw [GL] at h
  refine td k f g c d ?_
  refine rg [4] hs ?_
  exact rt h hs c d
def DJ (n:Nat) (g:List Part) (b:List Part):Option Bool :=
 if decide ((b.length:Int)≤(g.length:Int)) then
  if 0≤0∧0≤(b.length:Int)∧(b.length:Int)≤(g.length:Int) then
   (Eg n (g.take b.length) b).bind fun h =>
   some (h)
  else none
 else
  some (false)
theorem P2 (w0:World) (n:Nat) (B:Ao) (Rw:Av) (L:As) (a0:List Part) (a1:List Part) (r:Bool) (h:DJ n a0 a1=some r) :
  ACalls Tryz.prog w0 155 [.list (a0.map AK) .none,.list (a1.map AK) .none] ⟨B,Rw,L⟩ fun x st=>x = .val (.bool r)∧st=⟨B,Rw,L⟩:=by
 rw [DJ] at h
 refine hd [.tmp 4] Tryz.func155 Tryz.ntmps155 fun M0 W0 f c d b g e hs=>?_
 simp only [AA]
 exact go (tg (a:=([0,1],([4],()),[4],()))) h hs f c d b e (q1 (LO w0 n)) trivial
def EW (n:Nat) (b:List Part) (g:List Part):Option Bool :=
 (DJ n g b).bind fun q =>
 if q then
  some (true)
 else
  (DJ n b g).bind fun h =>
  some (h)
theorem PW (w0:World) (n:Nat) (B:Ao) (Rw:Av) (L:As) (a0:List Part) (la1:Nat) (a1:List Part) (hla1:B[la1]? = some ([.list (a1.map AK) .none])) (r:Bool) (h:EW n a0 a1=some r) :
  ACalls Tryz.prog w0 154 [.list (a0.map AK) .none,.box la1 0] ⟨B,Rw,L⟩ fun x st=>x = .val (.bool r)∧st=⟨B,Rw,L⟩:=by
 rw [EW] at h
 refine hd [.tmp 3] Tryz.func154 Tryz.ntmps154 fun M0 W0 g d e b i f hs=>?_
 simp only [AA]
 have c:=(Ak.1 hla1).1
 have hs:=Ae (Ar hla1) hs
 exact go (tg (a:=([0,1],([3],()),[3],()))) h hs g d e b f (q1 (P2 w0 n)) trivial
def Gs (n:Nat)  : Option Int :=
 some ((-1))
def BF (n:Nat) (q:List Part) (y:Part→Option Bool):Nat→Int→Option Int
 | 0,_=>none
 | m+1,b =>
  if decide (b<(q.length:Int)) then
   (Cb q b).bind fun g =>
   (y g).bind fun h =>
   if h then
    some (b)
   else
    if A6 (b+1) then
     (BF n q y m) (b+1)
    else none
  else
   Gs n 
def EL (n:Nat) (b:List Part) (g:Part→Option Bool):Option Int :=
 BF n b g n 0
theorem NM (w0:World) (n:Nat) (B:Ao) (Rw:Av) (L:As) (a0:List Part) (fa1:FuncId) (ca1:List AV) (a1:Part→Option Bool) (ha1:∀ (x0:Part) r,a1 x0=some r→∀ B' rows,B <+: B'→Rw <+: rows→ACalls Tryz.prog w0 fa1 ([.agg (Am x0.kind::(Am x0.index::([.val (.string x0.name)])))]++ca1) ⟨B',rows,L⟩ fun v s=>v = .val (.bool r)∧s=⟨B',rows,L⟩) (r:Int) (h:EL n a0 a1=some r) :
  ACalls Tryz.prog w0 231 [.list (a0.map AK) .none,.clo fa1 ca1] ⟨B,Rw,L⟩ fun x st=>x=Am r∧st=⟨B,Rw,L⟩:=by
 rw [EL] at h
 refine hd [.tmp 4] Tryz.func231 Tryz.ntmps231 fun M0 W0 k g i c l f hs=>?_
 simp only [AA]
 have b:=B6 (l (.clo fa1 ca1) (by simp))
 refine rg [0,1] hs ?_
 refine AB (fun e st=>Ck e st B Rw L [] [] [] (Gs n  = some r)) ?_ ?_
 ·intro K4 j
  refine rg [0,1,7,8] hs ?_
  apply Aq
  refine AC (fun m e st=>∃ (d:Int),Ck e st B Rw L [(0,true,.list (a0.map AK) .none),(1,true,.clo fa1 ca1),(7,true,Am (a0.length:Int)),(8,true,Am d)] [] [] (BF n a0 a1 m d=some r)) n ⟨0,([]),Rw,ef hs,ef hs,f,h⟩ ?_
  rintro ml6 e st ⟨d,Xl6,Rl6,rfl,rfl,f,h⟩ Ul6 Vl6
  cases ml6 with
  | zero=>cases h
  | succ ml6 =>
  rw [BF] at h
  refine A9 k g i rfl c f (OJ b f) (OJ b f) ?_
  exact go (tg (a:=([0,1,7,8,9],([0,1,7,8],[0,1,5,7,8],[0,1,5,7,8,16],([4],()),[0,1,7,8],[0,1,7,8],()),[],()))) h hs k g i c f (q1 ha1) (q2 j (fun e s=>Vl6 ml6 e s (Nat.lt_succ_self _)))
 ·clear h;rintro e st ⟨Xk3,Rk3,rfl,rfl,f,h⟩
  rw [Gs] at h
  refine A9 k g i rfl c f (OJ b f) (OJ b f) ?_
  refine rg [4] hs ?_
  exact rt h hs c f
def A3 (n:Nat) (b:List Part) (h:Part→Option Bool):Option Bool :=
 (EL n b h).bind fun g =>
 some (decide (0≤g))
theorem Dv (w0:World) (n:Nat) (B:Ao) (Rw:Av) (L:As) (a0:List Part) (fa1:FuncId) (ca1:List AV) (a1:Part→Option Bool) (ha1:∀ (x0:Part) r,a1 x0=some r→∀ B' rows,B <+: B'→Rw <+: rows→ACalls Tryz.prog w0 fa1 ([.agg (Am x0.kind::(Am x0.index::([.val (.string x0.name)])))]++ca1) ⟨B',rows,L⟩ fun v s=>v = .val (.bool r)∧s=⟨B',rows,L⟩) (r:Bool) (h:A3 n a0 a1=some r) :
  ACalls Tryz.prog w0 150 [.list (a0.map AK) .none,.clo fa1 ca1] ⟨B,Rw,L⟩ fun x st=>x = .val (.bool r)∧st=⟨B,Rw,L⟩:=by
 rw [A3] at h
 refine hd [.tmp 4] Tryz.func150 Tryz.ntmps150 fun M0 W0 o i j b l g hs=>?_
 simp only [AA]
 have d:=B6 (l (.clo fa1 ca1) (by simp))
 refine rg [0,1] hs ?_
 obtain ⟨m,f,h⟩:=bind_some h
 refine rc 2 [4] hs ?_;intro K2 c
 refine Aw _ (NM w0 n _ _ _ a0 fa1 ca1 a1 (fun x0 r k e a q1 q2=>ha1 x0 r k e a (List.IsPrefix.trans px q1) (g.pre.trans q2)) _ f) (hv hs) ?_
 refine ne hs c ?_
 clear c
 exact rt h hs b g
def FP (n:Nat)  : Option Int :=
 some ((-1))
def Bz (n:Nat) (q:List (List Part)) (y:(List Part)→Option Bool):Nat→Int→Option Int
 | 0,_=>none
 | m+1,b =>
  if decide (b<(q.length:Int)) then
   (Cb q b).bind fun g =>
   (y g).bind fun h =>
   if h then
    some (b)
   else
    if A6 (b+1) then
     (Bz n q y m) (b+1)
    else none
  else
   FP n 
def Da (n:Nat) (b:List (List Part)) (g:(List Part)→Option Bool):Option Int :=
 Bz n b g n 0
theorem Iz (w0:World) (n:Nat) (B:Ao) (Rw:Av) (L:As) (a0:List (List Part)) (fa1:FuncId) (ca1:List AV) (a1:(List Part)→Option Bool) (ha1:∀ (x0:List Part) r,a1 x0=some r→∀ B' rows,B <+: B'→Rw <+: rows→ACalls Tryz.prog w0 fa1 ([.list (x0.map AK) .none]++ca1) ⟨B',rows,L⟩ fun v s=>v = .val (.bool r)∧s=⟨B',rows,L⟩) (r:Int) (h:Da n a0 a1=some r) :
  ACalls Tryz.prog w0 162 [.list (a0.map (Jc AK)) .none,.clo fa1 ca1] ⟨B,Rw,L⟩ fun x st=>x=Am r∧st=⟨B,Rw,L⟩:=by
 rw [Da] at h
 refine hd [.tmp 4] Tryz.func162 Tryz.ntmps162 fun M0 W0 k g i c l f hs=>?_
 simp only [AA]
 have b:=B6 (l (.clo fa1 ca1) (by simp))
 refine rg [0,1] hs ?_
 refine AB (fun e st=>Ck e st B Rw L [] [] [] (FP n  = some r)) ?_ ?_
 ·intro K4 j
  refine rg [0,1,7,8] hs ?_
  apply Aq
  refine AC (fun m e st=>∃ (d:Int),Ck e st B Rw L [(0,true,.list (a0.map (Jc AK)) .none),(1,true,.clo fa1 ca1),(7,true,Am (a0.length:Int)),(8,true,Am d)] [] [] (Bz n a0 a1 m d=some r)) n ⟨0,([]),Rw,ef hs,ef hs,f,h⟩ ?_
  rintro ml6 e st ⟨d,Xl6,Rl6,rfl,rfl,f,h⟩ Ul6 Vl6
  cases ml6 with
  | zero=>cases h
  | succ ml6 =>
  rw [Bz] at h
  refine A9 k g i rfl c f (OJ b f) (OJ b f) ?_
  exact go (tg (a:=([0,1,7,8,9],([0,1,7,8],[0,1,5,7,8],[0,1,5,7,8,16],([4],()),[0,1,7,8],[0,1,7,8],()),[],()))) h hs k g i c f (q1 ha1) (q2 j (fun e s=>Vl6 ml6 e s (Nat.lt_succ_self _)))
 ·clear h;rintro e st ⟨Xk3,Rk3,rfl,rfl,f,h⟩
  rw [FP] at h
  refine A9 k g i rfl c f (OJ b f) (OJ b f) ?_
  refine rg [4] hs ?_
  exact rt h hs c f
def BD (n:Nat) (b:List (List Part)) (h:(List Part)→Option Bool):Option Bool :=
 (Da n b h).bind fun g =>
 some (decide (0≤g))
theorem Hf (w0:World) (n:Nat) (B:Ao) (Rw:Av) (L:As) (a0:List (List Part)) (fa1:FuncId) (ca1:List AV) (a1:(List Part)→Option Bool) (ha1:∀ (x0:List Part) r,a1 x0=some r→∀ B' rows,B <+: B'→Rw <+: rows→ACalls Tryz.prog w0 fa1 ([.list (x0.map AK) .none]++ca1) ⟨B',rows,L⟩ fun v s=>v = .val (.bool r)∧s=⟨B',rows,L⟩) (r:Bool) (h:BD n a0 a1=some r) :
  ACalls Tryz.prog w0 96 [.list (a0.map (Jc AK)) .none,.clo fa1 ca1] ⟨B,Rw,L⟩ fun x st=>x = .val (.bool r)∧st=⟨B,Rw,L⟩:=by
 rw [BD] at h
 refine hd [.tmp 4] Tryz.func96 Tryz.ntmps96 fun M0 W0 o i j b l g hs=>?_
 simp only [AA]
 have d:=B6 (l (.clo fa1 ca1) (by simp))
 refine rg [0,1] hs ?_
 obtain ⟨m,f,h⟩:=bind_some h
 refine rc 2 [4] hs ?_;intro K2 c
 refine Aw _ (Iz w0 n _ _ _ a0 fa1 ca1 a1 (fun x0 r k e a q1 q2=>ha1 x0 r k e a (List.IsPrefix.trans px q1) (g.pre.trans q2)) _ f) (hv hs) ?_
 refine ne hs c ?_
 clear c
 exact rt h hs b g
def JH (n:Nat)  : Option Int :=
 some (0)
def CV (n:Nat) (a0:List (ByteArray × Ex)):Nat→(List (List Part))→Int→Option Int
 | 0,_,_=>none
 | m+1,g,b =>
  if decide (b<(a0.length:Int)) then
   (Cb a0 b).bind fun q =>
   (Do n q.1).bind fun h =>
   if !(decide (h.2=0)) then
    some (h.2)
   else
    (A3 n h.1 (fun (x0:Part)=>some (DL x0))).bind fun y =>
    if y then
     some (22)
    else
     (BD n g (fun (x0:List Part)=>EW n x0 h.1)).bind fun z =>
     if z then
      some (7)
     else
      if (g.length+1)*24≤140737488355328∧g.length+1≤4611686018427387904 then
       if A6 (b+1) then
        (CV n a0 m) (g++([h.1])) (b+1)
       else none
      else none
  else
   JH n 
def Db (n:Nat) (b:List (ByteArray × Ex)):Option Int :=
 if decide (256<(b.length:Int)) then
  some (9)
 else
  CV n b n ([]) 0
theorem Ho (w0:World) (hE:Jl w0) (hM:Jh w0) (hP:Pow10 w0) (n:Nat) (B:Ao) (Rw:Av) (L:As) (a0:List (ByteArray × Ex)) (r:Int) (h:Db n a0=some r) :
  ACalls Tryz.prog w0 64 [.agg ([.list (a0.map A5) .none])] ⟨B,Rw,L⟩ fun x st=>x=Am r∧st=⟨B,Rw,L⟩:=by
 rw [Db] at h
 refine hd [.tmp 2] Tryz.func64 Tryz.ntmps64 fun M0 W0 G t p c Z i hs=>?_
 simp only [AA]
 refine rg [1] hs ?_
 apply An;intro K2 C
 refine rg [1,11] hs ?_
 refine BQ h hs ?_ ?_<;>intro hs h
 ·refine rg [2] hs ?_
  exact rt h hs c i
 refine sk [1] hs C ?_
 clear C
 refine rg [1,3] hs ?_
 refine AB (fun e st=>Ck e st B Rw L [] [[.list (a0.map A5) .none]] [] (JH n  = some r)) ?_ ?_
 ·intro K9 N
  refine rg [3,13,14,15] hs ?_
  apply Aq
  refine AC (fun m e st=>∃ (b:List (List Part)) (g:Int) (d:Ev.Own),Ck e st B Rw L [(3,true,.list (b.map (Jc AK)) d),(13,true,.list (a0.map A5) .none),(14,true,Am (a0.length:Int)),(15,true,Am g)] [[.list (a0.map A5) .none]] [(1,b.length,d)] (CV n a0 m b g=some r)) n ⟨([]),0,.full,([]),Rw,ef hs,ef hs,Owns.of_eq ((i).full 1 0) D6,h⟩ ?_
  rintro ml11 e st ⟨b,g,d,Xl11,Rl11,rfl,rfl,i,h⟩ Ul11 Vl11
  cases ml11 with
  | zero=>cases h
  | succ ml11 =>
  rw [CV] at h
  have Q:=i.unders
  simp only [List.mem_cons,List.not_mem_nil,or_false,forall_eq_or_imp,forall_eq] at Q
  refine td G t p c i ?_
  refine rg [3,13,14,15,16] hs ?_
  apply An;intro K13 j
  refine BQ h hs ?_ ?_<;>intro hs h
  rotate_left
  ·refine sx [] hs N ?_
   exact ⟨([]),Rl11,ef hs,ef hs,(i).sub (List.sublist_append_left [] [(1,b.length,d)]),h⟩
  refine sk [3,13,14,15] hs j ?_
  clear j
  apply An;intro K15 y
  apply Aq
  obtain ⟨K,D,h⟩:=bind_some h
  obtain ⟨H,J,v⟩:=Bi D
  have u:=Bj (f:=A5) v
  have hs:=Ae u hs
  refine rg [3,5,13,14,15] hs ?_
  obtain ⟨q,F,h⟩:=bind_some h
  refine rc 2 [3,6,7,13,14,15] hs ?_;intro K18 o
  refine Aw _ (Gx w0 hE hM hP n _ _ _ K.1 _ F) (hv hs) ?_
  refine ne hs o ?_
  clear o
  apply An;intro K20 E
  apply Aq
  refine rg [3,6,7,13,14,15,25] hs ?_
  refine BQ h hs ?_ ?_<;>intro hs h
  ·refine rg [2] hs ?_
   exact rt h hs c i
  obtain ⟨U,hy25,h⟩:=bind_some h
  refine rc 2 [3,6,13,14,15,29] hs ?_;intro K24 k
  refine Aw _ (Dv w0 n _ _ _ q.1 153 [] (fun (x0:Part)=>some (DL x0)) (fun x0 r hx Y rows' z O=>by cases hx;exact Pi w0 _ _ _ x0) _ hy25) (hv hs) ?_
  refine ne hs k ?_
  clear k
  refine BQ h hs ?_ ?_<;>intro hs h
  ·refine rg [2] hs ?_
   exact rt h hs c i
  obtain ⟨V,w,h⟩:=bind_some h
  refine rc 2 [3,6,13,14,15,32] hs ?_;intro K28 l
  refine Aw _ (Hf w0 n _ _ _ b 154 [.box (B.length+2) 0] (fun (x0:List Part)=>EW n x0 q.1) (fun x0 r hx Y rows' z O=>by exact PW w0 n _ _ _ x0 _ q.1 (D1 z (ef hs)) _ hx) _ w) (hv hs) ?_
  refine ne hs l ?_
  clear l
  exact go (tg (a:=(([2],()),[3,6,13,14,15],[3,13,14,15],[3,13,14,15],()))) h hs G t p c i (q1 (ae Wv N6)) (q3 E y (fun e s=>Vl11 ml11 e s (Nat.lt_succ_self _)))
 ·clear h;rintro e st ⟨Xk8,Rk8,rfl,rfl,i,h⟩
  rw [JH] at h
  refine td G t p c i ?_
  refine rg [2] hs ?_
  exact rt h hs c i
end Go.Proofs.YtmcnjijeocmkgaaGreatDoor
namespace Go.Ev
open Go Go.RowKit
section
variable {o:VO} {n:Nat}
@[go_sem] theorem Ziz:(Pn o n).cells=[Pn o n]:=by cases o<;>rfl
@[go_sem] theorem Zka:(Pn o n).one=true:=by cases o<;>rfl
@[go_sem] theorem Zhc:AX (Pn o n)=true:=by cases o<;>rfl
@[go_sem] theorem Zin:FT (Pn o n)=false:=by cases o<;>rfl
@[go_sem] theorem ZjP:UO (Pn o n)=false:=by cases o<;>rfl
@[go_sem] theorem Xn (id ver:Nat):Pn (.row id ver) n = .vec id ver 0 n:=rfl
def VO.under:VO→Nat→Prop
 | .nil,_=>True
 | .row id _,k=>id<k
@[go_sem] theorem Zim {nb nr nl:Nat}:Under nb nr nl (Pn o n)↔o.under nr:=by
 cases o with
 | nil=>exact ⟨fun _=>trivial,fun _ => .list (by simp) trivial⟩
 | row id ver=>exact ⟨fun h=>by cases h;assumption,fun h => .vec h⟩
@[go_sem] theorem Zfi (k:Nat):VO.nil.under k=True:=rfl
@[go_sem] theorem ZfY (id ver k:Nat):(VO.row id ver).under k=(id<k):=rfl
end
def Zdv:VO→List RowA→VO
 | .nil,rows => .row rows.length 0
 | .row id ver,_ => .row id (ver+1)
def ZcO:VO→List RowA→Nat→List AV→List RowA
 | .nil,rows,sz,cs=>rows++[.vec 0 sz cs]
 | .row id ver,rows,sz,cs=>rows.set id (.vec (ver+1) sz cs)
section
variable {Rw rows:List RowA} {l:List (Nat × Nat × Own)} {ho:Own} {v:List VE} {o:VO} {sz:Nat} {cs:List AV}
theorem OwnsAt.up {lo:Nat} {x:Nat × Nat × Own} (h:OwnsAt lo ho rows x) (r:Av):OwnsAt lo ho (rows++r) x:=by
 rcases h with h | ⟨id,h1,h2,h3⟩
 ·exact .inl h
 ·exact .inr ⟨id,h1,h2,by rw [List.getElem?_append_left (Ak.1 h3).1];exact h3⟩
theorem OwnsAt.set {lo:Nat} {x:Nat × Nat × Own} (h:OwnsAt lo ho rows x) {i:Nat} {a s:Nat} {c:List AV} (hi:rows[i]? = some (.vec a s c)) (r:RowA):OwnsAt lo ho (rows.set i r) x:=by
 rcases h with h | ⟨id,h1,h2,h3⟩
 ·exact .inl h
 ·refine .inr ⟨id,h1,h2,?_⟩
  rw [List.getElem?_set_ne (fun e=>by rw [e,h3] at hi;cases hi)]
  exact h3
theorem VAt.lt {lo:Nat} {x:VE} (h:VAt lo ho rows x):x.1.under rows.length:=by
 rcases h with h | ⟨id,ver,h1,h2,h3⟩
 ·rw [h.1];trivial
 ·rw [h1];exact (Ak.1 h3).1
theorem Owns.nilV (h:Owns Rw rows l ho v) (sz:Nat):Owns Rw rows l ho ((.nil,sz,[])::v) :=
 ⟨h.len,h.keep,fun i r a q b=>h.calm i r a q fun x hx=>b x (List.mem_cons_of_mem _ hx),h.each,h.apart,fun x hx=>by
  rcases List.mem_cons.1 hx with rfl | hx
  ·exact .inl ⟨rfl,rfl⟩
  ·exact h.veach x hx,List.pairwise_cons.2 ⟨fun _ _ _ _ _ q=>(nomatch q),h.vapart⟩⟩
theorem Owns.newV (h:Owns Rw rows l ho v) (sz:Nat) (cs:List AV):Owns Rw (rows++[.vec 0 sz cs]) l ho ((.row rows.length 0,sz,cs)::v):=by
 have g:=h.len
 refine ⟨by simp;omega,fun i c j=>?_,fun i r d q f=>?_,fun x hx=>(h.each x hx).up _,h.apart,fun x hx=>?_,List.pairwise_cons.2 ⟨fun y m id a b q k=>?_,h.vapart⟩⟩
 ·rw [List.getElem?_append_left (by omega)];exact h.keep i c j
 ·by_cases c:i<rows.length
  ·rw [List.getElem?_append_left c] at d
   exact h.calm i r d q fun x hx=>f x (List.mem_cons_of_mem _ hx)
  ·have e:i=rows.length:=by
    have:=(Ak.1 d).1
    simp at this;omega
   exact absurd (by rw [e]) (f _ (List.mem_cons_self ..) 0)
 ·rcases List.mem_cons.1 hx with rfl | hx
  ·exact .inr ⟨_,_,rfl,.inl g,by simp⟩
  ·exact (h.veach x hx).up _
 ·cases q
  have:=(h.veach y m).lt
  rw [k] at this
  exact Nat.lt_irrefl _ this
theorem Owns.setV {id ver:Nat} (h:Owns Rw rows l ho ((.row id ver,sz,cs)::v)) (ver':Nat) (cs':List AV):Owns Rw (rows.set id (.vec ver' sz cs')) l ho ((.row id ver',sz,cs')::v):=by
 obtain ⟨o,h1,n,p,m,f,s⟩:=h
 obtain ⟨hid,hrow⟩:(Rw.length≤id∨ho = .row id)∧rows[id]? = some (.vec ver sz cs):=by
  rcases f _ (List.mem_cons_self ..) with q | ⟨d,ver',q1,q2,q3⟩
  ·cases q.1
  ·cases q1;exact ⟨q2,q3⟩
 have c:=(Ak.1 hrow).1
 obtain ⟨p1,p2⟩:=List.pairwise_cons.1 s
 refine ⟨by simpa using o,fun i hi hn=>?_,fun i r g q j=>?_,fun x hx=>(p x hx).set hrow _,m,fun x hx=>?_,List.pairwise_cons.2 ⟨fun y hy d a b q=>by cases q;exact p1 y hy id ver b rfl,p2⟩⟩
 ·rw [List.getElem?_set_ne (fun e=>by subst e;rcases hid with q | q;exact Nat.lt_irrefl _ (Nat.lt_of_lt_of_le hi q);exact hn q)];exact h1 i hi hn
 ·by_cases e:id=i
  ·exact absurd (by rw [e]) (j _ (List.mem_cons_self ..) ver')
  ·rw [List.getElem?_set_ne e] at g
   refine n i r g q fun x hx=>?_
   rcases List.mem_cons.1 hx with rfl | hx
   ·intro a k;cases k;exact e rfl
   ·exact j x (List.mem_cons_of_mem _ hx)
 ·rcases List.mem_cons.1 hx with rfl | hx
  ·exact .inr ⟨id,ver',rfl,hid,by simp [c]⟩
  ·exact (f x (List.mem_cons_of_mem _ hx)).set (fun a k=>p1 x hx id ver a rfl k) _
theorem Owns.bump (h:Owns Rw rows l ho ((o,sz,cs)::v)) (cs':List AV):Owns Rw (ZcO o rows sz cs') l ho ((Zdv o rows,sz,cs')::v):=by
 cases o with
 | nil =>
  have d:Owns Rw rows l ho v:=⟨h.len,h.keep,fun i r b q c=>h.calm i r b q fun x hx=>by
   rcases List.mem_cons.1 hx with rfl | hx
   ·intro a k;cases k
   ·exact c x hx,h.each,h.apart,fun x hx=>h.veach x (List.mem_cons_of_mem _ hx),(List.pairwise_cons.1 h.vapart).2⟩
  exact d.newV sz cs'
 | row id ver=>exact h.setV (ver+1) cs'
theorem Owns.eqV {v':List VE} (h:Owns Rw rows l ho v) (he:v=v'):Owns Rw rows l ho v':=he▸h
theorem Owns.nilZ (h:Owns Rw rows l ho ((o,sz,cs)::v)) (hs:0<sz) {n:Nat} (hn:cs.length=n*sz):o = .nil→n=0:=fun e=>by
 rcases h.veach _ (List.mem_cons_self ..) with q | ⟨id,ver,q1,q2,q3⟩
 ·have q2:cs=[]:=q.2
  rw [q2] at hn
  rcases Nat.eq_zero_or_pos n with w | w
  ·exact w
  ·have:=Nat.mul_pos w hs
   simp at hn;omega
 ·rw [e] at q1;cases q1
theorem Owns.underV (h:Owns Rw rows l ho v):∀ x∈v,x.1.under rows.length:=fun x a=>(h.veach x a).lt
theorem Owns.appendV {P:Program} {t el:TypeId} {by8 n m:Nat} {ag:Bool} (h:Owns Rw rows l ho ((o,sz,cs)::v)) (he:Lr P t=some (el,sz,ag,by8)) (hz:(BB P el).isSome=true) (hs:0<sz) (hn:cs.length=n*sz)
  (hb:(n+m)*by8≤140737488355328) (hb2:n+m≤4611686018427387904) (ys:List AV) (hy:ys.length=m) (cs':List AV) (hc:cs++ys.flatMap (fun y=>y.pub.cells)=cs') :
  ∃ o' rows',Owns Rw rows' l ho ((o',sz,cs')::v)∧∀ (B:Ao) (L:As) (o2:Own),BH P ⟨B,rows,L⟩ t (Pn o n) (.list ys o2)=((∀ y∈ys,y.cells.length=sz∧AX y=true),Pn o' (n+m),⟨B,rows',L⟩):=by
 subst hc
 by_cases a:o = .nil∧m=0
 ·obtain ⟨rfl,rfl⟩:=a
  have e0:=h.nilZ hs hn rfl
  subst e0
  have ec:ys=[]:=List.length_eq_zero_iff.1 hy
  subst ec
  refine ⟨.nil,rows,h.eqV (by simp),fun B L o2=>?_⟩
  simp [Pn,BH,he,AP,Bv,hs]
 refine ⟨_,_,h.bump _,fun B L o2=>?_⟩
 cases o with
 | nil =>
  have a:0<m:=Nat.pos_of_ne_zero fun e=>a ⟨rfl,e⟩
  have e0:=h.nilZ hs hn rfl
  subst e0
  have ec:cs=[]:=List.length_eq_zero_iff.1 (by simpa using hn)
  subst ec
  simp only [Pn,BH,he,AP,Bv,CM,hs,hz,hy,a,Aj (Nat.ne_of_gt a),Zdv,ZcO,List.length_nil,List.nil_append,Nat.zero_add,true_and,and_true,Prod.mk.injEq,eq_iff_iff,and_self]
  rw [Nat.zero_add] at hb hb2
  exact ⟨fun q=>q.2.2,fun q=>⟨hb,hb2,q⟩⟩
 | row id ver =>
  obtain ⟨id',ver',e,hlt,hv⟩:∃ id' ver',VO.row id ver = .row id' ver'∧id'<rows.length∧EJ rows id' ver'=some (sz,cs):=by
   rcases h.veach _ (List.mem_cons_self ..) with q | ⟨id,ver,q1,q2,q3⟩
   ·cases q.1
   ·refine ⟨id,ver,q1,(Ak.1 q3).1,?_⟩
    simp only [EJ,q3,if_true]
  cases e
  have b:cs.take (n*sz)=cs:=List.take_of_length_le (by omega)
  have c:=hb
  simp only [Pn,BH,he,hv,AP,Bv,CM,hs,hz,hy,Zdv,ZcO,b,Nat.le_of_eq hn.symm,true_and,and_true,Prod.mk.injEq,eq_iff_iff]
  exact ⟨fun q=>q.2.2,fun q=>⟨hb,hb2,q⟩⟩
theorem Owns.callV {rows':List RowA} {v':List VE} (h:Owns Rw rows l ho v) (hc:Owns rows rows' [] .none v'):Owns Rw rows' l ho (v'++v):=by
 have u:=h.len
 have t:=hc.len
 have keep:∀ i,i<rows.length→rows'[i]? = rows[i]? := fun i d=>hc.keep i d (fun q=>by cases q)
 have g:∀ x∈v,x.1.under rows.length:=h.underV
 have j:∀ x∈v',∀ id c,x.1 = .row id c→rows.length≤id:=fun x hx id c e=>by
  rcases hc.veach x hx with q | ⟨id',ver',q1,q2,q3⟩
  ·rw [q.1] at e;cases e
  ·rw [q1] at e;cases e;rcases q2 with q2 | q2;exact q2;cases q2
 refine ⟨by omega,fun i d o=>?_,fun i r f q n=>?_,fun x hx=>?_,h.apart,fun x hx=>?_,List.pairwise_append.2 ⟨hc.vapart,h.vapart,fun x hx y p id a b e k=>?_⟩⟩
 ·rw [keep i (by omega)];exact h.keep i d o
 ·by_cases e:rows.length≤i
  ·exact hc.calm i r f (.inl e) fun x hx=>n x (List.mem_append_left _ hx)
  ·rw [keep i (by omega)] at f
   exact h.calm i r f q fun x hx=>n x (List.mem_append_right _ hx)
 ·rcases h.each x hx with q | ⟨id,q1,q2,q3⟩
  ·exact .inl q
  ·exact .inr ⟨id,q1,q2,by rw [keep id (Ak.1 q3).1];exact q3⟩
 ·rcases List.mem_append.1 hx with hx | hx
  ·rcases hc.veach x hx with q | ⟨id,c,q1,q2,q3⟩
   ·exact .inl q
   ·exact .inr ⟨id,c,q1,.inl (by rcases q2 with q2 | q2;omega;cases q2),q3⟩
  ·rcases h.veach x hx with q | ⟨id,c,q1,q2,q3⟩
   ·exact .inl q
   ·exact .inr ⟨id,c,q1,q2,by rw [keep id (Ak.1 q3).1];exact q3⟩
 ·have s:=j x hx id a e
  have m:=g y p
  rw [k] at m
  exact absurd m (by simp only [VO.under];omega)
theorem Owns.dropV {x:VE} (h:Owns Rw rows l ho ((.nil,sz,cs)::v)):Owns Rw rows l ho v :=
 ⟨h.len,h.keep,fun i r b q c=>h.calm i r b q fun x hx=>by
  rcases List.mem_cons.1 hx with rfl | hx
  ·intro a k;cases k
  ·exact c x hx,h.each,h.apart,fun x hx=>h.veach x (List.mem_cons_of_mem _ hx),(List.pairwise_cons.1 h.vapart).2⟩
theorem Owns.deadV {id ver:Nat} (h:Owns Rw rows l ho ((.row id ver,sz,cs)::v)):Owns Rw (rows.set id (.dead (ver+1))) l ho v:=by
 obtain ⟨g,h1,f,m,d,c,p⟩:=h
 obtain ⟨hid,hrow⟩:(Rw.length≤id∨ho = .row id)∧rows[id]? = some (.vec ver sz cs):=by
  rcases c _ (List.mem_cons_self ..) with q | ⟨id',ver',q1,q2,q3⟩
  ·cases q.1
  ·cases q1;exact ⟨q2,q3⟩
 have b:=(Ak.1 hrow).1
 obtain ⟨o,j⟩:=List.pairwise_cons.1 p
 refine ⟨by simpa using g,fun i hi hn=>?_,fun i r hr q n=>?_,fun x hx=>(m x hx).set hrow _,d,fun x hx=>?_,j⟩
 ·rw [List.getElem?_set_ne (fun e=>by subst e;rcases hid with q | q;exact Nat.lt_irrefl _ (Nat.lt_of_lt_of_le hi q);exact hn q)];exact h1 i hi hn
 ·by_cases e:id=i
  ·subst e
   rw [List.getElem?_set_self b] at hr
   cases hr;rfl
  ·rw [List.getElem?_set_ne e] at hr
   refine f i r hr q fun x hx=>?_
   rcases List.mem_cons.1 hx with rfl | hx
   ·intro a k;cases k;exact e rfl
   ·exact n x hx
 ·exact (c x (List.mem_cons_of_mem _ hx)).set (fun a k=>o x hx id ver a rfl k) _
end
section
variable {P:Program} {w0:World} {n:Nat} {e:Env} {st:St} {M0:Mem} {W0:World} {ro:Option Nat} {Q:AQ} {c:Code}
variable {Rw:List RowA} {lw:List (Nat × Nat × Own)} {oh:Own} {v:List VE} {o:VO} {sz m:Nat} {cs xs:List AV}
theorem Ym (l i:Nat) {bs:List AV} (hl:st.boxes[l]? = some bs) (hi:bs[i]? = some (Pn o m)) (ho:Owns Rw st.rows lw oh ((o,sz,cs)::v)) (ag:Bool) (hag:ag=true∨sz=1) (hs:0<sz) (hn:cs.length=m*sz) (hx:NF sz ag cs 0 m=xs)
  (h:∀ rows',Owns Rw rows' lw oh v→D4 P w0 n M0 W0 ro c Q e { st with boxes:=st.boxes.set l (bs.set i (.list xs .none)),rows:=rows' }):D4 P w0 n M0 W0 ro c Q e st:=by
 cases o with
 | nil =>
  have e0:=ho.nilZ hs hn rfl
  subst e0
  have ex:xs=[]:=by rw [←hx];rfl
  subst ex
  exact Q9 l i hl hi rfl (h _ (ho.dropV (x:=(.nil,0,[]))))
 | row id ver =>
  rcases ho.veach _ (List.mem_cons_self ..) with q | ⟨id',ver',q1,q2,q3⟩
  ·cases q.1
  ·cases q1
   subst hx
   exact Ua l i ag hl hi (by simp only [EJ,q3,if_true]) hag (by rw [Nat.zero_add];omega) (h _ ho.deadV)
theorem ZaO (k:Nat) (hk:look e k=some (true,Pn o m)) (ho:Owns Rw st.rows lw oh ((o,sz,cs)::v)) (ag:Bool) (hag:ag=true∨sz=1) (hs:0<sz) (hn:cs.length=m*sz) (hx:NF sz ag cs 0 m=xs)
  (h:∀ rows',Owns Rw rows' lw oh v→D4 P w0 n M0 W0 ro c Q ((k,true,.list xs .none)::e) { st with rows:=rows' }):D4 P w0 n M0 W0 ro c Q e st:=by
 cases o with
 | nil =>
  have e0:=ho.nilZ hs hn rfl
  subst e0
  have ex:xs=[]:=by rw [←hx];rfl
  subst ex
  exact Zfv k hk (h _ (ho.dropV (x:=(.nil,0,[]))))
 | row id ver =>
  rcases ho.veach _ (List.mem_cons_self ..) with q | ⟨id',ver',q1,q2,q3⟩
  ·cases q.1
  ·cases q1
   subst hx
   exact ZS k ag hk (by simp only [EJ,q3,if_true]) hag (by rw [Nat.zero_add];omega) (h _ ho.deadV)
end
theorem ZfP {α:Type} {f:α→AV} {g:α→List AV} (sz:Nat) (hf:∀ x,f x = .agg (g x)) (hg:∀ x,(g x).length=sz) (xs:List α):NF sz true (xs.flatMap fun x=>(f x).cells) 0 xs.length=xs.map f:=by
 have b:(xs.flatMap fun x=>(f x).cells)=xs.flatMap g:=by
  congr 1;funext x;rw [hf];rfl
 rw [b]
 refine List.ext_getElem (by simp [NF]) fun i c a=>?_
 simp only [List.length_map] at a
 simp only [NF,List.getElem_map,List.getElem_range,Nat.zero_add,OG,if_true]
 rw [MU sz hg (List.getElem?_eq_getElem a),hf]
theorem ZaS {α:Type} {f:α→AV} (hf:∀ x,(f x).cells=[f x]) (xs:List α):NF 1 false (xs.flatMap fun x=>(f x).cells) 0 xs.length=xs.map f:=by
 have b:(xs.flatMap fun x=>(f x).cells)=xs.map f:=by
  induction xs with
  | nil=>rfl
  | cons x xs ih=>rw [List.flatMap_cons,ih,hf];rfl
 rw [b]
 refine List.ext_getElem (by simp [NF]) fun i c a=>?_
 simp only [NF,List.getElem_map,List.getElem_range,Nat.zero_add,Nat.mul_one,OG,Y5,Bool.false_eq_true,if_false]
 simp only [List.length_map] at a
 simp [a]
theorem KN {α:Type} {f:α→AV} {sz:Nat} (hf:∀ x,(f x).cells.length=sz) (xs:List α):(xs.flatMap fun x=>(f x).cells).length=xs.length*sz:=by
 induction xs with
 | nil=>simp
 | cons x xs ih=>rw [List.flatMap_cons,List.length_append,ih,hf,List.length_cons,Nat.succ_mul,Nat.add_comm]
section
variable {P:Program} {w0:World} {f:FuncId} {st:St}
def finV (st:St) (Post:AV→St→Prop) (r:AV) (s:St):Prop :=
 st.boxes.length≤s.boxes.length∧st.rows.length≤s.rows.length∧st.loops.length≤s.loops.length∧Calm st.boxes.length s.rows.length st.loops.length (s.cut st.boxes.length s.rows.length st.loops.length) ∧
  Under st.boxes.length s.rows.length st.loops.length r∧Post r (s.cut st.boxes.length s.rows.length st.loops.length)
theorem ACalls.finV {args:List AV} {Post:AV→St→Prop} (h:ACalls P w0 f args st (finV st Post)):ACalls P w0 f args st Post:=by
 refine ⟨h.1,fun M w b a c=>(h.2 M w b a c).mono ?_⟩
 rintro en n ⟨v,M',r,d,l,⟨g,m,e,j,i,k⟩,h3,h4,h5⟩
 exact ⟨v,M'.cut st.boxes.length d.rows.length st.loops.length,r,_,l,k,h3.cut (by have:=a.N;omega) (by have:=a.NR;omega) (by have:=a.loop.NL;omega) (by rw [h4.loop.NL];exact e),h4.cut g (Nat.le_refl _) e j,h5.cut i⟩
theorem Zjr {B B' X:List (List AV)} {R0 rows:List RowA} {L l:List LoopA} {Post:AV→St→Prop} {r:AV} {ow:List (Nat × Nat × Own)} {v:List VE} (ho:Owns R0 rows ow .none v) (hc:Calm B.length R0.length L.length ⟨B',R0,L⟩) (hB:B'.length=B.length) (hu:Under B.length rows.length L.length r)
  (hv:∀ x∈v,∀ y∈x.2.2,Under B.length rows.length L.length y) (hp:Post r ⟨B',rows,L⟩):Go.Ev.finV ⟨B,R0,L⟩ Post r ⟨B'++X,rows,L++l⟩:=by
 have e:St.cut ⟨B'++X,rows,L++l⟩ B.length rows.length L.length=⟨B',rows,L⟩:=by simp [St.cut,←hB]
 have d:=ho.len
 refine ⟨by simp [hB],d,by simp,?_,hu,by simp only [e];exact hp⟩
 simp only [e]
 exact ⟨ho.rowsCalm (Nat.le_refl _) hc.rows hv,fun cs a x b=>CL (Nat.le_refl _) d (Nat.le_refl _) (hc.boxes cs a x b),fun f a k x b c=>CL (Nat.le_refl _) d (Nat.le_refl _) (hc.loops f a k x b c)⟩
theorem Zhp {B B' X:List (List AV)} {R0 rows:List RowA} {L:List LoopA} {Post:AV→St→Prop} {r:AV} {ow:List (Nat × Nat × Own)} {v:List VE} (ho:Owns R0 rows ow .none v) (hc:Calm B.length R0.length L.length ⟨B',R0,L⟩) (hB:B'.length=B.length) (hu:Under B.length rows.length L.length r)
  (hv:∀ x∈v,∀ y∈x.2.2,Under B.length rows.length L.length y) (hp:Post r ⟨B',rows,L⟩):Go.Ev.finV ⟨B,R0,L⟩ Post r ⟨B'++X,rows,L⟩:=by
 have:=Zjr (X:=X) (l:=[]) ho hc hB hu hv hp
 rwa [List.append_nil] at this
end
abbrev VP (Rw:Av) (o:VO) (sz:Nat) (cs:List AV):Prop:=VAt 0 .none Rw (o,sz,cs)
theorem VP.up {Rw rows:List RowA} {o:VO} {sz:Nat} {cs:List AV} {l:List (Nat × Nat × Own)} {v:List VE} (h:VP Rw o sz cs) (ho:Owns Rw rows l .none v):VP rows o sz cs:=by
 rcases h with q | ⟨id,ver,q1,q2,q3⟩
 ·exact .inl q
 ·refine .inr ⟨id,ver,q1,q2,?_⟩
  rw [ho.keep id (Ak.1 q3).1 (fun e=>by cases e)]
  exact q3
theorem VP.row {rows:List RowA} {o:VO} {sz:Nat} {cs:List AV} (h:VP rows o sz cs) (hne:0<cs.length):∃ id ver,o = .row id ver∧id<rows.length∧EJ rows id ver=some (sz,cs):=by
 rcases h with q | ⟨id,ver,q1,q2,q3⟩
 ·have q2:cs=[]:=q.2
  rw [q2] at hne;simp at hne
 ·refine ⟨id,ver,q1,(Ak.1 q3).1,?_⟩
  simp only [EJ,q3,if_true]
theorem VP.under {rows:List RowA} {o:VO} {sz:Nat} {cs:List AV} (h:VP rows o sz cs):o.under rows.length:=VAt.lt h
def hOf:VO→Own
 | .nil => .none
 | .row id _ => .row id
theorem Xs {o:VO} {i:Nat} (h:hOf o = .row i):∃ ver,o = .row i ver:=by
 cases o with
 | nil=>cases h
 | row id ver=>cases h;exact ⟨ver,rfl⟩
section
variable {Rw rows rows':List RowA} {l:List (Nat × Nat × Own)} {ho:Own} {v:List VE} {o o':VO} {sz:Nat} {cs cs':List AV}
theorem Owns.enterV (h:Owns Rw rows l ho ((o,sz,cs)::v)):Owns rows rows [] (hOf o) [(o,sz,cs)]:=by
 refine ⟨Nat.le_refl _,fun _ _ _=>rfl,fun i r b q d=>?_,by simp,.nil,fun x c=>?_,by simp⟩
 ·rcases q with q | q
  ·have:=(Ak.1 b).1;omega
  ·obtain ⟨a,e⟩:=Xs q
   exact absurd e (d _ (List.mem_singleton.2 rfl) a)
 ·rw [List.mem_singleton.1 c]
  rcases h.veach _ (List.mem_cons_self ..) with w | ⟨id,a,w1,w2,w3⟩
  ·exact .inl w
  ·refine .inr ⟨id,a,w1,.inr ?_,w3⟩
   simp only at w1
   rw [w1];rfl
theorem Owns.callG (h:Owns Rw rows l ho ((o,sz,cs)::v)) (hc:Owns rows rows' [] (hOf o) [(o',sz,cs')]):Owns Rw rows' l ho ((o',sz,cs')::v):=by
 have hx:=h.veach _ (List.mem_cons_self ..)
 have f:=hc.veach _ (List.mem_cons_self ..)
 obtain ⟨s,u⟩:=List.pairwise_cons.1 h.vapart
 have C:=h.len
 have z:=hc.len
 have own:∀ i,hOf o = .row i→(Rw.length≤i∨ho = .row i)∧∃ c,o = .row i c∧rows[i]? = some (.vec c sz cs):=fun i e=>by
  obtain ⟨c,e⟩:=Xs e
  rcases hx with q | ⟨id,d,q1,q2,q3⟩
  ·simp only at q;rw [e] at q;cases q.1
  ·simp only at q1;rw [e] at q1;cases q1
   exact ⟨q2,c,e,q3⟩
 have keep:∀ i,i<rows.length→hOf o ≠ .row i→rows'[i]? = rows[i]? := fun i j g=>hc.keep i j g
 have n:∀ i b,o' = .row i b→rows.length≤i∨hOf o = .row i:=fun i b e=>by
  rcases f with q | ⟨id,c,q1,q2,q3⟩
  ·simp only at q;rw [e] at q;cases q.1
  ·simp only at q1;rw [e] at q1;cases q1;exact q2
 refine ⟨by omega,fun i j g=>?_,fun i r m q p=>?_,fun x hxm=>?_,h.apart,fun x hxm=>?_,List.pairwise_cons.2 ⟨fun y t id a b e k=>?_,u⟩⟩
 ·have:hOf o ≠ .row i:=fun e=>by
   rcases (own i e).1 with q | q
   ·omega
   ·exact g q
  rw [keep i (by omega) this];exact h.keep i j g
 ·by_cases e:rows.length≤i∨hOf o = .row i
  ·exact hc.calm i r m e fun x hx=>by rw [List.mem_singleton.1 hx];exact p _ (List.mem_cons_self ..)
  ·rw [keep i (by omega) (fun k=>e (.inr k))] at m
   refine h.calm i r m q fun x hx=>?_
   rcases List.mem_cons.1 hx with rfl | hx
   ·intro c k
    simp only at k
    exact e (.inr (by rw [k];rfl))
   ·exact p x (List.mem_cons_of_mem _ hx)
 ·rcases h.each x hxm with q | ⟨id,q1,q2,q3⟩
  ·exact .inl q
  ·refine .inr ⟨id,q1,q2,?_⟩
   rw [keep id (Ak.1 q3).1 fun e=>by
    obtain ⟨_,c,_,w⟩:=own id e
    rw [w] at q3;cases q3]
   exact q3
 ·rcases List.mem_cons.1 hxm with rfl | hxm
  ·rcases f with q | ⟨id,c,q1,q2,q3⟩
   ·exact .inl q
   ·refine .inr ⟨id,c,q1,?_,q3⟩
    rcases q2 with q2 | q2
    ·exact .inl (by omega)
    ·exact (own id q2).1
  ·rcases h.veach x (List.mem_cons_of_mem _ hxm) with q | ⟨id,c,q1,q2,q3⟩
   ·exact .inl q
   ·refine .inr ⟨id,c,q1,q2,?_⟩
    rw [keep id (Ak.1 q3).1 fun e=>by
     obtain ⟨_,d,w,_⟩:=own id e
     exact s x hxm id d c w q1]
    exact q3
 ·rcases n id a e with q | q
  ·have:=(h.veach y (List.mem_cons_of_mem _ t)).lt
   rw [k] at this
   exact absurd this (by simp only [VO.under];omega)
  ·obtain ⟨c,w⟩:=Xs q
   exact s y t id c b w k
end
end Go.Ev
namespace Go.Ev
open Go Go.RowKit Go.Shelf Go.Lib Go.Proofs
def Jq:List Bool→List AV→List AV
 | b::m,a::l=>(if b=true then a.pubA else a)::Jq m l
 | [],l=>l.map AV.pubA
 | _::_,[]=>[]
@[go_sem] theorem ZjN (m:List Bool) (a:AV) (l:List AV):Jq (true::m) (a::l)=a.pubA::Jq m l:=rfl
@[go_sem] theorem Zjw (m:List Bool) (a:AV) (l:List AV):Jq (false::m) (a::l)=a::Jq m l:=rfl
@[go_sem] theorem ZjX (l:List AV):Jq [] l=l.map AV.pubA:=rfl
@[go_sem] theorem ZjV (m:List Bool):Jq m []=[]:=by cases m<;>rfl
theorem Uz:∀ (m:List Bool) (l:List AV),(Jq m l).length=l.length∧∀ (i:Nat) (h1:i<(Jq m l).length) (h2:i<l.length),(Jq m l)[i]=l[i]∨(Jq m l)[i]=l[i].pubA
 | [],l=>⟨by simp [Jq],fun i h1 h2 => .inr (by simp [Jq])⟩
 | b::m,[]=>⟨rfl,fun i h1 h2=>absurd h2 (by simp)⟩
 | b::m,a::l=>by
  obtain ⟨h1,h2⟩:=Uz m l
  refine ⟨by simp [Jq,h1],fun i d c=>?_⟩
  cases i with
  | zero=>cases b with
   | true=>exact .inr rfl
   | false=>exact .inl rfl
  | succ i=>exact h2 i (by simpa [Jq] using d) (by simpa using c)
section
variable {P:Program} {w0:World} {st:St} {f:FuncId}
theorem ACalls.mask {m:List Bool} {args args':List AV} {Post:AV→St→Prop} (h:ACalls P w0 f args' st Post) (he:Jq m args=args'):ACalls P w0 f args st Post:=by
 subst he
 obtain ⟨k,n⟩:=Uz m args
 refine ⟨h.1,fun M w c e d=>h.2 M w c e ?_⟩
 obtain ⟨l,j⟩:=d
 refine ⟨by rw [k];exact l,fun i a b=>?_⟩
 have g:i<args.length:=by rw [←k];exact b
 rcases n i b g with q | q
 ·rw [q];exact j i a g
 ·rw [q];exact (j i a g).pubA
theorem Oh {cs args args':List AV} {k:AV→St→Prop} (m:List Bool) (Post:AV→St→Prop)
  (h:ACalls P w0 f args' st Post) (he:Jq m (args++cs)=args') (hk:∀ v s,Post v s→k v s):JV P w0 true false (.clo f cs) args st k := .inr ⟨rfl,Post,fun _=>h.mask he,fun v s a _=>hk v s (a rfl)⟩
end
def Je:List Bool→List AV→List AV
 | b::m,a::l=>(if b=true then a.pubCell else a)::Je m l
 | [],l=>l.map AV.pubCell
 | _::_,[]=>[]
@[go_sem] theorem Zj0 (m:List Bool) (a:AV) (l:List AV):Je (true::m) (a::l)=a.pubCell::Je m l:=rfl
@[go_sem] theorem ZjE (m:List Bool) (a:AV) (l:List AV):Je (false::m) (a::l)=a::Je m l:=rfl
@[go_sem] theorem Zj8 (l:List AV):Je [] l=l.map AV.pubCell:=rfl
@[go_sem] theorem ZjI (m:List Bool):Je m []=[]:=by cases m<;>rfl
def pubS (m:List Bool):AV→AV
 | .agg cs => .agg (Je m cs)
 | x=>x
@[go_sem] theorem Zi1 (m:List Bool) (cs:List AV):pubS m (.agg cs) = .agg (Je m cs):=rfl
theorem Tf:∀ (m:List Bool) (l:List AV),(Je m l).length=l.length∧∀ (i:Nat) (h1:i<(Je m l).length) (h2:i<l.length),(Je m l)[i]=l[i]∨(Je m l)[i]=l[i].pubCell
 | [],l=>⟨by simp [Je],fun i h1 h2 => .inr (by simp [Je])⟩
 | b::m,[]=>⟨rfl,fun i h1 h2=>absurd h2 (by simp)⟩
 | b::m,a::l=>by
  obtain ⟨h1,h2⟩:=Tf m l
  refine ⟨by simp [Je,h1],fun i d c=>?_⟩
  cases i with
  | zero=>cases b with
   | true=>exact .inr rfl
   | false=>exact .inl rfl
  | succ i=>exact h2 i (by simpa [Je] using d) (by simpa using c)
theorem R.pubS {w0:World} {M:Mem} {w:World} (m:List Bool) {v:Value} {x:AV} (h:R w0 M w v x):R w0 M w v (pubS m x):=by
 cases h with
 | @agg us xs hl h1 h =>
  obtain ⟨e,f⟩:=Tf m xs
  refine .agg (by rw [e];exact hl) (fun x g=>?_) (fun i a b=>?_)
  ·obtain ⟨i,d,rfl⟩:=List.mem_iff_getElem.1 g
   have c:i<xs.length:=by rw [←e];exact d
   rcases f i d c with q | q
   ·rw [q];exact h1 _ (List.getElem_mem _)
   ·rw [q,AV.one_pubCell];exact h1 _ (List.getElem_mem _)
  ·have c:i<xs.length:=by rw [←e];exact b
   rcases f i b c with q | q
   ·rw [q];exact h i a c
   ·rw [q];exact (h i a c).pubCell
 | nil ho=>exact .nil ho
 | emp ho=>exact .emp ho
 | list sz us hc hm hcell hu ho=>exact .list sz us hc hm hcell hu ho
 | flat hf=>exact .flat hf
 | tup hl h=>exact .tup hl h
 | elem u k hcell hu=>exact .elem u k hcell hu
 | box hl=>exact .box hl
 | clo hl h=>exact .clo hl h
 | yld hk=>exact .yld hk
 | vec d hv h=>exact .vec d hv h
 | vel d hv h=>exact .vel d hv h
def Zbq (P:Program) (e:Env) (st:St):ResultVar→AV
 | .tmp t=>Az e (.tmp t)
 | .cell t ty=>(A0 P e true st (.load ty (.tmp t))).2.1
def ZgZ (mk:List Bool) (P:Program) (rs:List ResultVar) (Post:AV→St→Prop):AQ:=fun x e st =>
 match x with
 | .normal | .ret=>(∀ r∈rs,UD P e st r)∧Post (pubS mk (Yk (rs.map (Zbq P e st)))) st
 | _=>False
attribute [go_sem] Zbq ZgZ
section
variable {P:Program} {w0:World} {n:Nat} {M:Mem} {e:Env} {st:St} {a:Act} {w:World}
theorem ZX (mk:List Bool) (h:Rel w0 n M e st a w) {fn:Func} {rs:List ResultVar} (hfn:fn.results=rs.toArray) (hrs:∀ r∈rs,UD P e st r) :
  ∃ v,(results fn a.tmps).run P w = .ok v w∧R w0 M w v (pubS mk (Yk (rs.map (Zbq P e st)))):=by
 let f:ResultVar→Sem Value:=fun
  | .tmp t=>pure (a.tmps.getD t undef)
  | .cell b t=>do loadVar t (← asAddr (a.tmps.getD b undef))
 have c:∀ r∈rs,∃ v,(f r).run P w = .ok v w∧R w0 M w v (Zbq P e st r):=by
  intro r d
  have:=hrs r d
  cases r with
  | tmp t=>exact ⟨_,rfl,A2 h (x := .tmp t) this⟩
  | cell b t =>
   obtain ⟨v,m,k⟩:=Us h t (.tmp b) this
   exact ⟨v,m,k⟩
 classical
 let g:ResultVar→Value:=fun r=>if d:r∈rs then Classical.choose (c r d) else undef
 have j:∀ r∈rs,(f r).run P w = .ok (g r) w∧R w0 M w (g r) (Zbq P e st r):=by
  intro r d
  have:=Classical.choose_spec (c r d)
  have e:g r=Classical.choose (c r d):=by simp only [g,dif_pos d]
  rw [e];exact this
 have l:(fn.results.mapM f).run P w = .ok ((rs.map g).toArray) w:=by
  rw [hfn,Array.mapM_eq_mapM_toList]
  simp only [Sem.run_map,N1 f g rs (fun r d=>(j r d).1),Result.andThen_ok]
 have i:(results fn a.tmps).run P w = .ok (if h:(rs.map g).toArray.size=1 then (rs.map g).toArray[0] else .tuple (rs.map g).toArray) w:=by
  unfold results
  simp only [Sem.run_bind]
  refine Eq.trans (congrArg (fun x=>Result.andThen x _) l) ?_
  simp only [Result.andThen_ok,Sem.run_pure]
 refine ⟨_,i,?_⟩
 exact R.pubS mk (TG rs g fun r d=>(j r d).2)
theorem ZC (mk:List Bool) {f:FuncId} {fn:Func} {c:Code} {args:List AV} {rs:List ResultVar} {Post:AV→St→Prop} (hf:P.funcs[f]? = some fn) (hb:fn.body=some c) (hrs:fn.results=rs.toArray) (hn:fn.ntmps=n)
  (hen:JQ P f) (ha:args.length≤n)
  (h:∀ (M0:Mem) (W0:World),M0.N=st.boxes.length→M0.NR=st.rows.length→M0.NL=st.loops.length→Calm st.boxes.length st.rows.length st.loops.length st→(∀ x∈args,Under st.boxes.length st.rows.length st.loops.length x) →
   D4 P w0 n M0 W0 none c (ZgZ mk P rs Post) (AA 0 args) st):ACalls P w0 f args st Post:=by
 refine ⟨hen,fun M w a b d=>?_⟩
 have K:a.size=args.length:=d.1
 have Q:∀ x∈args,Under st.boxes.length st.rows.length st.loops.length x:=by
  intro x H
  obtain ⟨i,q,rfl⟩:=List.mem_iff_getElem.1 H
  have:=(d.get (i:=i) (Array.getElem?_eq_getElem (by omega)) (List.getElem?_eq_getElem q)).under
  rwa [b.N,b.NR,b.loop.NL] at this
 have m:Rel w0 n M (AA 0 args) st { tmps:=a++Array.replicate (fn.ntmps-a.size) undef,defers:=[] } w:=by
  refine ⟨b,by simp;omega,fun s x hs=>?_⟩
  obtain ⟨i,j,y,C,rfl⟩:=OX _ _ _ _ hs
  have q:i<args.length:=(Ak.1 C).1
  have hs':s=i:=by omega
  subst hs'
  simp only [entryOk,if_true]
  have G:(a++Array.replicate (fn.ntmps-a.size) undef).getD s undef=a[s]'(by omega):=by
   simp [Array.getD_eq_getD_getElem?,Array.getElem?_append_left (show s<a.size by omega),Array.getElem?_eq_getElem (show s<a.size by omega)]
  rw [G]
  exact d.get (Array.getElem?_eq_getElem (by omega)) C
 refine Ru (n:=0) (callsIn_of_wp_marks hf hb trivial (wpIn_mono (h M w b.N b.NR b.loop.NL b.calm Q 0 M _ w ⟨m,.refl _ _ _,[],by simp⟩) ?_))
 rintro ex o D ⟨M',p,l,j,k⟩
 have e:∀ (t:∀ r∈rs,UD P p l r) (z:Post (pubS mk (Yk (rs.map (Zbq P p l)))) l),
   LeavesInM (FW none) 0 P fn o.tmps (Comes' w0 M w Post) o.defers .returning D:=by
  intro t z
  obtain ⟨Ds,J,E,F⟩:=j.marks
  rw [E]
  refine MI Ds M' D J F b.base_le j.rel.st j.ext fun U u O k3=>?_
  have g:Rel w0 n M' p l o U:=⟨u,j.rel.size,fun s x hs=>by
   have:=j.rel.env s x hs
   unfold entryOk at *
   split
   ·rename_i c;rw [Ai c] at this;exact k3 _ _ this
   ·rename_i c;rw [Aj c] at this;exact this⟩
  obtain ⟨v,q1,q2⟩:=ZX mk g hrs t
  exact ⟨v,q1,v,M',_,l,rfl,z,O,u,q2⟩
 cases ex with
 | normal=>exact e k.1 k.2
 | ret=>exact e k.1 k.2
 | _=>exact k.elim
end
end Go.Ev
