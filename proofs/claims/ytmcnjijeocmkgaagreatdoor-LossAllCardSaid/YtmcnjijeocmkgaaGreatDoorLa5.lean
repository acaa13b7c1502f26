/-
  Part 5 of the proof: rules and walks that the claim's last text uses.
-/
import Derived.BigQuiet
import Derived.Deep.LoopGhost
import Derived.Deep.QuietTactic
import Derived.Deep.RegionLaw
import Derived.Ground.Names2Prog
import Derived.Ground.NamesProg
import Derived.Ground.SlgfProg
import Derived.Ground.SlgnProg
import Derived.Ground.SlsfProg
import Derived.Laws.RangeAny
import Derived.Lib.OthersKept
import Derived.Lib.RowBridge
import Derived.Lib.SliceRun
import Derived.Lib.Walk
import Derived.Shelf.LaysC
import Derived.Shelf.LaysM
import Derived.Shelf.RegionOpenPlain
import Derived.Shelf.SlBodiesN
import Derived.Shelf.Slices.Cells
import Derived.Shelf.Slices.Clone
import Derived.Shelf.Slices.CompactS
import Derived.Shelf.Slices.In.SortNone
import Derived.Shelf.SlicesE.Clone
import Derived.Shelf.SlicesE.Compact
import Derived.Shelf.SlicesE.DeleteFunc
import Derived.Shelf.SlicesE.Equal
import Derived.Shelf.SlicesE.IndexFunc
import Derived.Shelf.Small.Bits
import Derived.Shelf.Small.Strs
import Derived.Shelf.Small.Utf8
import Derived.Shelf.Sort.Plain
import Derived.Shelf.Spec.SlicesInsertGrow
import Derived.Shelf.Strconv.Atoi
import Derived.Shelf.Strconv.AtoiAll
import Derived.Shelf.Strconv.AtoiErrFast
import Derived.Shelf.Strconv.AtoiFail
import Derived.Shelf.Strconv.AtoiInnerAll
import Derived.Shelf.Strconv.AtoiLong
import Derived.Shelf.Strconv.Clone
import Derived.Shelf.Strconv.Lower
import Derived.Shelf.Strconv.ParseInt10
import Derived.Shelf.Strconv.ParseIntEmpty
import Derived.Shelf.Strconv.ParseUint10
import Derived.Shelf.Strconv.ParseUint10Any
import Derived.Shelf.Strconv.ParseUint10Empty
import Derived.Shelf.Strconv.RangeError
import Derived.Shelf.Strconv.SyntaxError
import Derived.Shelf.Strconv.ToError
import Derived.Shelf.Strconv.ToErrorRange
import Derived.Shelf.Strings.AsciiSet
import Derived.Shelf.Strings.Cut
import Derived.Shelf.Strings.IndexAny
import Derived.Shelf.Strings.IndexAnyAll
import Derived.Shelf.Strings.Prefix
import Derived.Shelf.Strings.Repeat
import Derived.Shelf.Strings.Runes
import Derived.Shelf.Strings.Search1
import Derived.Shelf.Strings.Search2
import Derived.Shelf.Strings.Shaped
import Derived.Test.YtmcnjijeocmkgaaGreatDoorProg
import Derived.WalkKit
import Derived.WalkMore
import Derived.WalkSmall
import Derived.Test.YtmcnjijeocmkgaaGreatDoorLa4
set_option linter.unusedSimpArgs false
set_option linter.unusedVariables false
set_option maxRecDepth 100000
set_option maxHeartbeats 4000000
namespace Go.Proofs.YtmcnjijeocmkgaaGreatDoor
open Go Go.RowKit Go.Ev
def Qk (n:Nat)  : Option Int :=
 some (0)
def Hj (n:Nat) (h:Ty):Nat→Int→Option Int
 | 0,_=>none
 | m+1,b =>
  if decide (b<(h.fields.length:Int)) then
   (LC n h b).bind fun g =>
   if !(decide (g=0)) then
    some (g)
   else
    if Bg (b+1) then
     (Hj n h m) (b+1)
    else none
  else
   Qk n 
def Hh (n:Nat) (g:Ty) (b:Bool):Option Int :=
 if b then
  some (4)
 else
  if (decide (g.kind=8))&&(decide (1<(g.elem.length:Int))) then
   some (3)
  else
   if decide (64<(g.fields.length:Int)) then
    some (9)
   else
    Hj n g n 0
def JH (n:Nat) (b:Ty):Option Int :=
 if (decide (b.kind=8))&&(decide ((b.elem.length:Int)=0)) then
  Hh n b true
 else
  Hh n b ((decide (b.kind=10))&&(decide ((b.fields.length:Int)=0)))
def Lo (n:Nat) (g:Ty) (b:Bool):Option Int :=
 if b then
  some (2)
 else
  JH n g 
def Po (n:Nat) (b:Ty):Option Int :=
 if !(decide (1≤b.kind)&&decide (b.kind≤10)) then
  some (11)
 else
  (Cj (Hm ) b.kind).bind fun g =>
  if !(decide ((J0 b g)=0)) then
   some (J0 b g)
  else
   if (decide (b.kind=4))&&(decide (0<(b.words.length:Int))) then
    (Ln n b).bind fun h =>
    if !(decide (h=0)) then
     some (h)
    else
     JH n b 
   else
    if g.bounds&&(((decide (b.max<b.min))||(decide (b.min<g.low)))||(decide (g.high<b.max))) then
     Lo n b true
    else
     Lo n b (g.scale&&(!(decide (0≤b.scale)&&decide (b.scale≤12))))
theorem ZbM (w0:World) (hT:Lib.Utf8Tabs 2 3 w0) (n:Nat) (B:Ao) (Rw:Av) (L:As) (a0:Ty) (r:Int) (h:Po n a0=some r) :
  ACalls Tryz.prog w0 172 [.agg (a0.cs)] ⟨B,Rw,L⟩ fun x st=>x=Am r∧st=⟨B,Rw,L⟩:=by
 rw [Po] at h
 refine hd [.tmp 2] Tryz.func172 Tryz.ntmps172 fun M0 W0 q o l b O k hs=>?_
 simp only [AA]
 refine rg [1] hs ?_
 apply An;intro K2 z
 refine rc 2 [1,11] hs ?_;intro K3 F
 refine Ax _ (O7 w0 _ _ _ a0.kind 1 10) (hv hs) ?_
 refine ne hs F ?_
 clear F
 refine B6 h hs ?_ ?_<;>intro hs h
 ·have p:=hs.1
  refine rg [2] hs ?_
  exact rt h hs b k
 have p:=hs.1
 refine sk [1] hs z ?_
 clear z
 apply An;intro K6 y
 obtain ⟨c,K,h⟩:=bind_some h
 obtain ⟨N,u,E⟩:=Bl K
 have j:=Mc (f:=fun x=>(Vr x).cells) 8 (fun _=>rfl) E
 have H:(Hm ).length=11:=rfl
 first | rw [H] at u | simp only [List.length_cons,List.length_nil,Nat.reduceAdd,Nat.zero_add] at u
 simp only [Fe,Fj,Fq,Eu,Eo,Ft,CO,DN,Fz,Ce,Cd,DG,DK,DO,Fg,DL,Fo,Q7] at j
 apply Hu PS [4,5] [1,3] kr (fun s=>∃ (X:Ao) (rows:Av),s=⟨B++([a0.cs]++X),rows,L⟩) 3 (B.length+1)
 ·simp +decide only [go_sem,Nat.reduceAdd]
 ·rintro s ⟨X,rows,rfl⟩
  refine ⟨2,?_⟩
  rw [Ap];simp +decide only [go_sem,Nat.reduceAdd,C6,p,j]
  have hs:=Ae j hs
  (repeat' apply Ae)<;>first | refine Ax _ (XE w0 _ _ _ ) (hv hs) ?_ | exact cl
  rw [Ap];simp +decide only [go_sem,Nat.reduceAdd,p,j]
  (repeat' apply Ae)<;>first | rfl | exact cl
 ·exact gd (tg (a:=(4,5,[1,3]))) (Ae j hs)
 simp +decide only [go_sem,Nat.reduceAdd,p,j]
 (repeat' apply Ae)<;>first | refine y _ _ ?_ | exact cl
 clear y
 apply An;intro K8 J
 have hs:=Ae j hs
 refine rc 2 [1,3,4] hs ?_;intro K9 G
 refine Ax _ (Yo w0 _ _ _ a0 c) (hv hs) ?_
 refine ne hs G ?_
 clear G
 refine rg [1,3,4,20] hs ?_
 refine B6 h hs ?_ ?_<;>intro hs h
 ·refine rg [2] hs ?_
  exact rt h hs b k
 refine sk [1,3] hs J ?_
 clear J
 refine AB (fun e st=>Ck e st B Rw L [(1,true,.box B.length 0)] [a0.cs,.val (.string c.name)::(Am c.low::(Am c.high::(.val (.bool c.bounds)::(.val (.bool c.scale)::(.val (.bool c.text)::(.val (.bool c.list)::([.val (.bool c.fields)])))))))] [] (JH n a0  = some r)) ?_ ?_
 ·intro K15 w
  apply Ar
  refine rg [1,3,22] hs ?_
  refine B6 h hs ?_ ?_<;>intro hs h
  ·exact go (tg (a:=([1,5],[1,5,35],([2],()),[1],()))) h hs q o l b k (q1 (YK w0 hT n)) (q1 w)
  refine AB (fun e st=>∃ (g:Bool),Ck e st B Rw L [(1,true,.box B.length 0),(37,true,.val (.bool g))] [a0.cs,.val (.string c.name)::(Am c.low::(Am c.high::(.val (.bool c.bounds)::(.val (.bool c.scale)::(.val (.bool c.text)::(.val (.bool c.list)::([.val (.bool c.fields)])))))))] [] (Lo n a0 g=some r)) ?_ ?_
  ·intro K25 t
   refine rg [1,3,37] hs ?_
   refine B6 h hs ?_ ?_<;>intro hs h
   ·refine sk [1,37] hs t ?_
    exact ⟨true,([]),Rw,ef hs,ef hs,k,h⟩
   refine rk 2 [1,37] hs ?_
   refine OM _ (fun _=>O7 w0 _ _ _ a0.scale 0 12) (hv hs) ?_
   exact go (tg (a:=((),()))) h hs q o l b k trivial (q1 t)
  ·clear h;rintro e st ⟨g,Xk24,Rk24,rfl,rfl,k,h⟩
   rw [Lo] at h
   exact go (tg (a:=(([2],()),[1],()))) h hs q o l b k trivial (q1 w)
 ·clear h;rintro e st ⟨Xk14,Rk14,rfl,rfl,k,h⟩
  rw [JH] at h
  refine td q o l b k ?_
  apply An;intro K30 v
  apply Ar
  refine AB (fun e st=>∃ (i:Bool),Ck e st B Rw L [(1,true,.box B.length 0),(69,true,.val (.bool i))] [a0.cs,.val (.string c.name)::(Am c.low::(Am c.high::(.val (.bool c.bounds)::(.val (.bool c.scale)::(.val (.bool c.text)::(.val (.bool c.list)::([.val (.bool c.fields)])))))))] [] (Hh n a0 i=some r)) ?_ ?_
  ·intro K33 C
   exact go (tg (a:=([1,69],([1,69],()),[1,69],()))) h hs q o l b k trivial (q1 C)
  ·clear h;rintro e st ⟨i,Xk32,Rk32,rfl,rfl,k,h⟩
   rw [Hh] at h
   refine td q o l b k ?_
   refine B6 h hs ?_ ?_<;>intro hs h
   ·refine rg [2] hs ?_
    exact rt h hs b k
   refine rg [1,88] hs ?_
   refine B6 h hs ?_ ?_<;>intro hs h
   ·refine rg [2] hs ?_
    exact rt h hs b k
   refine rg [1,98] hs ?_
   refine B6 h hs ?_ ?_<;>intro hs h
   ·refine rg [2] hs ?_
    exact rt h hs b k
   refine sk [1] hs v ?_
   clear v
   refine AB (fun e st=>Ck e st B Rw L [] [a0.cs,.val (.string c.name)::(Am c.low::(Am c.high::(.val (.bool c.bounds)::(.val (.bool c.scale)::(.val (.bool c.text)::(.val (.bool c.list)::([.val (.bool c.fields)])))))))] [] (Qk n  = some r)) ?_ ?_
   ·intro K46 D
    refine rg [1,105,106] hs ?_
    apply Ar
    refine AC (fun m e st=>∃ (d:Int),Ck e st B Rw L [(1,true,.box B.length 0),(105,true,Am (a0.fields.length:Int)),(106,true,Am d)] [a0.cs,.val (.string c.name)::(Am c.low::(Am c.high::(.val (.bool c.bounds)::(.val (.bool c.scale)::(.val (.bool c.text)::(.val (.bool c.list)::([.val (.bool c.fields)])))))))] [] (Hj n a0 m d=some r)) n ⟨0,([]),Rk32,ef hs,ef hs,k,h⟩ ?_
    rintro ml48 e st ⟨d,Xl48,Rl48,rfl,rfl,k,h⟩ Ul48 Vl48
    cases ml48 with
    | zero=>cases h
    | succ ml48 =>
    rw [Hj] at h
    exact go (tg (a:=([1,105,106,107],([1,105,106],[1,6,105,106],[1,7,105,106],[1,7,105,106,113],([2],()),[1,105,106],[1,105,106],()),[],()))) h hs q o l b k (q1 (YJ w0 n)) (q2 D (fun e s=>Vl48 ml48 e s (Nat.lt_succ_self _)))
   ·clear h;rintro e st ⟨Xk45,Rk45,rfl,rfl,k,h⟩
    rw [Qk] at h
    refine td q o l b k ?_
    refine rg [2] hs ?_
    exact rt h hs b k
def Nx (rec:Ty→Int→Int→Option (Int × Int)) (n:Nat)  (pla2_k18:Int):Option (Int × Int) :=
 some ((0,pla2_k18))
def B2 (rec:Ty→Int→Int→Option (Int × Int)) (n:Nat) (y:Ty) (z:Int) (h:(List Ty)):Nat→Int→Int→Option (Int × Int)
 | 0,_,_=>none
 | m+1,b,pla2_l22 =>
  if decide (b<(h.length:Int)) then
   (Cj h b).bind fun x28 =>
   if Bg (z+1) then
    (rec x28 (z+1) pla2_l22).bind fun g =>
    if !(decide (g.1=0)) then
     some ((g.1,g.2))
    else
     if decide (y.kind=9) then
      (Cj y.fields b).bind fun q =>
      if decide (q.2.2.1=3) then
       (Cj q.2.2.2.2 0).bind fun x40 =>
       (IV n x28 x40).bind fun y41 =>
       if !y41 then
        some ((18,g.2))
       else
        if Bg (b+1) then
         (B2 rec n y z h m) (b+1) g.2
        else none
      else
       if Bg (b+1) then
        (B2 rec n y z h m) (b+1) g.2
       else none
     else
      if Bg (b+1) then
       (B2 rec n y z h m) (b+1) g.2
      else none
   else none
  else
   Nx rec n pla2_l22
def N7 (rec:Ty→Int→Int→Option (Int × Int)) (n:Nat) (h:Ty) (y:Int) (b:Int):Option (Int × Int) :=
 if decide (b=0) then
  some ((9,b))
 else
  if decide (8<y) then
   some ((23,b))
  else
   if Bg (b-1) then
    (Po n h).bind fun g =>
    if !(decide (g=0)) then
     some ((g,b-1))
    else
     (Ik n h).bind fun q =>
     B2 rec n h y q n 0 (b-1)
   else none
def Iu:Nat→Ty→Int→Int→Option (Int × Int)
 | 0,_,_,_=>none
 | n+1,b,g,h=>N7 (Iu n) n b g h
def PX (w0:World) (F:Ty→Int→Int→Option (Int × Int)):Prop:=∀ (B:Ao) (Rw:Av) (L:As) (b:Ty) (g:Int) (la2:Nat) (h:Int) (hla2:B[la2]? = some ([Am h])) (r:Int × Int),F b g h=some r→ACalls Tryz.prog w0 82 [.agg (b.cs),Am g,.box la2 0] ⟨B,Rw,L⟩ fun x st=>x=Am r.1∧st=⟨(B.set la2 [Am r.2]),Rw,L⟩
theorem WB (w0:World) (hT:Lib.Utf8Tabs 2 3 w0) (rec:Ty→Int→Int→Option (Int × Int)) (ih:PX w0 rec) (n:Nat):PX w0 (N7 rec n):=by
 intro B Rw L a0 a1 l a2 o r h
 rw [N7] at h
 refine hd [.tmp 6] Tryz.func82 Tryz.ntmps82 fun M0 W0 E k i c hu j hs=>?_
 simp only [AA]
 have Q:=(Ak.1 o).1
 have hs:=Ae (Aq o) hs
 refine rg [1,2,3] hs ?_
 apply An;intro K2 z
 apply Ar
 refine rg [1,2,3,11] hs ?_
 refine B6 h hs ?_ ?_<;>intro hs h
 ·have Z:=hs.1
  refine rg [6] hs ?_
  exact rt h hs c j
 have Z:=hs.1
 refine rg [1,2,3,16] hs ?_
 refine B6 h hs ?_ ?_<;>intro hs h
 ·have U:=hs.1
  refine rg [6] hs ?_
  exact rt h hs c j
 have U:=hs.1
 refine sk [1,2,3] hs z ?_
 clear z
 obtain ⟨ab,h⟩:=Aw h
 refine rg [1,2,3] hs ?_
 apply An;intro K11 u
 obtain ⟨ae,H,h⟩:=bind_some h
 refine rc 2 [1,2,3,7] hs ?_;intro K12 v
 refine Ax _ (ZbM w0 hT n _ _ _ a0 _ H) (hv hs) ?_
 refine ne hs v ?_
 clear v
 refine rg [1,2,3,7,27] hs ?_
 refine B6 h hs ?_ ?_<;>intro hs h
 ·have O:=hs.1
  exact go (tg (a:=([6],()))) h hs E k i c j trivial trivial
 have O:=hs.1
 refine sk [1,2,3] hs u ?_
 clear u
 refine AB (fun e st=>∃ (d:Int) (Xk18:Ao) (Rk18:Av),e=[]∧st=⟨(B.set l ([Am d]))++([a0.cs]++Xk18),Rk18,L⟩∧Owns Rw Rk18 []∧Nx rec n d=some r) ?_ ?_
 ·intro K19 J
  obtain ⟨y,N,h⟩:=bind_some h
  refine rc 2 [1,2,3,30,31,32] hs ?_;intro K20 q
  refine Ax _ (OY w0 n _ _ _ a0 _ N) (hv hs) ?_
  refine ne hs q ?_
  clear q
  apply Ar
  refine AC (fun m e st=>∃ (g:Int) (b:Int) (Xl22:Ao) (Rl22:Av),e=[(1,true,Am a1),(2,true,.box l 0),(3,true,.box B.length 0),(30,true,.list (y.map IX) .none),(31,true,Am (y.length:Int)),(32,true,Am g)]∧st=⟨(B.set l ([Am b]))++([a0.cs]++Xl22),Rl22,L⟩∧Owns Rw Rl22 []∧B2 rec n a0 a1 y m g b=some r) n ⟨0,(a2-1),([]),Rw,ef hs,ef hs,j,h⟩ ?_
  rintro ml22 e st ⟨g,b,Xl22,Rl22,rfl,rfl,j,h⟩ Ul22 Vl22
  cases ml22 with
  | zero=>cases h
  | succ ml22 =>
  rw [B2] at h
  refine A1 E k i X9 (CH c ev) j ow ow ?_
  refine rg [1,2,3,30,31,32,33] hs ?_
  apply An;intro K24 p
  refine B6 h hs ?_ ?_<;>intro hs h
  rotate_left
  ·have D:=hs.1
   refine sx [] hs J ?_
   exact ⟨b,([]),Rl22,ef hs,ef hs,j,h⟩
  have D:=hs.1
  refine sk [1,2,3,30,31,32] hs p ?_
  clear p
  apply An;intro K26 K
  apply Ar
  obtain ⟨aa,F,h⟩:=bind_some h
  obtain ⟨V,Y,w⟩:=Bl F
  have x:=Bn (f:=IX) w
  have hs:=Ae x hs
  refine rg [1,2,3,8,9,30,31,32] hs ?_
  apply An;intro K29 G
  obtain ⟨ad,h⟩:=Aw h
  obtain ⟨af,C,h⟩:=bind_some h
  refine rc 2 [1,2,3,8,9,10,30,31,32] hs ?_;intro K30 t
  refine EI _ (ih _ _ _ aa (a1+1) l b (ef hs) _ C) (hv hs) ?_;rintro _ _ ⟨rfl,rfl⟩
  refine ne hs t ?_
  clear t
  exact go (tg (a:=([1,2,3,8,9,10,30,31,32,43],([6],()),[1,2,3,8,9,30,31,32],(([25,1,2,3,30,31,32,69],([6],()),[1,2,3,30,31,32],[1,2,3,30,31,32],()),[25,1,2,3,30,31,32,69],[1,2,3,30,31,32],[1,2,3,30,31,32],()),[25,1,2,3,30,31,32,69],[1,2,3,30,31,32],[1,2,3,30,31,32],()))) h hs E k i c j (q1 (WE w0 hT n)) (q3 G K (fun e s=>Vl22 ml22 e s (Nat.lt_succ_self _)))
 ·clear h;rintro e st ⟨d,Xk18,Rk18,rfl,rfl,j,h⟩
  rw [Nx] at h
  refine A1 E k i X9 (CH c ev) j ow ow ?_
  exact go (tg (a:=([6],()))) h hs E k i c j trivial trivial
theorem TI (w0:World) (hT:Lib.Utf8Tabs 2 3 w0):∀ n:Nat,PX w0 (Iu n)
 | 0=>fun _ _ _ _ _ _ _ _ _ h=>(nomatch h)
 | n+1=>WB w0 hT (Iu n) (TI w0 hT n) n
def Hg  : List (Nat × Vl)→Int→Option Int
 | [],b1_r6 =>
  some (b1_r6)
 | p_r6::rest,b1_r6 =>
  if Bg (b1_r6+1) then
   (Hg  rest) (b1_r6+1)
  else none
def Ns (b:Vl):Option Int :=
 if b.depth<4611686018427387904∧b.wide=true then
  Hg  (FH 1 b) 0
 else none
theorem Za6 (w0:World) (B:Ao) (Rw:Av) (L:As) (a0:Vl) (r:Int) (h:Ns a0=some r) :
  ACalls Tryz.prog w0 195 [.agg (a0.cs)] ⟨B,Rw,L⟩ fun x st=>x=Am r∧st=⟨B,Rw,L⟩:=by
 rw [Ns] at h
 refine hd [.tmp 2] Tryz.func195 Tryz.ntmps195 fun M0 W0 y k j b G c hs=>?_
 simp only [AA]
 refine rg [1] hs ?_
 refine rg [1,3] hs ?_
 apply An;intro K3 e
 refine rc 2 [3,5] hs ?_;intro K4 d
 refine EI _ (QI w0 _ _ _ a0) (hv hs) ?_;rintro _ _ ⟨rfl,rfl⟩
 refine ne hs d ?_
 clear d
 apply Ar
 obtain ⟨p,h⟩:=Aw h
 refine Us (Je a0) (fun st=>st.boxes[(B.length+2)]? = some a0.cs) (fun i st=>∃ (a:Int) (Rr6:Av),st=⟨B++([a0.cs,[Am a],a0.cs]),Rr6,L⟩∧Owns Rw Rr6 []∧Hg  ((FH 1 a0).drop i) a=some r) (fun _ _=>False) ev ev (Oe w0 a0 p _) (fun x m=>S1 a0 x m) (by decide) ?_ ⟨0,Rw,ef hs,c,h⟩ (fun _ _ h=>h.elim) ?_ ?_ ?_
 ·rintro i st q ⟨a,Rr6,rfl,c,h⟩ _ _;simp +decide [St.push]
 ·rintro i F ⟨XB,XR,XL⟩ x M1 W1 l q D hX z n g m C K u
  obtain ⟨v,o,rfl,E⟩:=SH a0 i x m
  (try simp only at hX)
  subst hX
  obtain ⟨a,Rr6,rfl,c,h⟩:=z
  rw [W3 o,Hg] at h
  have f:=c
  simp only [St.ext,St.push,List.append_assoc,List.append_nil]
  refine LR (Du [3] _) ?_ (D2 _ _)
  apply EH;simp +decide only [go_sem,Nat.reduceAdd]
  (repeat' apply Ae)<;>first | refine u _ _ (by simp [St.ext,St.push]) (fun J t=>?_) | exact cl
  clear u
  dsimp only [St.ext,St.push]
  apply Ar
  obtain ⟨w,h⟩:=Aw h
  apply Au 1 [3]
  rw [Ap];simp +decide only [go_sem,Nat.reduceAdd]
  (repeat' apply Ae)<;>first | refine t _ _ _ ⟨⟨B++[a0.cs,[Am (a+1)],a0.cs],Rr6,L⟩,[],by first | rfl | (simp only [List.append_assoc,List.append_nil,List.cons_append,List.nil_append];done),⟨by simp,by first | exact Nat.le_refl _ | (have:=c.len;simp;omega),rfl⟩,rfl,⟨(a+1),Rr6,ef hs,c,h⟩,?_⟩ | exact cl
  exact .inl rfl
 ·rintro s q ⟨XB,XR,XL⟩ hXR ⟨a,Rr6,rfl,c,h⟩ _ _
  simp only at hXR
  subst hXR
  rw [List.drop_eq_nil_of_le (by rw [Of];exact Nat.le_refl _),Hg] at h
  simp only [St.ext,St.push,List.append_assoc,List.append_nil]
  (repeat' apply Ae)<;>first | refine e _ _ ?_ | exact cl
  clear e
  refine U9 (bs:=[a0.cs,[Am a],a0.cs]) y k j rfl b c ow ow ?_
  refine rg [2] hs ?_
  exact rt h hs b c
 ·rintro H s q X hX h;exact h.elim
def Dh (rec:Ty→Option Int) (n:Nat) (g:Int→Int→Option Int) (b:Int) (h:Int):Option Int :=
 if Bg (b+1) then
  g h (b+1)
 else none
def Dv (rec:Ty→Option Int) (n:Nat)  (b:Int):Option Int :=
 some ((if 4097<b then 4097 else b))
def Bm (rec:Ty→Option Int) (n:Nat) (q:Ty):Nat→Int→Int→Option Int
 | 0,_,_=>none
 | m+1,g,b =>
  if decide (b<(q.fields.length:Int)) then
   (Cj q.fields b).bind fun h =>
   if decide (h.2.2.1=1) then
    (rec h.2.2.2.1).bind fun z =>
    if Bg (g+z) then
     Dh rec n (Bm rec n q m) b (g+z)
    else none
   else
    if decide (h.2.2.1=3) then
     (Cj h.2.2.2.2 0).bind fun x39 =>
     (Ns x39).bind fun y =>
     if Bg (g+y) then
      Dh rec n (Bm rec n q m) b (g+y)
     else none
    else
     Dh rec n (Bm rec n q m) b g
  else
   Dv rec n g
def IJ (rec:Ty→Option Int) (n:Nat) (b:Ty):Option Int :=
 if decide (b.kind=8) then
  if decide (0<b.min) then
   (Cj b.elem 0).bind fun q =>
   (rec q).bind fun g =>
   if Bg (b.min*g) then
    if Bg (1+(b.min*g)) then
     Dv rec n (1+(b.min*g))
    else none
   else none
  else
   Dv rec n 1
 else
  if decide (b.kind=10) then
   (Cj b.fields 0).bind fun y =>
   (rec y.2.2.2.1).bind fun h =>
   if Bg (1+h) then
    Dv rec n (1+h)
   else none
  else
   if decide (b.kind=9) then
    Bm rec n b n 1 0
   else
    Dv rec n 1
def CN:Nat→Ty→Option Int
 | 0,_=>none
 | n+1,b=>IJ (CN n) n b
def K0 (w0:World) (F:Ty→Option Int):Prop:=∀ (B:Ao) (Rw:Av) (L:As) (b:Ty) (r:Int),F b=some r→ACalls Tryz.prog w0 173 [.agg (b.cs)] ⟨B,Rw,L⟩ fun x st=>x=Am r∧st=⟨B,Rw,L⟩
theorem P6 (w0:World) (rec:Ty→Option Int) (ih:K0 w0 rec) (n:Nat):K0 w0 (IJ rec n):=by
 intro B Rw L a0 r h
 rw [IJ] at h
 refine hd [.tmp 2] Tryz.func173 Tryz.ntmps173 fun M0 W0 p j i c t k hs=>?_
 simp only [AA]
 refine rg [1] hs ?_
 refine rg [1,3] hs ?_
 refine AB (fun e st=>∃ (g:Int),Ck e st B Rw L [(3,true,Am g)] [a0.cs] [] (Dv rec n g=some r)) ?_ ?_
 ·intro K5 l
  refine rg [1,3,7] hs ?_
  apply Ar
  refine rg [1,3,7,8] hs ?_
  refine B6 h hs ?_ ?_<;>intro hs h
  ·exact go (tg (a:=([1,3,12],([10,3],()),[3],()))) h hs p j i c k (q1 ih) (q1 l)
  refine rg [1,3,7,23] hs ?_
  refine B6 h hs ?_ ?_<;>intro hs h
  ·exact go (tg (a:=([3],()))) h hs p j i c k (q1 ih) (q1 l)
  refine rg [1,3,33] hs ?_
  refine B6 h hs ?_ ?_<;>intro hs h
  ·refine rg [3,36,37,38] hs ?_
   apply Ar
   refine AC (fun m e st=>∃ (d:Int) (b:Int),Ck e st B Rw L [(3,true,Am d),(36,true,.list (a0.fields.map BS) .none),(37,true,Am (a0.fields.length:Int)),(38,true,Am b)] [a0.cs] [] (Bm rec n a0 m d b=some r)) n ⟨1,0,([]),Rw,ef hs,ef hs,k,h⟩ ?_
   rintro ml23 e st ⟨d,b,Xl23,Rl23,rfl,rfl,k,h⟩ Ul23 Vl23
   cases ml23 with
   | zero=>cases h
   | succ ml23 =>
   rw [Bm] at h
   refine td p j i c k ?_
   refine rg [3,36,37,38,39] hs ?_
   apply An;intro K25 o
   refine B6 h hs ?_ ?_<;>intro hs h
   rotate_left
   ·refine sx [3] hs l ?_
    exact ⟨d,([]),Rl23,ef hs,ef hs,k,h⟩
   refine sk [3,36,37,38] hs o ?_
   clear o
   refine AB (fun e st=>∃ (f:Int),Ck e st B Rw L [(3,true,Am f),(36,true,.list (a0.fields.map BS) .none),(37,true,Am (a0.fields.length:Int)),(38,true,Am b)] [a0.cs] [] (Dh rec n (Bm rec n a0 ml23) b f=some r)) ?_ ?_
   ·intro K29 q
    exact go (tg (a:=([3,5,36,37,38],[3,5,36,37,38,43],[3,5,36,37,38,43,44],([3,36,37,38],()),[3,5,36,37,38,51],([3,36,37,38],()),[3,36,37,38],()))) h hs p j i c k (q2 ih (Za6 w0)) (q1 q)
   ·clear h;rintro e st ⟨f,Xk28,Rk28,rfl,rfl,k,h⟩
    rw [Dh] at h
    exact go (tg (a:=([3,36,37,38],()))) h hs p j i c k trivial (q1 (fun e s=>Vl23 ml23 e s (Nat.lt_succ_self _)))
  refine sk [3] hs l ?_
  exact ⟨1,([]),Rw,ef hs,ef hs,k,h⟩
 ·clear h;rintro e st ⟨g,Xk4,Rk4,rfl,rfl,k,h⟩
  rw [Dv] at h
  refine td p j i c k ?_
  refine rg [2] hs ?_
  exact rt h hs c k
theorem NA (w0:World):∀ n:Nat,K0 w0 (CN n)
 | 0=>fun _ _ _ _ _ h=>(nomatch h)
 | n+1=>P6 w0 (CN n) (NA w0 n) n
def G8 (rec:Ty→Option Int) (n:Nat)  (b:Int):Option Int :=
 some (b)
def BX (rec:Ty→Option Int) (n:Nat) (y:Ty):Nat→Int→Int→Option Int
 | 0,_,_=>none
 | m+1,g,b =>
  if decide (b<(y.fields.length:Int)) then
   (Cj y.fields b).bind fun q =>
   (rec q.2.2.2.1).bind fun h =>
   if Bg (b+1) then
    (BX rec n y m) ((if g<h then h else g)) (b+1)
   else none
  else
   G8 rec n g
def HA (rec:Ty→Option Int) (n:Nat) (g:Ty) (b:Int):Option Int :=
 BX rec n g n b 0
def Cf (rec:Ty→Option Int) (n:Nat) (q:Ty):Nat→Int→Int→Option Int
 | 0,_,_=>none
 | m+1,g,b =>
  if decide (b<(q.elem.length:Int)) then
   (Cj q.elem b).bind fun y =>
   (rec y).bind fun h =>
   if Bg (b+1) then
    (Cf rec n q m) ((if g<h then h else g)) (b+1)
   else none
  else
   HA rec n q g
def Gq (rec:Ty→Option Int) (n:Nat) (b:Ty):Option Int :=
 (CN n b).bind fun g =>
 Cf rec n b n g 0
def B5:Nat→Ty→Option Int
 | 0,_=>none
 | n+1,b=>Gq (B5 n) n b
def Is (w0:World) (F:Ty→Option Int):Prop:=∀ (B:Ao) (Rw:Av) (L:As) (b:Ty) (r:Int),F b=some r→ACalls Tryz.prog w0 83 [.agg (b.cs)] ⟨B,Rw,L⟩ fun x st=>x=Am r∧st=⟨B,Rw,L⟩
theorem Oa (w0:World) (rec:Ty→Option Int) (ih:Is w0 rec) (n:Nat):Is w0 (Gq rec n):=by
 intro B Rw L a0 r h
 rw [Gq] at h
 refine hd [.tmp 2] Tryz.func83 Tryz.ntmps83 fun M0 W0 t o l c x k hs=>?_
 simp only [AA]
 refine rg [1] hs ?_
 obtain ⟨w,v,h⟩:=bind_some h
 refine rc 2 [1,3] hs ?_;intro K2 p
 refine Ax _ (NA w0 n _ _ _ a0 _ v) (hv hs) ?_
 refine ne hs p ?_
 clear p
 refine AB (fun e st=>∃ (d:Int),Ck e st B Rw L [(1,true,.box B.length 0),(3,true,Am d)] [a0.cs] [] (HA rec n a0 d=some r)) ?_ ?_
 ·intro K6 u
  refine rg [1,3,11,12,13] hs ?_
  apply Ar
  refine AC (fun m e st=>∃ (j:Int) (g:Int),Ck e st B Rw L [(1,true,.box B.length 0),(3,true,Am j),(11,true,.list (a0.elem.map IX) .none),(12,true,Am (a0.elem.length:Int)),(13,true,Am g)] [a0.cs] [] (Cf rec n a0 m j g=some r)) n ⟨w,0,([]),Rw,ef hs,ef hs,k,h⟩ ?_
  rintro ml8 e st ⟨j,g,Xl8,Rl8,rfl,rfl,k,h⟩ Ul8 Vl8
  cases ml8 with
  | zero=>cases h
  | succ ml8 =>
  rw [Cf] at h
  exact go (tg (a:=([1,3,11,12,13,14],([1,3,11,12,13],[1,3,5,11,12,13],[1,3,11,12,13],[1,3,11,12,13],()),[1,3],()))) h hs t o l c k (q1 ih) (q2 u (fun e s=>Vl8 ml8 e s (Nat.lt_succ_self _)))
 ·clear h;rintro e st ⟨d,Xk5,Rk5,rfl,rfl,k,h⟩
  rw [HA] at h
  refine td t o l c k ?_
  refine AB (fun e st=>∃ (i:Int),Ck e st B Rw L [(3,true,Am i)] [a0.cs] [] (G8 rec n i=some r)) ?_ ?_
  ·intro K19 q
   refine rg [3,23,24,25] hs ?_
   apply Ar
   refine AC (fun m e st=>∃ (f:Int) (b:Int),Ck e st B Rw L [(3,true,Am f),(23,true,.list (a0.fields.map BS) .none),(24,true,Am (a0.fields.length:Int)),(25,true,Am b)] [a0.cs] [] (BX rec n a0 m f b=some r)) n ⟨d,0,([]),Rk5,ef hs,ef hs,k,h⟩ ?_
   rintro ml21 e st ⟨f,b,Xl21,Rl21,rfl,rfl,k,h⟩ Ul21 Vl21
   cases ml21 with
   | zero=>cases h
   | succ ml21 =>
   rw [BX] at h
   exact go (tg (a:=([3,23,24,25,26],([3,23,24,25],[3,7,23,24,25],[3,23,24,25],[3,23,24,25],()),[3],()))) h hs t o l c k (q1 ih) (q2 q (fun e s=>Vl21 ml21 e s (Nat.lt_succ_self _)))
  ·clear h;rintro e st ⟨i,Xk18,Rk18,rfl,rfl,k,h⟩
   rw [G8] at h
   refine td t o l c k ?_
   refine rg [2] hs ?_
   exact rt h hs c k
theorem Kv (w0:World):∀ n:Nat,Is w0 (B5 n)
 | 0=>fun _ _ _ _ _ h=>(nomatch h)
 | n+1=>Oa w0 (B5 n) (Kv w0 n) n
def E7 (n:Nat) (g:Ty):Option Int :=
 (Iu n g 1 4096).bind fun h =>
 if !(decide (h.1=0)) then
  some (h.1)
 else
  (B5 n g).bind fun b =>
  if decide (4096<b) then
   some (9)
  else
   some (0)
theorem LW (w0:World) (hT:Lib.Utf8Tabs 2 3 w0) (n:Nat) (B:Ao) (Rw:Av) (L:As) (a0:Ty) (r:Int) (h:E7 n a0=some r) :
  ACalls Tryz.prog w0 29 [.agg (a0.cs)] ⟨B,Rw,L⟩ fun x st=>x=Am r∧st=⟨B,Rw,L⟩:=by
 rw [E7] at h
 refine hd [.tmp 2] Tryz.func29 Tryz.ntmps29 fun M0 W0 j e d b l i hs=>?_
 simp only [AA]
 refine rg [1] hs ?_
 refine rg [1,3] hs ?_
 apply An;intro K3 g
 obtain ⟨k,c,h⟩:=bind_some h
 refine rc 2 [1,4] hs ?_;intro K4 f
 refine EI _ (TI w0 hT n _ _ _ a0 1 (B.length+1) 4096 ev _ c) (hv hs) ?_;rintro _ _ ⟨rfl,rfl⟩
 exact go (tg (a:=([1,4,8],([2],()),[1],[12],([2],()),[],[2],()))) h hs j e d b i (q1 (Kv w0 n)) (q2 f g)
def Zj (x:ByteArray):Int:=TM (Vl.mk 4 0 0 x [] [])
def Za:Option ByteArray→List ByteArray→Int
 | _,[]=>0
 | none,x::r=>if Zj x=0 then Za (some x) r else Zj x
 | some p,x::r=>if Zj x=0 then (if GP x p=true then 7 else if ZP x p=true then 24 else Za (some x) r) else Zj x
def YS (l:List ByteArray):Nat→Option ByteArray
 | 0=>none
 | i+1=>l[i]?
theorem Zes (x:ByteArray) (h:x.size≤1048576):(Vl.mk 4 0 0 x [] []).ok∧(Vl.mk 4 0 0 x [] []).size=1:=⟨by simp [Vl.ok,ZaL,ZaO,h],by simp [Vl.size,DV,Em]⟩
theorem Zip (n:Nat) (hn:4≤n) (x:ByteArray) (h:x.size≤1048576):Gj n (Lh x)=some (Zj x):=by
 obtain ⟨b,a⟩:=Zes x h
 have e:Lh x=Vl.mk 4 0 0 x [] []:=rfl
 rw [e]
 exact UX n _ (by rw [a];omega) (by rw [a];omega) b
theorem ZcE (n:Nat) (hn:4≤n) (t:Ty) (hl:t.words.length≤1000000000) (hz:∀ x∈t.words,x.size≤1048576):∀ (k m i:Nat),i+k=t.words.length→k<m→EL n t m i=some (Za (YS t.words i) (t.words.drop i))
 | k,0,i,_,h=>absurd h (Nat.not_lt_zero _)
 | 0,m+1,i,hi,_=>by
  rw [EL,AU,Ac]
  simp only [Bool.false_eq_true,if_false,Kz]
  rw [List.drop_eq_nil_of_le (by omega)]
  cases YS t.words i<;>rfl
 | k+1,m+1,i,hi,hm=>by
  have a:i<t.words.length:=by omega
  have ih:=ZcE n hn t hl hz k m (i+1) (by omega) (by omega)
  rw [EL,AU,Ah a]
  simp only [if_true,AN a,Af]
  rw [Zip n hn _ (hz _ (List.getElem_mem a)),List.drop_eq_getElem_cons a]
  simp only [Af]
  have c:YS t.words (i+1)=some t.words[i]:=by simp only [YS,List.getElem?_eq_getElem a]
  rw [c] at ih
  cases i with
  | zero =>
   simp only [YS,Za]
   by_cases hb:Zj t.words[0]=0
   ·rw [Ai hb,Ah hb]
    simp only [Bool.not_true,Bool.false_eq_true,if_false]
    rw [Aj (by decide),Ai (AW (by omega))]
    exact ih
   ·rw [Aj hb,Ag hb];rfl
  | succ j =>
   have b:j<t.words.length:=by omega
   have d:YS t.words (j+1)=some t.words[j]:=by simp only [YS,List.getElem?_eq_getElem b]
   rw [d]
   simp only [Za]
   by_cases hb:Zj t.words[j+1]=0
   ·rw [Ai hb,Ah hb]
    simp only [Bool.not_true,Bool.false_eq_true,if_false,ZJ,if_true,XA]
    have e:Bg (j:Int):=ZF (by omega)
    simp only [Ai e,AN b,Af]
    by_cases h1:GP t.words[j+1] t.words[j]=true
    ·rw [Ai h1,Ai h1]
    ·rw [Aj h1,Aj h1]
     by_cases h2:ZP t.words[j+1] t.words[j]=true
     ·rw [Ai h2,Ai h2]
     ·rw [Aj h2,Aj h2,Ai (AW (by omega))]
      exact ih
   ·rw [Aj hb,Ag hb];rfl
def Nw (t:Ty):Int:=if t.min≠0∨t.max≠0 then 3 else if 64<t.words.length then 9 else Za none t.words
theorem Z8 (n:Nat) (hn:4≤n) (t:Ty) (hw:t.words.length<n) (hl:t.words.length≤1000000000) (hz:∀ x∈t.words,x.size≤1048576):Ln n t=some (Nw t):=by
 have e:=ZcE n hn t hl hz t.words.length n 0 (by omega) hw
 rw [List.drop_zero] at e
 rw [Ln,Nw]
 by_cases h:t.min≠0∨t.max≠0
 ·rw [Ai h,Ai (by simpa using h)]
 ·rw [Aj h,Aj (by simpa using h)]
  by_cases h2:64<t.words.length
  ·rw [Ai h2,Ai (Ah (by omega))]
  ·rw [Aj h2,Aj (by rw [decide_eq_true_eq];omega)]
   exact e
theorem W6 (n:Nat) (l:List TF) (p:TF→Bool) (hl:l.length≤1000000000) (hn:l.length<n):AL n l (fun x=>some (p x))=some (l.any p):=by
 have e:=P1 n l p hl l.length n 0 (by omega) hn
 have a:A5 n l (fun x=>some (p x))=some (Oh p l 0):=e
 rw [AL,a,Af]
 congr 1
 have := @List.findIdx_lt_length _ p l
 unfold Oh
 rw [List.drop_zero]
 by_cases h:l.findIdx p<l.length
 ·rw [Ai h,Ad,List.any_eq_true.2 (this.1 h)]
 ·rw [Aj h,Ac]
  exact (Bool.eq_false_iff.2 fun q=>h (this.2 (List.any_eq_true.1 q))).symm
def Ky (k:Int) (b:List TF) (x:TF):Int :=
 if EK x.2.1=true then
  if ¬ (1≤x.1∧x.1≤9999) then 2
  else if (b.any fun q=>Dl q x)=true then 7
  else if ¬ (1≤x.2.2.1∧x.2.2.1≤3)∨(k=10∧x.2.2.1≠1) then 11
  else if x.2.2.1=3∧x.2.2.2.2.length=0 then 4
  else if 1<x.2.2.2.2.length∨(x.2.2.1≠3∧0<x.2.2.2.2.length) then 3
  else 0
 else 12
def H5 (k:Int):List TF→List TF→Int
 | _,[]=>0
 | b,x::r=>if Ky k b x=0 then H5 k (b++[x]) r else Ky k b x
theorem VH {α:Type} (l:List α) (i:Nat) (h:i<l.length):l.take i++[l[i]]=l.take (i+1):=by rw [List.take_succ_eq_append_getElem h]
theorem Zax (n:Nat) (t:Ty) (i:Nat) (h:i<t.fields.length) (hl:t.fields.length≤1000000000) (hn:t.fields.length<n) (hz:∀ p∈t.fields,p.2.1.size≤1048576):LC n t i=some (Ky t.kind (t.fields.take i) t.fields[i]):=by
 rw [LC,AN h]
 simp only [Af]
 rw [Ai (Yz (by have:=hz _ (List.getElem_mem h);omega)),Ky,Int.toNat_natCast,W6 n _ _ (by rw [List.length_take];omega) (by rw [List.length_take];omega)]
 simp only [Af]
 by_cases h1:EK t.fields[i].2.1=true
 rotate_left
 ·rw [Aj h1,Bool.eq_false_iff.2 h1];rfl
 rw [Ai h1,h1]
 simp only [Bool.not_true,Bool.false_eq_true,if_false]
 by_cases h2:1≤t.fields[i].1∧t.fields[i].1≤9999
 rotate_left
 ·rw [Ai (show (!(decide (1≤t.fields[i].1)&&decide (t.fields[i].1≤9999)))=true by simp;omega),Ai h2]
 rw [Aj (show ¬ (!(decide (1≤t.fields[i].1)&&decide (t.fields[i].1≤9999)))=true by simp;omega),Aj (fun q:¬ _=>q h2),Ab]
 by_cases h3:((t.fields.take i).any fun q=>Dl q t.fields[i])=true
 ·rw [Ai h3,Ai h3]
 rw [Aj h3,Aj h3]
 by_cases h4:¬ (1≤t.fields[i].2.2.1∧t.fields[i].2.2.1≤3)∨(t.kind=10∧t.fields[i].2.2.1≠1)
 ·rw [Ai h4,Ai (by simp;omega)]
 rw [Aj h4,Aj (by simp;omega)]
 by_cases h5:t.fields[i].2.2.1=3∧t.fields[i].2.2.2.2.length=0
 ·rw [Ai h5,Ai (by simp;exact ⟨h5.1,List.length_eq_zero_iff.1 h5.2⟩)]
 rw [Aj h5,Aj (by simp;intro a b;exact h5 ⟨a,by rw [b];rfl⟩)]
 by_cases h6:1<t.fields[i].2.2.2.2.length∨(t.fields[i].2.2.1≠3∧0<t.fields[i].2.2.2.2.length)
 ·rw [Ai h6,Ai (by simp only [Bool.or_eq_true,Bool.and_eq_true,decide_eq_true_eq,Bool.not_eq_true',decide_eq_false_iff_not];omega)]
 ·rw [Aj h6,Aj (by simp only [Bool.or_eq_true,Bool.and_eq_true,decide_eq_true_eq,Bool.not_eq_true',decide_eq_false_iff_not];omega)]
theorem Xa (n:Nat) (t:Ty) (hl:t.fields.length≤1000000000) (hn:t.fields.length<n) (hz:∀ p∈t.fields,p.2.1.size≤1048576):∀ (k m i:Nat),i+k=t.fields.length→k<m→Hj n t m i=some (H5 t.kind (t.fields.take i) (t.fields.drop i))
 | k,0,i,_,h=>absurd h (Nat.not_lt_zero _)
 | 0,m+1,i,hi,_=>by
  rw [Hj,AU,Ac]
  rw [List.drop_eq_nil_of_le (by omega)];rfl
 | k+1,m+1,i,hi,hm=>by
  have a:i<t.fields.length:=by omega
  rw [Hj,AU,Ah a,Zax n t i a hl hn hz,List.drop_eq_getElem_cons a,H5]
  simp only [if_true,Af]
  by_cases h:Ky t.kind (t.fields.take i) t.fields[i]=0
  ·rw [Ah h,Ai h]
   simp only [Bool.not_true,Bool.false_eq_true,if_false]
   rw [Ai (AW (by omega)),VH _ _ a]
   exact Xa n t hl hn hz k m (i+1) (by omega) (by omega)
  ·rw [Ag h,Aj h];rfl
def PK (t:Ty):Int :=
 if t.kind<1∨10<t.kind then 11
 else if A8 t=true then 3
 else if t.kind=4∧0<t.words.length then Nw t
 else if ((2≤t.kind∧t.kind≤8)∧BM t (AO t.kind).1 (AO t.kind).2=false)∨¬ (0≤t.scale∧t.scale≤12) then 2
 else if (t.kind=8∧t.elem.length=0)∨(t.kind=10∧t.fields.length=0) then 4
 else if 1<t.elem.length then 3
 else if 64<t.fields.length then 9
 else H5 t.kind [] t.fields
def Ty.fit (t:Ty) (n:Nat):Prop:=4≤n∧t.words.length<n∧t.fields.length<n∧t.words.length≤1000000000∧t.fields.length≤1000000000∧t.elem.length≤1000000000∧(∀ x∈t.words,x.size≤1048576)∧∀ p∈t.fields,p.2.1.size≤1048576
def RA (k:Int):Lim:=(Hm[k.toNat]?).getD (Lim.mk ⟨#[]⟩ 0 0 false false false false false)
theorem ZeU (k:Int) (h:¬ (k<1∨10<k)):Cj Hm k=some (RA k):=by
 rcases Ha h with hk | hk | hk | hk | hk | hk | hk | hk | hk | hk<;>subst hk<;>rfl
theorem ZeZ (t:Ty) (h:¬ (t.kind<1∨10<t.kind)):J0 t (RA t.kind)=if A8 t=true then 3 else 0:=by
 have a:∀ x:Nat,decide (0<(x:Int)) = !decide ((x:Int)=0):=fun x=>by
  by_cases h:x=0
  ·subst h;rfl
  ·rw [Ah (show 0<(x:Int) by omega),Ag (show ¬ (x:Int)=0 by omega)];rfl
 have b:decide (t.min=0)=true∨decide (t.min=0)=false:=by cases decide (t.min=0)<;>simp
 rw [J0,A8]
 simp only [a,Ho]
 generalize decide (t.min=0)=b1
 generalize decide (t.max=0)=b2
 generalize decide (t.scale=0)=b3
 generalize decide ((t.words.length:Int)=0)=b4
 generalize decide ((t.elem.length:Int)=0)=b5
 generalize decide ((t.fields.length:Int)=0)=b6
 clear b a
 rcases Ha h with hk | hk | hk | hk | hk | hk | hk | hk | hk | hk<;>simp only [hk]<;>cases b1<;>cases b2<;>cases b3<;>cases b4<;>cases b5<;>cases b6<;>rfl
theorem ZeY (n:Nat) (t:Ty) (h:t.fit n):Po n t=some (PK t):=by
 obtain ⟨r,p,m,u,y,F,C,s⟩:=h
 have D:=Z8 n r t p u C
 have k:=Xa n t y m s t.fields.length n 0 (by omega) m
 rw [List.drop_zero,List.take_zero] at k
 have f:Hj n t n 0=some (H5 t.kind [] t.fields):=k
 have x:Hh n t false=some (if 1<t.elem.length∧t.kind=8 then 3 else if 64<t.fields.length then 9 else H5 t.kind [] t.fields):=by
  rw [Hh,Aj (by decide)]
  by_cases q:1<t.elem.length∧t.kind=8
  ·rw [Ai q,Ai (by simp only [Bool.and_eq_true,decide_eq_true_eq];omega)]
  ·rw [Aj q,Aj (by simp only [Bool.and_eq_true,decide_eq_true_eq];omega)]
   by_cases q2:64<t.fields.length
   ·rw [Ai q2,Ai (Ah (by omega))]
   ·rw [Aj q2,Aj (by rw [decide_eq_true_eq];omega),f]
 have l:Hh n t true=some 4:=by rw [Hh,Ai rfl]
 have j:¬ A8 t=true→JH n t=some (if (t.kind=8∧t.elem.length=0)∨(t.kind=10∧t.fields.length=0) then 4 else if 1<t.elem.length then 3 else if 64<t.fields.length then 9 else H5 t.kind [] t.fields):=fun o=>by
  have v:1<t.elem.length→t.kind=8:=fun q=>by
   by_cases k8:t.kind=8
   ·exact k8
   ·exfalso;apply o;rw [A8,Ag k8,Ah (show 0<(t.elem.length:Int) by omega)];simp
  rw [JH]
  by_cases q1:t.kind=8∧t.elem.length=0
  ·rw [Ai (by simp only [Bool.and_eq_true,decide_eq_true_eq];omega),l,Ai (.inl q1)]
  rw [Aj (by simp only [Bool.and_eq_true,decide_eq_true_eq];omega)]
  by_cases q2:t.kind=10∧t.fields.length=0
  ·rw [Ah q2.1,Ah (show (t.fields.length:Int)=0 by omega),show (true&&true)=true from rfl,l,Ai (.inr q2)]
  ·have e:(decide (t.kind=10)&&decide ((t.fields.length:Int)=0))=false:=by
    rw [Bool.eq_false_iff];simp only [ne_eq,Bool.and_eq_true,decide_eq_true_eq];omega
   rw [e,x,Aj (show ¬ ((t.kind=8∧t.elem.length=0)∨(t.kind=10∧t.fields.length=0)) by omega)]
   by_cases q3:1<t.elem.length
   ·rw [Ai ⟨q3,v q3⟩,Ai q3]
   ·rw [Aj (fun q=>q3 q.1),Aj q3]
 rw [Po,PK]
 by_cases q1:t.kind<1∨10<t.kind
 ·rw [Ai q1,Ai (by simp;omega)]
 rw [Aj q1,Aj (by simp;omega),ZeU _ q1]
 simp only [Af]
 rw [ZeZ t q1]
 by_cases q2:A8 t=true
 ·rw [Ai q2,Ai q2];rfl
 rw [Aj q2,Aj q2,Aj (by decide)]
 have d:=j q2
 by_cases q3:t.kind=4∧0<t.words.length
 ·rw [Ai q3,Ai (by simp only [Bool.and_eq_true,decide_eq_true_eq];omega),D]
  simp only [Af]
  by_cases z:Nw t=0
  ·rw [Ah z,z,Aj (by decide),d]
   have G:t.elem.length=0:=by
    rcases Nat.eq_zero_or_pos t.elem.length with e | e
    ·exact e
    ·exfalso;apply q2;rw [A8,Ag (show ¬ t.kind=8 by omega),Ah (show 0<(t.elem.length:Int) by omega)];simp
   have E:t.fields.length=0:=by
    rcases Nat.eq_zero_or_pos t.fields.length with e | e
    ·exact e
    ·exfalso;apply q2;rw [A8,Ag (show ¬ t.kind=9 by omega),Ag (show ¬ t.kind=10 by omega),Ah (show 0<(t.fields.length:Int) by omega)];simp
   rw [Aa,Aa,Aa,List.length_eq_zero_iff.1 E];rfl
  ·rw [Ag z];rfl
 rw [Aj q3,Aj (by simp only [Bool.and_eq_true,decide_eq_true_eq];omega)]
 have i:t.kind≠3→t.scale=0:=fun c=>by
  by_cases z:t.scale=0
  ·exact z
  ·exfalso;apply q2;rw [A8,Ag c,Ag z];simp
 have w:((RA t.kind).bounds&&(((decide (t.max<t.min))||(decide (t.min<(RA t.kind).low)))||(decide ((RA t.kind).high<t.max))))=((decide (2≤t.kind∧t.kind≤8)) && !(BM t (AO t.kind).1 (AO t.kind).2)):=by
  have g1:∀ a b:Int,decide (a<b) = !decide (b≤a):=fun a b=>by
   by_cases q:a<b
   ·rw [Ah q,Ac];rfl
   ·rw [Ag q,Ad];rfl
  simp only [g1,BM]
  rcases Ha q1 with hk | hk | hk | hk | hk | hk | hk | hk | hk | hk<;>simp only [hk] <;>
   simp [RA,Hm,AO,ME,KW,Bool.or_comm,Bool.or_left_comm,Bool.or_assoc]
 have hs:(RA t.kind).scale=decide (t.kind=3):=by
  rcases Ha q1 with hk | hk | hk | hk | hk | hk | hk | hk | hk | hk<;>simp only [hk]<;>rfl
 rw [w,hs]
 by_cases q4:(2≤t.kind∧t.kind≤8)∧BM t (AO t.kind).1 (AO t.kind).2=false
 ·rw [Ah q4.1,Ai (Or.inl q4),q4.2];rfl
 have g:(decide (2≤t.kind∧t.kind≤8) && !(BM t (AO t.kind).1 (AO t.kind).2))=false:=by
  rw [Bool.eq_false_iff];simp only [ne_eq,Bool.and_eq_true,decide_eq_true_eq,Bool.not_eq_true'];exact q4
 rw [g,Aj (by decide)]
 by_cases q5:¬ (0≤t.scale∧t.scale≤12)
 ·have c:t.kind=3:=by
   by_cases c:t.kind=3
   ·exact c
   ·exact absurd (i c) (by omega)
  have e:(decide (t.kind=3) && !(decide (0≤t.scale)&&decide (t.scale≤12)))=true:=by simp [c];omega
  rw [Ai (Or.inr q5),e];rfl
 ·have e:(decide (t.kind=3) && !(decide (0≤t.scale)&&decide (t.scale≤12)))=false:=by
   rw [Bool.eq_false_iff];simp;omega
  rw [Aj (fun q:_∨_=>q.elim q4 q5),e,Lo,Aj (by decide),d]
inductive Ty.Good:Ty→Prop
 | mk (t:Ty) (h:PK t=0) (he:∀ x∈t.elem,Ty.Good x) (hf:∀ p∈t.fields,Ty.Good p.2.2.2.1):Ty.Good t
inductive Vl.Good:Vl→Prop
 | mk (v:Vl) (h:EX v=0) (hp:∀ x∈BH v,Vl.Good x):Vl.Good v
theorem XH:∀ (l:List (Nat × Vl)) (c:Int),Uo l c=0→∀ p∈l,EX p.2=0
 | [],_,_,p,hp=>by simp at hp
 | q::r,c,h,p,hp=>by
  rw [Uo] at h
  split at h
  ·cases h
  ·split at h
   ·cases h
   ·split at h
    ·rename_i h0
     rcases List.mem_cons.1 hp with rfl | hp
     ·exact h0
     ·exact XH r (c+1) h p hp
    ·rename_i h0;exact absurd h h0
theorem QC:∀ (k:Nat) (v:Vl) (lv:Nat),v.size≤k→(∀ p∈FH lv v,EX p.2=0)→v.Good
 | 0,v,lv,h,_=>absurd h (by have:=v.size_eq;omega)
 | k+1,v,lv,h,hp=>by
  rw [Pe] at hp
  refine .mk v (hp (lv,v) (List.mem_cons_self ..)) fun x a=>?_
  have:=LP a
  exact QC k x (lv+1) (by omega) fun p b=>hp p (List.mem_cons_of_mem _ (List.mem_flatMap.2 ⟨x,a,b⟩))
theorem X2 {v:Vl} (h:TM v=0):v.Good:=QC v.size v 1 (Nat.le_refl _) (XH _ _ h)
theorem UA {v:Vl} (h:EX v=0):¬ (v.kind<1∨10<v.kind)∧¬ Dm v=true:=by
 rw [EX] at h
 by_cases h1:EW v=true
 ·rw [Ai h1] at h;exact absurd h (by decide)
 rw [Aj h1] at h
 by_cases h2:v.kind<1∨10<v.kind
 ·rw [Ai h2] at h;exact absurd h (by decide)
 rw [Aj h2] at h
 by_cases h3:Dm v=true
 ·rw [Ai h3] at h;exact absurd h (by decide)
 exact ⟨h2,h3⟩
theorem Qq {t:Ty} (h:PK t=0):¬ (t.kind<1∨10<t.kind)∧¬ A8 t=true∧¬ ((t.kind=8∧t.elem.length=0)∨(t.kind=10∧t.fields.length=0)):=by
 rw [PK] at h
 by_cases h1:t.kind<1∨10<t.kind
 ·rw [Ai h1] at h;exact absurd h (by decide)
 rw [Aj h1] at h
 by_cases h2:A8 t=true
 ·rw [Ai h2] at h;exact absurd h (by decide)
 rw [Aj h2] at h
 refine ⟨h1,h2,?_⟩
 by_cases h3:t.kind=4∧0<t.words.length
 ·omega
 rw [Aj h3] at h
 by_cases h4:((2≤t.kind∧t.kind≤8)∧BM t (AO t.kind).1 (AO t.kind).2=false)∨¬ (0≤t.scale∧t.scale≤12)
 ·rw [Ai h4] at h;exact absurd h (by decide)
 rw [Aj h4] at h
 by_cases h5:(t.kind=8∧t.elem.length=0)∨(t.kind=10∧t.fields.length=0)
 ·rw [Ai h5] at h;exact absurd h (by decide)
 exact h5
theorem Ty.scale0 {t:Ty} (h:¬ A8 t=true) (k:t.kind≠3):t.scale=0:=by
 by_cases z:t.scale=0
 ·exact z
 ·exfalso;apply h;rw [A8,Ag k,Ag z];simp
theorem Vl.scale0 {v:Vl} (h:¬ Dm v=true) (k:v.kind≠3):v.scale=0:=by
 by_cases z:v.scale=0
 ·exact z
 ·exfalso;apply h;rw [Dm,Ag k,Ag z];simp
theorem LY {α:Type} (p:α→Bool) (l:List α):decide (0≤Oh p l 0)=l.any p:=by
 have := @List.findIdx_lt_length _ p l
 unfold Oh
 rw [List.drop_zero]
 by_cases h:l.findIdx p<l.length
 ·rw [Ai h,Ad,List.any_eq_true.2 (this.1 h)]
 ·rw [Aj h,Ac]
  exact (Bool.eq_false_iff.2 fun q=>h (this.2 (List.any_eq_true.1 q))).symm
theorem Zeg {α:Type} (p:α→Bool) (l:List α):decide (Oh p l 0<0) = !l.any p:=by
 rw [←LY]
 by_cases h:0≤Oh p l 0
 ·rw [Ah h,Ac];rfl
 ·rw [Ag h,Ad];rfl
theorem Zcs (n:Nat) (l:List (Vl)) (f:Vl→Option Bool) (p:Vl→Bool) (hf:∀ x∈l,f x=some (p x)) (hl:l.length≤1000000000):∀ (k m i:Nat),i+k=l.length→k<m→Bz n l f m i=some (Oh p l i)
 | k,0,i,_,h=>absurd h (Nat.not_lt_zero _)
 | 0,m+1,i,hi,_=>by
  rw [Bz,AU,Ac,Ju p l i (by omega)]
  rfl
 | k+1,m+1,i,hi,hm=>by
  have a:i<l.length:=by omega
  rw [Bz,AU,Ah a,H3 p l i a]
  simp only [if_true,AN a,Af,hf _ (List.getElem_mem a)]
  by_cases h:p l[i]=true
  ·rw [Ai h,Ai h]
  ·rw [Aj h,Aj h,Ai (AW (by omega))]
   exact Zcs n l f p hf hl k m (i+1) (by omega) (by omega)
theorem ZcT (n:Nat) (l:List (ByteArray × Vl)) (f:ByteArray × Vl→Option Bool) (p:ByteArray × Vl→Bool) (hf:∀ x∈l,f x=some (p x)) (hl:l.length≤1000000000):∀ (k m i:Nat),i+k=l.length→k<m→Bt n l f m i=some (Oh p l i)
 | k,0,i,_,h=>absurd h (Nat.not_lt_zero _)
 | 0,m+1,i,hi,_=>by
  rw [Bt,AU,Ac,Ju p l i (by omega)]
  rfl
 | k+1,m+1,i,hi,hm=>by
  have a:i<l.length:=by omega
  rw [Bt,AU,Ah a,H3 p l i a]
  simp only [if_true,AN a,Af,hf _ (List.getElem_mem a)]
  by_cases h:p l[i]=true
  ·rw [Ai h,Ai h]
  ·rw [Aj h,Aj h,Ai (AW (by omega))]
   exact ZcT n l f p hf hl k m (i+1) (by omega) (by omega)
theorem ZcU (n:Nat) (l:List (TF)) (f:TF→Option Bool) (p:TF→Bool) (hf:∀ x∈l,f x=some (p x)) (hl:l.length≤1000000000):∀ (k m i:Nat),i+k=l.length→k<m→AK n l f m i=some (Oh p l i)
 | k,0,i,_,h=>absurd h (Nat.not_lt_zero _)
 | 0,m+1,i,hi,_=>by
  rw [AK,AU,Ac,Ju p l i (by omega)]
  rfl
 | k+1,m+1,i,hi,hm=>by
  have a:i<l.length:=by omega
  rw [AK,AU,Ah a,H3 p l i a]
  simp only [if_true,AN a,Af,hf _ (List.getElem_mem a)]
  by_cases h:p l[i]=true
  ·rw [Ai h,Ai h]
  ·rw [Aj h,Aj h,Ai (AW (by omega))]
   exact ZcU n l f p hf hl k m (i+1) (by omega) (by omega)
theorem ZbN (n:Nat) (l:List ByteArray) (w:ByteArray) (hl:(l).length≤1000000000):∀ (k m i:Nat),i+k=(l).length→k<m→BW n l w m i=some (Oh (fun x=>GP w x) (l) i)
 | k,0,i,_,h=>absurd h (Nat.not_lt_zero _)
 | 0,m+1,i,hi,_=>by
  rw [BW,AU,Ac,Ju _ (l) i (by omega)]
  rfl
 | k+1,m+1,i,hi,hm=>by
  have a:i<(l).length:=by omega
  rw [BW,AU,Ah a,H3 _ (l) i a]
  simp only [if_true,AN a,Af]
  by_cases h:(fun x=>GP w x) (l)[i]=true
  ·rw [Ai h,Ai h]
  ·rw [Aj h,Aj h,Ai (AW (by omega))]
   exact ZbN n l w hl k m (i+1) (by omega) (by omega)
theorem V6 (n:Nat) (l:List ByteArray) (w:ByteArray) (hl:l.length≤1000000000) (hn:l.length<n):CS n l w=some (l.any fun x=>GP w x):=by
 have e:FA n l w=some (Oh (fun x=>GP w x) l 0):=ZbN n l w hl l.length n 0 (by omega) hn
 rw [CS,e,Af,LY]
theorem Wa (n:Nat) (l:List Vl) (f:Vl→Option Bool) (p:Vl→Bool) (hf:∀ x∈l,f x=some (p x)) (hl:l.length≤1000000000) (hn:l.length<n):B1 n l f=some (l.any p):=by
 have e:D7 n l f=some (Oh p l 0):=Zcs n l f p hf hl l.length n 0 (by omega) hn
 rw [B1,e,Af,LY]
theorem Vw (n:Nat) (l:List TF) (f:TF→Option Bool) (p:TF→Bool) (hf:∀ x∈l,f x=some (p x)) (hl:l.length≤1000000000) (hn:l.length<n):AL n l f=some (l.any p):=by
 have e:A5 n l f=some (Oh p l 0):=ZcU n l f p hf hl l.length n 0 (by omega) hn
 rw [AL,e,Af,LY]
def Zbx (v:Vl) (w:ByteArray):Bool:=v.fields.any fun x=>GP x.1 w
theorem ZaK (n:Nat) (v:Vl) (w:ByteArray) (hk:v.kind=9) (hs:v.size≤1000000000) (hn:v.size<n):∃ u,LA n v w=some (u,Zbx v w):=by
 have a:=N1 v
 have e:CW n v.fields (fun x=>some (Hq x w))=some (Oh (fun x:ByteArray × Vl=>GP x.1 w) v.fields 0):=ZcT n v.fields _ _ (fun x _=>rfl) (by omega) v.fields.length n 0 (by omega) (by omega)
 rw [LA,NF,e]
 simp only [Af]
 rw [Ah hk,Zeg]
 cases h:Zbx v w with
 | false =>
  unfold Zbx at h
  rw [h]
  exact ⟨_,rfl⟩
 | true =>
  unfold Zbx at h
  rw [h]
  simp only [Bool.not_true,Bool.or_self,Bool.false_eq_true,if_false]
  rcases PV (fun x:ByteArray × Vl=>GP x.1 w) v.fields v.fields.length 0 (by omega) with q | ⟨i,hi,q,_⟩
  ·have:=LY (fun x:ByteArray × Vl=>GP x.1 w) v.fields
   rw [q,h] at this
   cases this
  ·rw [q,AN hi]
   simp only [Af]
   have:=v.field_size _ (List.getElem_mem hi)
   rw [P4 n _ (by omega) (by omega)]
   exact ⟨_,rfl⟩
theorem Zay (a b:ByteArray):GP a b=GP b a:=by rw [Bool.eq_iff_iff,Re,Re];exact eq_comm
def Xo (t:Ty) (k:Nat):Bool:=decide (t.min≤(k:Int))&&decide ((k:Int)≤t.max)
def Zbw (v:Vl) (x:TF):Bool:=(!Zbx v x.2.1)&&(!(decide (x.2.2.1=2)))
theorem Ty.small_elem {t x:Ty} (h:t.small) (hx:x∈t.elem):x.small:=by
 obtain ⟨f,g,e⟩:=h
 have a:=t.elem_size x hx
 have b:=t.depth_eq
 have c:=(Iw t.elem (GT t.elem)).1 (Nat.le_refl _) x hx
 have d:GT t.elem≤Max.max (GT t.elem) (E2 t.fields):=Nat.le_max_left _ _
 exact ⟨by omega,by omega,(t.ok_eq.1 e).2.2.1 x hx⟩
theorem Ty.small_field {t:Ty} {p:TF} (h:t.small) (hx:p∈t.fields):p.2.2.2.1.small:=by
 obtain ⟨f,g,e⟩:=h
 have a:=t.field_size p hx
 have b:=t.depth_eq
 have c:=(Hr t.fields (E2 t.fields)).1 (Nat.le_refl _) p hx
 have d:E2 t.fields≤Max.max (GT t.elem) (E2 t.fields):=Nat.le_max_right _ _
 exact ⟨by omega,by omega,((t.ok_eq.1 e).2.2.2 p hx).2.1⟩
theorem Le {t x:Ty} (h:t.Good) (hx:x∈t.elem):x.Good:=by cases h with | mk _ a b c=>exact b x hx
theorem FI {t:Ty} {p:TF} (h:t.Good) (hx:p∈t.fields):p.2.2.2.1.Good:=by cases h with | mk _ a b c=>exact c p hx
theorem S9 {t:Ty} (h:t.Good):PK t=0:=by cases h with | mk _ a b c=>exact a
theorem Ql {v:Vl} (h:v.Good):EX v=0:=by cases h with | mk _ a b=>exact a
theorem OH {v x:Vl} (h:v.Good) (hx:x∈BH v):x.Good:=by cases h with | mk _ a b=>exact b x hx
def TC (k:Int) (x:TF):Prop:=(1≤x.2.2.1∧x.2.2.1≤3)∧(k=10→x.2.2.1=1)∧(x.2.2.1=3→x.2.2.2.2.length=1)∧(x.2.2.1≠3→x.2.2.2.2.length=0)
theorem Yu {k:Int} {b:List TF} {x:TF} (h:Ky k b x=0):TC k x:=by
 rw [Ky] at h
 by_cases h1:EK x.2.1=true
 rotate_left
 ·rw [Aj h1] at h;exact absurd h (by decide)
 rw [Ai h1] at h
 by_cases h2:¬ (1≤x.1∧x.1≤9999)
 ·rw [Ai h2] at h;exact absurd h (by decide)
 rw [Aj h2] at h
 by_cases h3:(b.any fun q=>Dl q x)=true
 ·rw [Ai h3] at h;exact absurd h (by decide)
 rw [Aj h3] at h
 by_cases h4:¬ (1≤x.2.2.1∧x.2.2.1≤3)∨(k=10∧x.2.2.1≠1)
 ·rw [Ai h4] at h;exact absurd h (by decide)
 rw [Aj h4] at h
 by_cases h5:x.2.2.1=3∧x.2.2.2.2.length=0
 ·rw [Ai h5] at h;exact absurd h (by decide)
 rw [Aj h5] at h
 by_cases h6:1<x.2.2.2.2.length∨(x.2.2.1≠3∧0<x.2.2.2.2.length)
 ·rw [Ai h6] at h;exact absurd h (by decide)
 unfold TC
 omega
theorem QK {k:Int}:∀ (l b:List TF),H5 k b l=0→∀ x∈l,TC k x
 | [],_,_,x,hx=>by simp at hx
 | y::r,b,h,x,hx=>by
  rw [H5] at h
  by_cases q:Ky k b y=0
  ·rw [Ai q] at h
   rcases List.mem_cons.1 hx with rfl | hx
   ·exact Yu q
   ·exact QK r _ h x hx
  ·rw [Aj q] at h;exact absurd h q
theorem YW {t:Ty} (h:¬ A8 t=true):(t.kind≠8→t.elem.length=0)∧(t.kind≠9→t.kind≠10→t.fields.length=0):=by
 refine ⟨fun k=>?_,fun b a=>?_⟩
 ·rcases Nat.eq_zero_or_pos t.elem.length with e | e
  ·exact e
  ·exfalso;apply h;rw [A8,Ag k,Ah (show 0<(t.elem.length:Int) by omega)];simp
 ·rcases Nat.eq_zero_or_pos t.fields.length with e | e
  ·exact e
  ·exfalso;apply h;rw [A8,Ag b,Ag a,Ah (show 0<(t.fields.length:Int) by omega)];simp
theorem RD {t:Ty} (h:PK t=0):¬ (t.kind<1∨10<t.kind)∧(t.kind≠8→t.elem.length=0)∧(t.kind=8→t.elem.length=1∧0≤t.min∧t.min≤256)∧(t.kind≠9→t.kind≠10→t.fields.length=0)∧(t.kind=10→0<t.fields.length)∧∀ x∈t.fields,TC t.kind x:=by
 obtain ⟨a,b,d⟩:=Qq h
 obtain ⟨n1,n2⟩:=YW b
 rw [PK,Aj a,Aj b] at h
 by_cases h3:t.kind=4∧0<t.words.length
 ·have:=n2 (by omega) (by omega)
  have e:t.fields=[]:=List.length_eq_zero_iff.1 this
  exact ⟨a,n1,by omega,n2,by omega,by rw [e];simp⟩
 rw [Aj h3] at h
 by_cases h4:((2≤t.kind∧t.kind≤8)∧BM t (AO t.kind).1 (AO t.kind).2=false)∨¬ (0≤t.scale∧t.scale≤12)
 ·rw [Ai h4] at h;exact absurd h (by decide)
 rw [Aj h4,Aj d] at h
 by_cases h6:1<t.elem.length
 ·rw [Ai h6] at h;exact absurd h (by decide)
 rw [Aj h6] at h
 by_cases h7:64<t.fields.length
 ·rw [Ai h7] at h;exact absurd h (by decide)
 rw [Aj h7] at h
 refine ⟨a,n1,fun f=>?_,n2,by omega,QK _ _ h⟩
 have c:BM t (AO t.kind).1 (AO t.kind).2=true:=by
  cases q:BM t (AO t.kind).1 (AO t.kind).2
  ·exact absurd (Or.inl ⟨by omega,q⟩) h4
  ·rfl
 have g:(AO t.kind)=(0,256):=by rw [f];rfl
 rw [g,BM] at c
 simp only [Bool.and_eq_true,decide_eq_true_eq] at c
 omega
theorem Ty.fit_of {t:Ty} {n:Nat} (ht:t.small) (hn:t.size+2600000≤n):t.fit n:=by
 have f:=t.lens
 obtain ⟨g,_,b⟩:=ht
 obtain ⟨e,d,h,c⟩:=t.ok_eq.1 b
 exact ⟨by omega,by omega,by omega,by omega,by omega,by omega,d,fun p a=>(c p a).1⟩
theorem ON:∀ (k:Nat) (v:Vl) (lv:Nat),v.size≤k→(FH lv v).length≤v.size
 | 0,v,lv,h=>absurd h (by have:=v.size_eq;omega)
 | k+1,v,lv,h=>by
  have c:=ZaZ v
  rw [Pe,List.length_cons,List.length_flatMap]
  have:((BH v).map fun x=>(FH (lv+1) x).length).sum≤((BH v).map Vl.size).sum:=by
   have hall:∀ x∈BH v,(FH (lv+1) x).length≤x.size:=fun x b=>ON k x (lv+1) (by have:=LP b;omega)
   clear c
   generalize BH v=l at hall
   induction l with
   | nil=>simp
   | cons a r ih =>
    have:=hall a (List.mem_cons_self ..)
    have:=ih fun x b=>hall x (List.mem_cons_of_mem _ b)
    simp only [List.map_cons,List.sum_cons]
    omega
  omega
theorem Xc:∀ (l:List (Nat × Vl)) (c:Int),0≤c→c+l.length≤1000000000→Hg l c=some (c+l.length)
 | [],c,_,_=>by rw [Hg];simp
 | p::r,c,h1,h2=>by
  rw [List.length_cons] at h2
  rw [Hg,Ai (by unfold Bg;omega),Xc r (c+1) (by omega) (by omega),List.length_cons]
  congr 1
  omega
theorem Zco (v:Vl) (hs:v.size≤1048576):Ns v=some ((FH 1 v).length:Int):=by
 have:=ON v.size v 1 (Nat.le_refl _)
 rw [Ns,Ai ⟨by have:=v.depth_size;omega,HB _ v (Nat.le_refl _) (by omega)⟩,Xc _ 0 (by omega) (by omega)]
 congr 1
 omega
theorem S7 {s:ByteArray} (h:EK s=true):s.size≤32:=by
 unfold EK ZV at h
 simp only [Bool.and_eq_true,decide_eq_true_eq] at h
 have:s.size=s.data.toList.length:=by simp
 omega
theorem ZW (k:Int):∀ (l b:List TF),H5 k b l=0→∀ x∈l,∃ b',Ky k b' x=0
 | [],_,_,x,hx=>absurd hx (by simp)
 | y::r,b,h,x,hx=>by
  rw [H5] at h
  by_cases q:Ky k b y=0
  ·rw [Ai q] at h
   rcases List.mem_cons.1 hx with rfl | hx
   ·exact ⟨b,q⟩
   ·exact ZW k r _ h x hx
  ·rw [Aj q] at h;exact absurd h q
theorem Xk {k:Int} {b:List TF} {x:TF} (h:Ky k b x=0):EK x.2.1=true∧(1≤x.1∧x.1≤9999)∧(1≤x.2.2.1∧x.2.2.1≤3)∧(k=10→x.2.2.1=1)∧(x.2.2.1=3→x.2.2.2.2.length=1)∧(x.2.2.1≠3→x.2.2.2.2=[]):=by
 unfold Ky at h
 by_cases h1:EK x.2.1=true
 ·rw [Ai h1] at h
  by_cases h2:¬ (1≤x.1∧x.1≤9999)
  ·rw [Ai h2] at h;exact absurd h (by decide)
  rw [Aj h2] at h
  by_cases h3:(b.any fun q=>Dl q x)=true
  ·rw [Ai h3] at h;exact absurd h (by decide)
  rw [Aj h3] at h
  by_cases h4:¬ (1≤x.2.2.1∧x.2.2.1≤3)∨(k=10∧x.2.2.1≠1)
  ·rw [Ai h4] at h;exact absurd h (by decide)
  rw [Aj h4] at h
  by_cases h5:x.2.2.1=3∧x.2.2.2.2.length=0
  ·rw [Ai h5] at h;exact absurd h (by decide)
  rw [Aj h5] at h
  by_cases h6:1<x.2.2.2.2.length∨(x.2.2.1≠3∧0<x.2.2.2.2.length)
  ·rw [Ai h6] at h;exact absurd h (by decide)
  refine ⟨h1,by omega,by omega,by omega,by omega,fun q=>?_⟩
  have:x.2.2.2.2.length=0:=by omega
  exact List.length_eq_zero_iff.1 this
 ·rw [Aj h1] at h;exact absurd h (by decide)
structure Ty.Own (t:Ty):Prop where
 kind:1≤t.kind∧t.kind≤10
 words:t.kind=4→0<t.words.length→t.min=0∧t.max=0∧t.words.length≤64∧Za none t.words=0
 nowords:t.kind≠4→t.words=[]
 noelem:t.kind≠8→t.elem=[]
 nofields:t.kind≠9→t.kind≠10→t.fields=[]
 noscale:t.kind≠3→t.scale=0
 nobounds:¬ (2≤t.kind∧t.kind≤8)→t.min=0∧t.max=0
 scale:0≤t.scale∧t.scale≤12
 bounds:(2≤t.kind∧t.kind≤8)→¬ (t.kind=4∧0<t.words.length)→(AO t.kind).1≤t.min∧t.max≤(AO t.kind).2∧t.min≤t.max
 elem:t.kind=8→∃ e,t.elem=[e]
 cases:t.kind=10→0<t.fields.length
 fields:t.fields.length≤64
 each:∀ x∈t.fields,EK x.2.1=true∧(1≤x.1∧x.1≤9999)∧(1≤x.2.2.1∧x.2.2.1≤3)∧(t.kind=10→x.2.2.1=1)∧(x.2.2.1=3→x.2.2.2.2.length=1)∧(x.2.2.1≠3→x.2.2.2.2=[])
 apart:H5 t.kind [] t.fields=0
theorem Ty.own_of {t:Ty} (h:PK t=0):t.Own:=by
 have p:=Qq h
 obtain ⟨r,f,u⟩:=p
 simp only [A8,Bool.or_eq_true,Bool.and_eq_true,Bool.not_eq_true',Bool.and_eq_false_iff,decide_eq_false_iff_not,decide_eq_true_eq,not_or,not_and] at f
 obtain ⟨⟨⟨⟨m,n⟩,g⟩,i⟩,l⟩:=f
 have j:t.kind≠4→t.words=[]:=fun q=>List.length_eq_zero_iff.1 (by have:=g q;omega)
 have ne:t.kind≠8→t.elem=[]:=fun q=>List.length_eq_zero_iff.1 (by have:=i q;omega)
 have d:t.kind≠9→t.kind≠10→t.fields=[]:=fun q o=>List.length_eq_zero_iff.1 (by have:=l ⟨q,o⟩;omega)
 have c:t.kind≠3→t.scale=0:=fun q=>by
  have:=n q
  by_cases z:t.scale=0
  ·exact z
  ·exact absurd z this
 have k:¬ (2≤t.kind∧t.kind≤8)→t.min=0∧t.max=0:=fun q=>by
  have:=m (by omega)
  omega
 have v:=h
 rw [PK,Aj r,Aj (by
  intro q
  simp only [A8,Bool.or_eq_true,Bool.and_eq_true,Bool.not_eq_true',Bool.and_eq_false_iff,decide_eq_false_iff_not,decide_eq_true_eq] at q
  rcases q with (((q | q) | q) | q) | q
  ·have:=m q.1;have:=q.2;omega
  ·exact n q.1 q.2
  ·exact g q.1 q.2
  ·exact i q.1 q.2
  ·exact l q.1 q.2)] at h
 by_cases h3:t.kind=4∧0<t.words.length
 ·rw [Ai h3,Nw] at h
  by_cases w1:t.min≠0∨t.max≠0
  ·rw [Ai w1] at h;exact absurd h (by decide)
  rw [Aj w1] at h
  by_cases w2:64<t.words.length
  ·rw [Ai w2] at h;exact absurd h (by decide)
  rw [Aj w2] at h
  have ef:t.fields=[]:=d (by omega) (by omega)
  exact { kind:=by omega,words:=fun _ _=>⟨by omega,by omega,by omega,h⟩,nowords:=j,noelem:=ne,nofields:=d,noscale:=c,nobounds:=k,scale:=by have:=c (by omega);omega,bounds:=fun _ q=>absurd h3 q,elem:=fun q=>by omega,cases:=fun q=>by omega,fields:=by rw [ef];simp,each:=fun x hx=>by rw [ef] at hx;simp at hx,apart:=by rw [ef];rfl }
 rw [Aj h3] at h
 by_cases h4:((2≤t.kind∧t.kind≤8)∧BM t (AO t.kind).1 (AO t.kind).2=false)∨¬ (0≤t.scale∧t.scale≤12)
 ·rw [Ai h4] at h;exact absurd h (by decide)
 rw [Aj h4] at h
 by_cases h5:(t.kind=8∧t.elem.length=0)∨(t.kind=10∧t.fields.length=0)
 ·rw [Ai h5] at h;exact absurd h (by decide)
 rw [Aj h5] at h
 by_cases h6:1<t.elem.length
 ·rw [Ai h6] at h;exact absurd h (by decide)
 rw [Aj h6] at h
 by_cases h7:64<t.fields.length
 ·rw [Ai h7] at h;exact absurd h (by decide)
 rw [Aj h7] at h
 refine { kind:=by omega,words:=fun a b=>absurd ⟨a,b⟩ h3,nowords:=j,noelem:=ne,nofields:=d,noscale:=c,nobounds:=k,scale:=by omega,bounds:=fun q _=>?_,elem:=fun q=>?_,cases:=fun q=>by omega,fields:=by omega,each:=fun x hx=>?_,apart:=h }
 ·have hb:BM t (AO t.kind).1 (AO t.kind).2=true:=by
   cases hb:BM t (AO t.kind).1 (AO t.kind).2 with
   | true=>rfl
   | false=>exact absurd (Or.inl ⟨q,hb⟩) h4
  unfold BM at hb
  simp only [Bool.and_eq_true,decide_eq_true_eq] at hb
  exact ⟨hb.1.1,hb.1.2,hb.2⟩
 ·match he:t.elem with
  | []=>exact absurd (Or.inl ⟨q,by rw [he];rfl⟩) h5
  | [e]=>exact ⟨e,rfl⟩
  | _::_::_=>rw [he] at h6;simp at h6
 ·obtain ⟨s,hb⟩:=ZW _ _ _ h x hx
  exact Xk hb
theorem Ty.Good.own {t:Ty} (h:t.Good):t.Own:=Ty.own_of (S9 h)
def Fa (b:Part):Option ByteArray :=
 if decide (b.kind=1) then
  if ((⟨#[46]⟩:ByteArray)).size+b.name.size≤9223372036854775807 then
   some (((⟨#[46]⟩:ByteArray))++b.name)
  else none
 else
  if decide (b.kind=2) then
   if Bg (b.index) then
    if ((⟨#[91]⟩:ByteArray)).size+((⟨(Lib.itoa b.index).toArray⟩:ByteArray)).size≤9223372036854775807 then
     if (((⟨#[91]⟩:ByteArray))++((⟨(Lib.itoa b.index).toArray⟩:ByteArray))).size+((⟨#[93]⟩:ByteArray)).size≤9223372036854775807 then
      some ((((⟨#[91]⟩:ByteArray))++((⟨(Lib.itoa b.index).toArray⟩:ByteArray)))++((⟨#[93]⟩:ByteArray)))
     else none
    else none
   else none
  else
   if decide (b.kind=3) then
    some ((⟨#[91,42,93]⟩:ByteArray))
   else
    if ((⟨#[63]⟩:ByteArray)).size+b.name.size≤9223372036854775807 then
     some (((⟨#[63]⟩:ByteArray))++b.name)
    else none
theorem Nk (w0:World) (hP:Pow10 w0) (B:Ao) (Rw:Av) (L:As) (a0:Part) (r:ByteArray) (h:Fa a0=some r) :
  ACalls Tryz.prog w0 233 [.agg (Am a0.kind::(Am a0.index::([.val (.string a0.name)])))] ⟨B,Rw,L⟩ fun x st=>x = .val (.string r)∧st=⟨B,Rw,L⟩:=by
 rw [Fa] at h
 refine hd [.tmp 2] Tryz.func233 Tryz.ntmps233 fun M0 W0 q o n b s l hs=>?_
 simp only [AA]
 refine rg [1] hs ?_
 apply An;intro K2 i
 refine rg [1,4] hs ?_
 apply Ar
 refine rg [1,4,5] hs ?_
 refine B6 h hs ?_ ?_<;>intro hs h
 ·obtain ⟨m,h⟩:=Aw h
  have g:=m
  try simp +decide only [go_sem] at g
  refine rg [2] hs ?_
  exact rt h hs b l
 refine rg [1,4,10] hs ?_
 refine B6 h hs ?_ ?_<;>intro hs h
 ·obtain ⟨p,h⟩:=Aw h
  obtain ⟨f,h⟩:=Aw h
  have e:=f
  try simp +decide only [go_sem] at e
  obtain ⟨j,h⟩:=Aw h
  have c:=j
  try simp +decide only [go_sem] at c
  exact go (tg (a:=([2],()))) h hs q o n b l (q1 (XG w0)) trivial
 refine rg [1,17] hs ?_
 refine B6 h hs ?_ ?_<;>intro hs h
 ·refine rg [2] hs ?_
  exact rt h hs b l
 refine sk [1] hs i ?_
 clear i
 obtain ⟨k,h⟩:=Aw h
 have d:=k
 try simp +decide only [go_sem] at d
 refine rg [2] hs ?_
 exact rt h hs b l
def D4 (b:Part) (g:Bool):Option Bool :=
 if g then
  if decide (b.index=0) then
   if b.name.size≤maxLen then
    some (EK b.name)
   else none
  else
   some (false)
 else
  if decide (b.kind=2) then
   some (((GP b.name (⟨#[]⟩:ByteArray))&&(decide (0≤b.index)))&&(decide (b.index<256)))
  else
   if decide (b.kind=3) then
    some ((GP b.name (⟨#[]⟩:ByteArray))&&(decide (b.index=0)))
   else
    some (false)
def EG (b:Part):Option Bool :=
 if decide (b.kind=1) then
  D4 b true
 else
  D4 b (decide (b.kind=4))
theorem MO (w0:World) (B:Ao) (Rw:Av) (L:As) (a0:Part) (r:Bool) (h:EG a0=some r) :
  ACalls Tryz.prog w0 157 [.agg (Am a0.kind::(Am a0.index::([.val (.string a0.name)])))] ⟨B,Rw,L⟩ fun x st=>x = .val (.bool r)∧st=⟨B,Rw,L⟩:=by
 rw [EG] at h
 refine hd [.tmp 2] Tryz.func157 Tryz.ntmps157 fun M0 W0 k f d c l j hs=>?_
 simp only [AA]
 refine rg [1] hs ?_
 apply An;intro K2 i
 refine rg [1,4] hs ?_
 apply Ar
 refine AB (fun e st=>∃ (b:Bool),Ck e st B Rw L [(1,true,.box B.length 0),(4,true,Am a0.kind),(5,true,.val (.bool b))] [Am a0.kind::(Am a0.index::([.val (.string a0.name)]))] [] (D4 a0 b=some r)) ?_ ?_
 ·intro K6 g
  exact go (tg (a:=([1,4,5],([1,4,5],()),[1,4,5],()))) h hs k f d c j trivial (q1 g)
 ·clear h;rintro e st ⟨b,Xk5,Rk5,rfl,rfl,j,h⟩
  rw [D4] at h
  exact go (tg (a:=((([2],()),[2],()),[1,4,16],([2],()),[1,31],([2],()),[],[2],()))) h hs k f d c j (q1 (NV w0)) (q1 i)
def KG (n:Nat)  (b:Int):Option Int :=
 if decide (200<b) then
  some (3)
 else
  some (0)
def EM (n:Nat) (y:List Part):Nat→Int→Int→Option Int
 | 0,_,_=>none
 | m+1,g,b =>
  if decide (b<(y.length:Int)) then
   (Cj y b).bind fun h =>
   (EG h).bind fun z =>
   if !z then
    some (3)
   else
    (Fa h).bind fun q =>
    if Bg (g+(q.size:Int)) then
     if Bg (b+1) then
      (EM n y m) (g+(q.size:Int)) (b+1)
     else none
    else none
  else
   KG n g
def Ic (n:Nat) (b:List Part):Option Int :=
 if (decide ((b.length:Int)<1))||(decide (16<(b.length:Int))) then
  some (3)
 else
  (Cj b 0).bind fun g =>
  if !(decide (g.kind=1)) then
   some (3)
  else
   EM n b n ((-1)) 0
theorem SN (w0:World) (hP:Pow10 w0) (n:Nat) (B:Ao) (Rw:Av) (L:As) (a0:List Part) (r:Int) (h:Ic n a0=some r) :
  ACalls Tryz.prog w0 232 [.list (a0.map AG) .none] ⟨B,Rw,L⟩ fun x st=>x=Am r∧st=⟨B,Rw,L⟩:=by
 rw [Ic] at h
 refine hd [.tmp 2] Tryz.func232 Tryz.ntmps232 fun M0 W0 t j i f w k hs=>?_
 simp only [AA]
 refine rg [0] hs ?_
 apply An;intro K2 o
 apply An;intro K3 l
 rcases Bool.eq_false_or_eq_true ((decide ((a0.length:Int)<1))||(decide (16<(a0.length:Int)))) with hf4 | hf4
 ·replace h:=Bq h hf4
  exact go (tg (a:=([0,20],[2],()))) h (Ae hf4 hs) t j i f k trivial (q1 l)
 ·replace h:=Bo h hf4
  obtain ⟨y,v,u,g,h⟩:=ix AG h
  have p:(a0.map AG).getD 0 .junk=_:=g
  have hs:=Ae hf4 hs
  have hs:=Ae g hs
  have hs:=Ae p hs
  refine rl [0,20] hs l ?_
  clear l
  refine B6 h hs ?_ ?_<;>intro hs h
  ·refine rg [2] hs ?_
   exact rt h hs f k
  refine sk [0] hs o ?_
  clear o
  refine rg [0,3] hs ?_
  refine AB (fun e st=>∃ (d:Int),Ck e st B Rw L [(3,true,Am d)] [] [] (KG n d=some r)) ?_ ?_
  ·intro K13 q
   refine rg [3,21,22,23] hs ?_
   apply Ar
   refine AC (fun m e st=>∃ (c:Int) (b:Int),Ck e st B Rw L [(3,true,Am c),(21,true,.list (a0.map AG) .none),(22,true,Am (a0.length:Int)),(23,true,Am b)] [] [] (EM n a0 m c b=some r)) n ⟨((-1)),0,([]),Rw,ef hs,ef hs,k,h⟩ ?_
   rintro ml15 e st ⟨c,b,Xl15,Rl15,rfl,rfl,k,h⟩ Ul15 Vl15
   cases ml15 with
   | zero=>cases h
   | succ ml15 =>
   rw [EM] at h
   exact go (tg (a:=([3,21,22,23,24],([3,21,22,23],[3,5,21,22,23],[3,5,21,22,23,29],([2],()),[3,5,21,22,23],[3,21,22,23],[3,21,22,23],()),[3],()))) h hs t j i f k (q2 (MO w0) (Nk w0 hP)) (q2 q (fun e s=>Vl15 ml15 e s (Nat.lt_succ_self _)))
  ·clear h;rintro e st ⟨d,Xk12,Rk12,rfl,rfl,k,h⟩
   rw [KG] at h
   exact go (tg (a:=([37],([2],()),[],[2],()))) h hs t j i f k trivial trivial
instance (k:IntKind) (n:Int):Decidable (inK k n):=by cases k<;>exact inferInstanceAs (Decidable (_∧_))
@[go_sem] theorem Za7 (n:Int):To (.val (.int .u8 n))=(0≤n∧n≤255):=rfl
@[go_sem] theorem ZfK:F6 []=(⟨#[]⟩:ByteArray):=rfl
@[go_sem] theorem Zfo (k:Nat):(∀ y∈List.replicate k (AV.val (.int .u8 0)),To y)↔True:=iff_true_intro fun y a=>by
 rw [List.eq_of_mem_replicate a,Za7];omega
def Za0 (p:Part):Int:=if p.kind=1 then 1+p.name.size else if p.kind=2 then 2+(Lib.itoa p.index).length else if p.kind=3 then 3 else 1+p.name.size
def pOk (p:Part):Bool :=
 if p.kind=1∨p.kind=4 then decide (p.index=0)&&EK p.name
 else if p.kind=2 then GP p.name ⟨#[]⟩&&decide (0≤p.index)&&decide (p.index<256)
 else if p.kind=3 then GP p.name ⟨#[]⟩&&decide (p.index=0) else false
theorem UD (p:Part) (h:p.wf):EG p=some (pOk p):=by
 obtain ⟨_,_,a⟩:=h
 rw [EG,pOk]
 by_cases h1:p.kind=1
 ·rw [Ah h1,Ai rfl,D4,Ai rfl,Ai (Or.inl h1)]
  by_cases hi:p.index=0
  ·rw [Ah hi,Ai rfl,Ai a];rfl
  ·rw [Ag hi,Aj (by decide)];rfl
 rw [Ag h1,Aj (by decide),D4]
 by_cases h4:p.kind=4
 ·rw [Ah h4,Ai rfl,Ai (Or.inr h4)]
  by_cases hi:p.index=0
  ·rw [Ah hi,Ai rfl,Ai a];rfl
  ·rw [Ag hi,Aj (by decide)];rfl
 rw [Ag h4,Aj (by decide),Aj (show ¬ (p.kind=1∨p.kind=4) by omega)]
 by_cases h2:p.kind=2
 ·rw [Ah h2,Ai rfl,Ai h2]
 rw [Ag h2,Aj (by decide),Aj h2]
 by_cases h3:p.kind=3
 ·rw [Ah h3,Ai rfl,Ai h3]
 rw [Ag h3,Aj (by decide),Aj h3]
theorem ZbF (i:Int) (h0:0≤i) (h:i<256):(Lib.itoa i).length=if i<10 then 1 else if i<100 then 2 else 3:=by
 unfold Lib.itoa
 rw [Aa,Lib.decDigits_length]
 by_cases h1:i<10
 ·rw [Ai h1,Lib.nDigits_small (by omega)]
 rw [Aj h1,Lib.nDigits_big (by omega)]
 by_cases h2:i<100
 ·rw [Ai h2,Lib.nDigits_small (by omega)]
 rw [Aj h2,Lib.nDigits_big (by omega),Lib.nDigits_small (by omega)]
theorem E0 (l:Array UInt8):(⟨l⟩:ByteArray).size=l.size:=rfl
theorem XN (p:Part) (h:pOk p=true):∃ s,Fa p=some s∧(s.size:Int)=Za0 p∧1≤Za0 p∧Za0 p≤40:=by
 unfold pOk at h
 rw [Fa,Za0]
 by_cases h1:p.kind=1
 ·rw [Ai (Or.inl h1),Bool.and_eq_true] at h
  have c:=S7 h.2
  rw [Ah h1,Ai rfl,Ai h1,Ai (by rw [E0];simp;omega)]
  refine ⟨_,rfl,?_,by omega,by omega⟩
  rw [ByteArray.size_append,E0];simp
 rw [Ag h1,Aj (by decide),Aj h1]
 by_cases h2:p.kind=2
 ·rw [Aa,Ai h2,Bool.and_eq_true,Bool.and_eq_true] at h
  have q1:=of_decide_eq_true h.1.2
  have q2:=of_decide_eq_true h.2
  have b:=ZbF p.index q1 q2
  have a:(Lib.itoa p.index).length≤3:=by rw [b];repeat' split<;>try omega
  rw [Ah h2,Ai rfl,Ai h2,Ai (by unfold Bg;omega),Ai (by rw [E0,E0];simp;omega),Ai (by rw [ByteArray.size_append,E0,E0,E0];simp;omega)]
  refine ⟨_,rfl,?_,by omega,by omega⟩
  rw [ByteArray.size_append,ByteArray.size_append,E0,E0,E0];simp;omega
 rw [Ag h2,Aj (by decide),Aj h2]
 by_cases h3:p.kind=3
 ·rw [Ah h3,Ai rfl,Ai h3]
  exact ⟨_,rfl,rfl,by decide,by decide⟩
 rw [Ag h3,Aj (by decide),Aj h3]
 by_cases h4:p.kind=4
 ·rw [Ai (Or.inr h4),Bool.and_eq_true] at h
  have c:=S7 h.2
  rw [Ai (by rw [E0];simp;omega)]
  refine ⟨_,rfl,?_,by omega,by omega⟩
  rw [ByteArray.size_append,E0];simp
 ·rw [Aa,Aj h2,Aj h3] at h
  exact absurd h (by decide)
def Zgk (l:List Part):Int:=(l.map Za0).sum
theorem S3 (n:Nat) (l:List Part) (hw:∀ p∈l,p.wf) (hl:l.length≤20):∀ (k m i:Nat) (c:Int),i+k=l.length→k<m → -1≤c→c≤40*i →
  EM n l m c i=some (if ((l.drop i).all pOk&&decide (c+Zgk (l.drop i)≤200))=true then 0 else 3)
 | k,0,i,_,_,h,_,_=>absurd h (Nat.not_lt_zero _)
 | 0,m+1,i,c,hi,_,_,_=>by
  rw [EM,AU,Ac,List.drop_eq_nil_of_le (by omega)]
  simp only [Bool.false_eq_true,if_false,KG,Zgk,List.map_nil,List.sum_nil,Int.add_zero,List.all_nil,Bool.true_and]
  by_cases q:200<c
  ·rw [Ai (Ah q),Aj (by rw [decide_eq_true_eq];omega)]
  ·rw [Aj (by rw [decide_eq_true_eq];omega),Ai (by rw [decide_eq_true_eq];omega)]
 | k+1,m+1,i,c,hi,hm,h1,h2=>by
  have a:i<l.length:=by omega
  rw [EM,AU,Ah a,List.drop_eq_getElem_cons a,List.all_cons]
  simp only [if_true,AN a,Af,UD _ (hw _ (List.getElem_mem a))]
  cases hb:pOk l[i] with
  | false=>rfl
  | true =>
   obtain ⟨s,e,z,b,d⟩:=XN _ hb
   simp only [Bool.not_true,Bool.false_eq_true,if_false,e,Af,Bool.true_and]
   rw [Ai (by unfold Bg;omega),Ai (AW (by omega)),z]
   have ih:=S3 n l hw hl k m (i+1) (c+Za0 l[i]) (by omega) (by omega) (by omega) (by omega)
   rw [show ((i:Int)+1)=((i+1:Nat):Int) by omega,ih]
   simp only [Zgk,List.map_cons,List.sum_cons,Int.add_assoc]
end Go.Proofs.YtmcnjijeocmkgaaGreatDoor
namespace Go.Proofs
open Go.Shelf
def Tryz.lays119_ren:Go.Shelf.Ren:=⟨fun | 119=>323 | n=>n,fun | 21=>21 | 4=>4 | n=>n,fun | n=>n⟩
theorem Tryz.lays119:Go.Proofs.Lays.n119 Tryz.prog Tryz.lays119_ren:={
 mixed:=by kernel_rfl
 f119:=Tryz.func323.trans (congrArg some (by kernel_rfl))
 t4:=Tryz.underlying4
 a4:=Tryz.isAgg4
 z4:=Tryz.sizeOf4
 v4:=Tryz.zeroValue4
 t21:=Tryz.underlying21
 a21:=Tryz.isAgg21
 z21:=Tryz.sizeOf21
 v21:=Tryz.zeroValue21 }
theorem Tryz.utf8_ValidRune (r:Int) (w:World) :
  Calls Tryz.prog 323 #[.int .i32 r] w fun e w'=>e = .returned (.bool (Lib.validRune r))∧w'=w:=Any.utf8_ValidRune Tryz.lays119 r w
def Tryz.lays137_ren:Go.Shelf.Ren:=⟨fun | 137=>322 | 217=>357 | 266=>369 | n=>n,fun | 9=>9 | 5=>5 | 3=>3 | n=>n,fun | n=>n⟩
theorem Tryz.lays137:Go.Proofs.Lays.n137 Tryz.prog Tryz.lays137_ren:={
 mixed:=by kernel_rfl
 f137:=Tryz.func322.trans (congrArg some (by kernel_rfl))
 f217:=Tryz.func357.trans (congrArg some (by kernel_rfl))
 f266:=Tryz.func369.trans (congrArg some (by kernel_rfl))
 t3:=Tryz.underlying3
 a3:=Tryz.isAgg3
 z3:=Tryz.sizeOf3
 v3:=Tryz.zeroValue3
 t5:=Tryz.underlying5
 a5:=Tryz.isAgg5
 z5:=Tryz.sizeOf5
 v5:=Tryz.zeroValue5
 t9:=Tryz.underlying9
 a9:=Tryz.isAgg9
 z9:=Tryz.sizeOf9
 v9:=Tryz.zeroValue9 }
open Go.RowKit in
theorem Tryz.strings_IndexByte (s:ByteArray) (c:Int) (w:World) :
  Calls Tryz.prog 322 #[.string s,.int .u8 c] w fun e w'=>e = .returned (.int .i64 (Lib.indexByte s.data.toList c.toNat.toUInt8))∧w'=w:=Any.strings_IndexByte Tryz.lays137 s c w
def Tryz.lays145_ren:Go.Shelf.Ren:=⟨fun | 145=>237 | 220=>286 | 219=>326 | 217=>357 | 225=>325 | 224=>324 | 267=>358 | 266=>369 | 314=>370 | n=>n,fun | 9=>9 | 4=>4 | 59=>245 | 3=>3 | 5=>5 | 46=>231 | 146=>309 | 51=>299 | n=>n,fun | 1=>1 | n=>n⟩
theorem Tryz.lays145:Go.Proofs.Lays.n145 Tryz.prog Tryz.lays145_ren:={
 mixed:=by kernel_rfl
 f145:=Tryz.func237.trans (congrArg some (by kernel_rfl))
 f217:=Tryz.func357.trans (congrArg some (by kernel_rfl))
 f219:=Tryz.func326.trans (congrArg some (by kernel_rfl))
 f220:=Tryz.func286.trans (congrArg some (by kernel_rfl))
 f224:=Tryz.func324.trans (congrArg some (by kernel_rfl))
 f225:=Tryz.func325.trans (congrArg some (by kernel_rfl))
 f266:=Tryz.func369.trans (congrArg some (by kernel_rfl))
 f267:=Tryz.func358.trans (congrArg some (by kernel_rfl))
 f314:=Tryz.func370.trans (congrArg some (by kernel_rfl))
 t3:=Tryz.underlying3
 a3:=Tryz.isAgg3
 z3:=Tryz.sizeOf3
 v3:=Tryz.zeroValue3
 t4:=Tryz.underlying4
 a4:=Tryz.isAgg4
 z4:=Tryz.sizeOf4
 v4:=Tryz.zeroValue4
 t5:=Tryz.underlying5
 a5:=Tryz.isAgg5
 z5:=Tryz.sizeOf5
 v5:=Tryz.zeroValue5
 t9:=Tryz.underlying9
 a9:=Tryz.isAgg9
 z9:=Tryz.sizeOf9
 v9:=Tryz.zeroValue9
 t46:=Tryz.underlying231
 a46:=Tryz.isAgg231
 z46:=Tryz.sizeOf231
 v46:=Tryz.zeroValue231
 t51:=Tryz.underlying299
 a51:=Tryz.isAgg299
 z51:=Tryz.sizeOf299
 v51:=Tryz.zeroValue299
 t59:=Tryz.underlying245
 a59:=Tryz.isAgg245
 z59:=Tryz.sizeOf245
 v59:=Tryz.zeroValue245
 t146:=Tryz.underlying309
 a146:=Tryz.isAgg309
 z146:=Tryz.sizeOf309
 v146:=Tryz.zeroValue309
 g1:=by kernel_rfl }
open Go.RowKit Go.Lib in
theorem Tryz.strings_Cut (s sep:ByteArray) (m:Int) (w:World) (hs:s.size<4294967281) (hm:w.cell? ⟨1,0,none⟩=some (.int .i64 m)) :
  Calls Tryz.prog 237 #[.string s,.string sep] w fun e w'=>e = .returned (.tuple #[.string ⟨(Lib.cut s.data.toList sep.data.toList).1.toArray⟩,.string ⟨(Lib.cut s.data.toList sep.data.toList).2.1.toArray⟩,.bool (Lib.cut s.data.toList sep.data.toList).2.2])∧∃ n,w'=w.drewN n:=Any.strings_Cut Tryz.lays145 s sep m w hs hm
def Tryz.lays99_ren:Go.Shelf.Ren:=⟨fun | 99=>236 | 206=>285 | n=>n,fun | 9=>9 | 4=>4 | 3=>3 | n=>n,fun | n=>n⟩
theorem Tryz.lays99:Go.Proofs.Lays.n99 Tryz.prog Tryz.lays99_ren:={
 mixed:=by kernel_rfl
 f99:=Tryz.func236.trans (congrArg some (by kernel_rfl))
 f206:=Tryz.func285.trans (congrArg some (by kernel_rfl))
 t3:=Tryz.underlying3
 a3:=Tryz.isAgg3
 z3:=Tryz.sizeOf3
 v3:=Tryz.zeroValue3
 t4:=Tryz.underlying4
 a4:=Tryz.isAgg4
 z4:=Tryz.sizeOf4
 v4:=Tryz.zeroValue4
 t9:=Tryz.underlying9
 a9:=Tryz.isAgg9
 z9:=Tryz.sizeOf9
 v9:=Tryz.zeroValue9 }
open Go.RowKit Go.Lib in
theorem Tryz.strings_HasPrefix (s p:ByteArray) (w:World) :
  Calls Tryz.prog 236 #[.string s,.string p] w fun e w'=>e = .returned (.bool (Lib.hasPrefix s.data.toList p.data.toList))∧w'=w:=Any.strings_HasPrefix Tryz.lays99 s p w
def Tryz.lays152_ren:Go.Shelf.Ren:=⟨fun | 152=>281 | 137=>322 | 119=>323 | 224=>324 | 225=>325 | 217=>357 | 266=>369 | n=>n,fun | 9=>9 | 21=>21 | 3=>3 | 4=>4 | 5=>5 | 0=>0 | 46=>231 | n=>n,fun | n=>n⟩
theorem Tryz.lays152:Go.Proofs.Lays.n152 Tryz.prog Tryz.lays152_ren:={
 mixed:=by kernel_rfl
 f119:=Tryz.func323.trans (congrArg some (by kernel_rfl))
 f137:=Tryz.func322.trans (congrArg some (by kernel_rfl))
 f152:=Tryz.func281.trans (congrArg some (by kernel_rfl))
 f217:=Tryz.func357.trans (congrArg some (by kernel_rfl))
 f224:=Tryz.func324.trans (congrArg some (by kernel_rfl))
 f225:=Tryz.func325.trans (congrArg some (by kernel_rfl))
 f266:=Tryz.func369.trans (congrArg some (by kernel_rfl))
 t0:=Tryz.underlying0
 a0:=Tryz.isAgg0
 z0:=Tryz.sizeOf0
 v0:=Tryz.zeroValue0
 t3:=Tryz.underlying3
 a3:=Tryz.isAgg3
 z3:=Tryz.sizeOf3
 v3:=Tryz.zeroValue3
 t4:=Tryz.underlying4
 a4:=Tryz.isAgg4
 z4:=Tryz.sizeOf4
 v4:=Tryz.zeroValue4
 t5:=Tryz.underlying5
 a5:=Tryz.isAgg5
 z5:=Tryz.sizeOf5
 v5:=Tryz.zeroValue5
 t9:=Tryz.underlying9
 a9:=Tryz.isAgg9
 z9:=Tryz.sizeOf9
 v9:=Tryz.zeroValue9
 t21:=Tryz.underlying21
 a21:=Tryz.isAgg21
 z21:=Tryz.sizeOf21
 v21:=Tryz.zeroValue21
 t46:=Tryz.underlying231
 a46:=Tryz.isAgg231
 z46:=Tryz.sizeOf231
 v46:=Tryz.zeroValue231 }
open Go.RowKit Go.Lib in
theorem Tryz.strings_IndexRune_ascii (s:ByteArray) (r:Int) (w:World) (h0:0≤r) (h1:r<128) :
  Calls Tryz.prog 281 #[.string s,.int .i32 r] w fun e w'=>e = .returned (.int .i64 (Lib.indexByte s.data.toList r.toNat.toUInt8))∧w'=w:=Any.strings_IndexRune_ascii Tryz.lays152 s r w h0 h1
def Tryz.lays226_ren:Go.Shelf.Ren:=⟨fun | 226=>282 | n=>n,fun | 3=>3 | 4=>4 | n=>n,fun | n=>n⟩
theorem Tryz.lays226:Go.Proofs.Lays.n226 Tryz.prog Tryz.lays226_ren:={
 mixed:=by kernel_rfl
 f226:=Tryz.func282.trans (congrArg some (by kernel_rfl))
 t3:=Tryz.underlying3
 a3:=Tryz.isAgg3
 z3:=Tryz.sizeOf3
 v3:=Tryz.zeroValue3
 t4:=Tryz.underlying4
 a4:=Tryz.isAgg4
 z4:=Tryz.sizeOf4
 v4:=Tryz.zeroValue4 }
open Go.RowKit Go.Lib in
theorem Tryz.strings_shouldUseASCIISet (n:Int) (w:World) :
  Calls Tryz.prog 282 #[.int .i64 n] w fun e w'=>e = .returned (.bool (decide (8<n)))∧w'=w:=Any.strings_shouldUseASCIISet Tryz.lays226 n w
def Tryz.lays153_ren:Go.Shelf.Ren:=⟨fun | 153=>235 | 152=>281 | 226=>282 | 227=>283 | 228=>284 | 137=>322 | 119=>323 | 224=>324 | 225=>325 | 217=>357 | 266=>369 | n=>n,fun | 9=>9 | 3=>3 | 4=>4 | 5=>5 | 21=>21 | 117=>287 | 116=>286 | 0=>0 | 46=>231 | 124=>323 | n=>n,fun | n=>n⟩
theorem Tryz.lays153:Go.Proofs.Lays.n153 Tryz.prog Tryz.lays153_ren:={
 mixed:=by kernel_rfl
 f119:=Tryz.func323.trans (congrArg some (by kernel_rfl))
 f137:=Tryz.func322.trans (congrArg some (by kernel_rfl))
 f152:=Tryz.func281.trans (congrArg some (by kernel_rfl))
 f153:=Tryz.func235.trans (congrArg some (by kernel_rfl))
 f217:=Tryz.func357.trans (congrArg some (by kernel_rfl))
 f224:=Tryz.func324.trans (congrArg some (by kernel_rfl))
 f225:=Tryz.func325.trans (congrArg some (by kernel_rfl))
 f226:=Tryz.func282.trans (congrArg some (by kernel_rfl))
 f227:=Tryz.func283.trans (congrArg some (by kernel_rfl))
 f228:=Tryz.func284.trans (congrArg some (by kernel_rfl))
 f266:=Tryz.func369.trans (congrArg some (by kernel_rfl))
 t0:=Tryz.underlying0
 a0:=Tryz.isAgg0
 z0:=Tryz.sizeOf0
 v0:=Tryz.zeroValue0
 t3:=Tryz.underlying3
 a3:=Tryz.isAgg3
 z3:=Tryz.sizeOf3
 v3:=Tryz.zeroValue3
 t4:=Tryz.underlying4
 a4:=Tryz.isAgg4
 z4:=Tryz.sizeOf4
 v4:=Tryz.zeroValue4
 t5:=Tryz.underlying5
 a5:=Tryz.isAgg5
 z5:=Tryz.sizeOf5
 v5:=Tryz.zeroValue5
 t9:=Tryz.underlying9
 a9:=Tryz.isAgg9
 z9:=Tryz.sizeOf9
 v9:=Tryz.zeroValue9
 t21:=Tryz.underlying21
 a21:=Tryz.isAgg21
 z21:=Tryz.sizeOf21
 v21:=Tryz.zeroValue21
 t46:=Tryz.underlying231
 a46:=Tryz.isAgg231
 z46:=Tryz.sizeOf231
 v46:=Tryz.zeroValue231
 t116:=Tryz.underlying286
 a116:=Tryz.isAgg286
 z116:=Tryz.sizeOf286
 t117:=Tryz.underlying287
 a117:=Tryz.isAgg287
 z117:=Tryz.sizeOf287
 v117:=Tryz.zeroValue287
 t124:=Tryz.underlying323
 a124:=Tryz.isAgg323
 z124:=Tryz.sizeOf323
 v124:=Tryz.zeroValue323 }
open Go.RowKit Go.Lib in
theorem Tryz.strings_IndexAny_long (hv116:∀ w,(zeroValue 286).run Tryz.prog w = .ok (.agg (Array.replicate 256 (.bool false))) w) (s chars:ByteArray) (w:World) (h2:2≤chars.size) (h8:8<s.size) (hs:s.size<4294967281) (hcs:chars.size<4294967281) (hascii:∀ (j:Nat) b,chars.data.toList[j]? = some b→b.toNat<128) :
  Calls Tryz.prog 235 #[.string s,.string chars] w fun e w'=>e = .returned (.int .i64 (Lib.indexAny s.data.toList chars.data.toList))∧w'=((w.alloc (.cells (Lib.setCells chars.data.toList) 286)).alloc (.cells (Lib.setCells chars.data.toList) 286)):=Any.strings_IndexAny_long Tryz.lays153 hv116 (by kernel_rfl) s chars w h2 h8 hs hcs hascii
def Tryz.laysAtoi_ren:Go.Shelf.Ren:=⟨fun | 172=>238 | 244=>287 | 245=>288 | 247=>327 | 279=>328 | 280=>329 | 281=>330 | 282=>331 | 287=>359 | 316=>360 | 171=>134 | 205=>361 | 321=>371 | 322=>372 | 243=>206 | 246=>272 | 283=>315 | 284=>316 | 285=>317 | 286=>318 | 129=>299 | 317=>344 | 318=>345 | 319=>346 | 320=>347 | 337=>364 | 338=>365 | n=>n,fun | 9=>9 | 3=>3 | 75=>248 | 76=>249 | 4=>4 | 5=>5 | 167=>324 | 37=>167 | 0=>0 | 85=>325 | 2=>2 | 168=>327 | 53=>301 | 175=>346 | 46=>231 | 210=>349 | 127=>313 | 145=>359 | 143=>357 | 21=>21 | 171=>315 | 173=>317 | 212=>339 | 51=>299 | 20=>20 | 213=>340 | 232=>360 | 233=>361 | 80=>242 | n=>n,fun | 15=>5 | 16=>6 | 17=>4 | 18=>7 | 19=>8 | n=>n⟩
theorem Tryz.laysAtoi:Go.Proofs.LaysC.n172 Tryz.prog Tryz.laysAtoi_ren:={
 mixed:=by kernel_rfl
 f129:=Tryz.func299.trans (congrArg some (by kernel_rfl))
 f171:=Tryz.func134.trans (congrArg some (by kernel_rfl))
 f172:=Tryz.func238.trans (congrArg some (by kernel_rfl))
 f205:=Tryz.func361.trans (congrArg some (by kernel_rfl))
 f243:=Tryz.func206.trans (congrArg some (by kernel_rfl))
 f244:=Tryz.func287.trans (congrArg some (by kernel_rfl))
 f245:=Tryz.func288.trans (congrArg some (by kernel_rfl))
 f246:=Tryz.func272.trans (congrArg some (by kernel_rfl))
 f247:=Tryz.func327.trans (congrArg some (by kernel_rfl))
 f279:=Tryz.func328.trans (congrArg some (by kernel_rfl))
 f280:=Tryz.func329.trans (congrArg some (by kernel_rfl))
 f281:=Tryz.func330.trans (congrArg some (by kernel_rfl))
 f282:=Tryz.func331.trans (congrArg some (by kernel_rfl))
 f283:=Tryz.func315.trans (congrArg some (by kernel_rfl))
 f284:=Tryz.func316.trans (congrArg some (by kernel_rfl))
 f285:=Tryz.func317.trans (congrArg some (by kernel_rfl))
 f286:=Tryz.func318.trans (congrArg some (by kernel_rfl))
 f287:=Tryz.func359.trans (congrArg some (by kernel_rfl))
 f316:=Tryz.func360.trans (congrArg some (by kernel_rfl))
 f317:=Tryz.func344.trans (congrArg some (by kernel_rfl))
 f318:=Tryz.func345.trans (congrArg some (by kernel_rfl))
 f319:=Tryz.func346.trans (congrArg some (by kernel_rfl))
 f320:=Tryz.func347.trans (congrArg some (by kernel_rfl))
 f321:=Tryz.func371.trans (congrArg some (by kernel_rfl))
 f322:=Tryz.func372.trans (congrArg some (by kernel_rfl))
 f337:=Tryz.func364.trans (congrArg some (by kernel_rfl))
 f338:=Tryz.func365.trans (congrArg some (by kernel_rfl))
 t0:=Tryz.underlying0
 a0:=Tryz.isAgg0
 z0:=Tryz.sizeOf0
 v0:=Tryz.zeroValue0
 t2:=Tryz.underlying2
 a2:=Tryz.isAgg2
 z2:=Tryz.sizeOf2
 v2:=Tryz.zeroValue2
 t3:=Tryz.underlying3
 a3:=Tryz.isAgg3
 z3:=Tryz.sizeOf3
 v3:=Tryz.zeroValue3
 t4:=Tryz.underlying4
 a4:=Tryz.isAgg4
 z4:=Tryz.sizeOf4
 v4:=Tryz.zeroValue4
 t5:=Tryz.underlying5
 a5:=Tryz.isAgg5
 z5:=Tryz.sizeOf5
 v5:=Tryz.zeroValue5
 t9:=Tryz.underlying9
 a9:=Tryz.isAgg9
 z9:=Tryz.sizeOf9
 v9:=Tryz.zeroValue9
 t20:=Tryz.underlying20
 a20:=Tryz.isAgg20
 z20:=Tryz.sizeOf20
 v20:=Tryz.zeroValue20
 t21:=Tryz.underlying21
 a21:=Tryz.isAgg21
 z21:=Tryz.sizeOf21
 v21:=Tryz.zeroValue21
 t37:=Tryz.underlying167
 a37:=Tryz.isAgg167
 z37:=Tryz.sizeOf167
 v37:=Tryz.zeroValue167
 t46:=Tryz.underlying231
 a46:=Tryz.isAgg231
 z46:=Tryz.sizeOf231
 v46:=Tryz.zeroValue231
 t51:=Tryz.underlying299
 a51:=Tryz.isAgg299
 z51:=Tryz.sizeOf299
 v51:=Tryz.zeroValue299
 t53:=Tryz.underlying301
 a53:=Tryz.isAgg301
 z53:=Tryz.sizeOf301
 v53:=Tryz.zeroValue301
 t75:=Tryz.underlying248
 a75:=Tryz.isAgg248
 z75:=Tryz.sizeOf248
 v75:=Tryz.zeroValue248
 t76:=Tryz.underlying249
 a76:=Tryz.isAgg249
 z76:=Tryz.sizeOf249
 v76:=Tryz.zeroValue249
 t85:=Tryz.underlying325
 a85:=Tryz.isAgg325
 z85:=Tryz.sizeOf325
 v85:=Tryz.zeroValue325
 t127:=Tryz.underlying313
 a127:=Tryz.isAgg313
 z127:=Tryz.sizeOf313
 v127:=Tryz.zeroValue313
 t143:=Tryz.underlying357
 a143:=Tryz.isAgg357
 z143:=Tryz.sizeOf357
 v143:=Tryz.zeroValue357
 t145:=Tryz.underlying359
 a145:=Tryz.isAgg359
 z145:=Tryz.sizeOf359
 v145:=Tryz.zeroValue359
 t167:=Tryz.underlying324
 a167:=Tryz.isAgg324
 z167:=Tryz.sizeOf324
 v167:=Tryz.zeroValue324
 t168:=Tryz.underlying327
 a168:=Tryz.isAgg327
 z168:=Tryz.sizeOf327
 v168:=Tryz.zeroValue327
 t171:=Tryz.underlying315
 a171:=Tryz.isAgg315
 z171:=Tryz.sizeOf315
 v171:=Tryz.zeroValue315
 t173:=Tryz.underlying317
 a173:=Tryz.isAgg317
 z173:=Tryz.sizeOf317
 v173:=Tryz.zeroValue317
 t175:=Tryz.underlying346
 a175:=Tryz.isAgg346
 z175:=Tryz.sizeOf346
 v175:=Tryz.zeroValue346
 t210:=Tryz.underlying349
 a210:=Tryz.isAgg349
 z210:=Tryz.sizeOf349
 v210:=Tryz.zeroValue349
 t212:=Tryz.underlying339
 a212:=Tryz.isAgg339
 z212:=Tryz.sizeOf339
 v212:=Tryz.zeroValue339
 t213:=Tryz.underlying340
 a213:=Tryz.isAgg340
 z213:=Tryz.sizeOf340
 t232:=Tryz.underlying360
 a232:=Tryz.isAgg360
 z232:=Tryz.sizeOf360
 v232:=Tryz.zeroValue360
 t233:=Tryz.underlying361
 a233:=Tryz.isAgg361
 z233:=Tryz.sizeOf361
 v233:=Tryz.zeroValue361
 g15:=by kernel_rfl
 g16:=by kernel_rfl
 g17:=by kernel_rfl
 g18:=by kernel_rfl
 g19:=by kernel_rfl
 t80:=Tryz.underlying242
 a80:=Tryz.isAgg242
 z80:=Tryz.sizeOf242
 v80:=Tryz.zeroValue242
 i0:=by kernel_rfl
 i2:=by kernel_rfl
 i3:=by kernel_rfl
 i4:=by kernel_rfl
 i5:=by kernel_rfl
 i9:=by kernel_rfl
 i20:=by kernel_rfl
 i21:=by kernel_rfl
 i37:=by kernel_rfl
 i46:=by kernel_rfl
 i51:=by kernel_rfl
 i53:=by kernel_rfl
 i75:=by kernel_rfl
 i76:=by kernel_rfl
 i80:=by kernel_rfl
 i85:=by kernel_rfl
 i127:=by kernel_rfl
 i143:=by kernel_rfl
 i145:=by kernel_rfl
 i167:=by kernel_rfl
 i168:=by kernel_rfl
 i171:=by kernel_rfl
 i173:=by kernel_rfl
 i175:=by kernel_rfl
 i210:=by kernel_rfl
 i212:=by kernel_rfl
 i232:=by kernel_rfl
 i233:=by kernel_rfl
 m15:=by kernel_rfl
 m16:=by kernel_rfl
 m17:=by kernel_rfl
 m18:=by kernel_rfl
 m19:=by kernel_rfl
 c0:=by kernel_rfl
 c2:=by kernel_rfl
 c3:=by kernel_rfl
 c4:=by kernel_rfl
 c5:=by kernel_rfl
 c9:=by kernel_rfl
 c20:=by kernel_rfl
 c21:=by kernel_rfl
 c37:=by kernel_rfl
 c46:=by kernel_rfl
 c51:=by kernel_rfl
 c53:=by kernel_rfl
 c75:=by kernel_rfl
 c76:=by kernel_rfl
 c80:=by kernel_rfl
 c85:=by kernel_rfl
 c127:=by kernel_rfl
 c143:=by kernel_rfl
 c145:=by kernel_rfl
 c167:=by kernel_rfl
 c168:=by kernel_rfl
 c171:=by kernel_rfl
 c173:=by kernel_rfl
 c175:=by kernel_rfl
 c210:=by kernel_rfl
 c212:=by kernel_rfl
 c213:=by kernel_rfl
 c232:=by kernel_rfl
 c233:=by kernel_rfl }
def Tryz.laysComp_ren:Go.Shelf.Ren:=⟨fun | 194=>160 | n=>n,fun | 31=>22 | 9=>9 | 3=>3 | 4=>4 | 0=>0 | n=>n,fun | n=>n⟩
theorem Tryz.laysComp:Go.Proofs.Lays.n194 Tryz.prog Tryz.laysComp_ren:={
 mixed:=by kernel_rfl
 f194:=Tryz.func160.trans (congrArg some (by kernel_rfl))
 t0:=Tryz.underlying0
 a0:=Tryz.isAgg0
 z0:=Tryz.sizeOf0
 v0:=Tryz.zeroValue0
 t3:=Tryz.underlying3
 a3:=Tryz.isAgg3
 z3:=Tryz.sizeOf3
 v3:=Tryz.zeroValue3
 t4:=Tryz.underlying4
 a4:=Tryz.isAgg4
 z4:=Tryz.sizeOf4
 v4:=Tryz.zeroValue4
 t9:=Tryz.underlying9
 a9:=Tryz.isAgg9
 z9:=Tryz.sizeOf9
 v9:=Tryz.zeroValue9
 t31:=Tryz.underlying22
 a31:=Tryz.isAgg22
 z31:=Tryz.sizeOf22
 v31:=Tryz.zeroValue22 }
def Tryz.laysSortS_ren:Go.Shelf.Ren:=⟨fun | 190=>159 | 125=>240 | 258=>239 | 128=>298 | 129=>299 | 302=>289 | 303=>290 | 304=>291 | 305=>292 | 306=>293 | 307=>294 | 308=>295 | 309=>296 | 310=>297 | 333=>332 | 329=>333 | 330=>334 | 334=>335 | 335=>336 | 336=>337 | 344=>362 | n=>n,fun | 31=>22 | 9=>9 | 3=>3 | 46=>231 | 0=>0 | 51=>299 | 53=>301 | 4=>4 | 183=>293 | 182=>292 | 131=>90 | 5=>5 | 218=>330 | 222=>135 | 228=>351 | 229=>302 | n=>n,fun | n=>n⟩
theorem Tryz.laysSortS:Go.Proofs.Lays.n190 Tryz.prog Tryz.laysSortS_ren:={
 mixed:=by kernel_rfl
 f125:=Tryz.func240.trans (congrArg some (by kernel_rfl))
 f128:=Tryz.func298.trans (congrArg some (by kernel_rfl))
 f129:=Tryz.func299.trans (congrArg some (by kernel_rfl))
 f190:=Tryz.func159.trans (congrArg some (by kernel_rfl))
 f258:=Tryz.func239.trans (congrArg some (by kernel_rfl))
 f302:=Tryz.func289.trans (congrArg some (by kernel_rfl))
 f303:=Tryz.func290.trans (congrArg some (by kernel_rfl))
 f304:=Tryz.func291.trans (congrArg some (by kernel_rfl))
 f305:=Tryz.func292.trans (congrArg some (by kernel_rfl))
 f306:=Tryz.func293.trans (congrArg some (by kernel_rfl))
 f307:=Tryz.func294.trans (congrArg some (by kernel_rfl))
 f308:=Tryz.func295.trans (congrArg some (by kernel_rfl))
 f309:=Tryz.func296.trans (congrArg some (by kernel_rfl))
 f310:=Tryz.func297.trans (congrArg some (by kernel_rfl))
 f329:=Tryz.func333.trans (congrArg some (by kernel_rfl))
 f330:=Tryz.func334.trans (congrArg some (by kernel_rfl))
 f333:=Tryz.func332.trans (congrArg some (by kernel_rfl))
 f334:=Tryz.func335.trans (congrArg some (by kernel_rfl))
 f335:=Tryz.func336.trans (congrArg some (by kernel_rfl))
 f336:=Tryz.func337.trans (congrArg some (by kernel_rfl))
 f344:=Tryz.func362.trans (congrArg some (by kernel_rfl))
 t0:=Tryz.underlying0
 a0:=Tryz.isAgg0
 z0:=Tryz.sizeOf0
 v0:=Tryz.zeroValue0
 t3:=Tryz.underlying3
 a3:=Tryz.isAgg3
 z3:=Tryz.sizeOf3
 v3:=Tryz.zeroValue3
 t4:=Tryz.underlying4
 a4:=Tryz.isAgg4
 z4:=Tryz.sizeOf4
 v4:=Tryz.zeroValue4
 t5:=Tryz.underlying5
 a5:=Tryz.isAgg5
 z5:=Tryz.sizeOf5
 v5:=Tryz.zeroValue5
 t9:=Tryz.underlying9
 a9:=Tryz.isAgg9
 z9:=Tryz.sizeOf9
 v9:=Tryz.zeroValue9
 t31:=Tryz.underlying22
 a31:=Tryz.isAgg22
 z31:=Tryz.sizeOf22
 v31:=Tryz.zeroValue22
 t46:=Tryz.underlying231
 a46:=Tryz.isAgg231
 z46:=Tryz.sizeOf231
 v46:=Tryz.zeroValue231
 t51:=Tryz.underlying299
 a51:=Tryz.isAgg299
 z51:=Tryz.sizeOf299
 v51:=Tryz.zeroValue299
 t53:=Tryz.underlying301
 a53:=Tryz.isAgg301
 z53:=Tryz.sizeOf301
 v53:=Tryz.zeroValue301
 t131:=Tryz.underlying90
 a131:=Tryz.isAgg90
 z131:=Tryz.sizeOf90
 v131:=Tryz.zeroValue90
 t182:=Tryz.underlying292
 a182:=Tryz.isAgg292
 z182:=Tryz.sizeOf292
 v182:=Tryz.zeroValue292
 t183:=Tryz.underlying293
 a183:=Tryz.isAgg293
 z183:=Tryz.sizeOf293
 v183:=Tryz.zeroValue293
 t218:=Tryz.underlying330
 a218:=Tryz.isAgg330
 z218:=Tryz.sizeOf330
 v218:=Tryz.zeroValue330
 t222:=Tryz.underlying135
 a222:=Tryz.isAgg135
 z222:=Tryz.sizeOf135
 v222:=Tryz.zeroValue135
 t228:=Tryz.underlying351
 a228:=Tryz.isAgg351
 z228:=Tryz.sizeOf351
 v228:=Tryz.zeroValue351
 t229:=Tryz.underlying302
 a229:=Tryz.isAgg302
 z229:=Tryz.sizeOf302
 v229:=Tryz.zeroValue302 }
end Go.Proofs
namespace Go.Proofs
open Go.Shelf Go.RowKit Go.Lib Go
variable {P:Program} {ρ:Ren}
abbrev stops:ByteArray:=⟨#[46,91,63]⟩
theorem XM:∀ (i:Nat) (h:i<stops.size),(stops[i]'h).toNat<128∧((stops[i]'h).toNat:Int)≠65533:=by decide
theorem ZfG (n:Nat):128≤(UInt8.ofNat (128+n % 64)).toNat:=by rw [UInt8.toNat_ofNat'];omega
theorem Zal (r:Int) (h0:128≤r):(∃ a b,Utf8.encode r=⟨#[a,b]⟩∧128≤b.toNat)∨(∃ a b c,Utf8.encode r=⟨#[a,b,c]⟩∧128≤c.toNat)∨∃ a b c d,Utf8.encode r=⟨#[a,b,c,d]⟩:=by
 obtain ⟨c,hc,he⟩:∃ c:Nat,128≤c∧(if Utf8.valid r=true then r.toNat else Utf8.runeError)=c:=by
  by_cases h:Utf8.valid r=true
  ·exact ⟨r.toNat,by omega,by rw [Ai h]⟩
  ·exact ⟨Utf8.runeError,by decide,by rw [Aj h]⟩
 unfold Utf8.encode
 simp only [he]
 rw [Aa]
 by_cases h1:c<2048
 ·rw [Ai h1];exact .inl ⟨_,_,rfl,ZfG _⟩
 rw [Aj h1]
 by_cases h2:c<65536
 ·rw [Ai h2];exact .inr (.inl ⟨_,_,_,rfl,ZfG _⟩)
 ·rw [Aj h2];exact .inr (.inr ⟨_,_,_,_,rfl⟩)
set_option maxRecDepth 1000000 in
theorem Y9 (L:Lays.n152 P ρ) (w:World) :
  Calls P (ρ.f 152) #[.string stops,.int .i32 65533] w fun e w'=>e = .returned (.int .i64 (-1))∧∃ pos,w'=w.iter stops pos:=by
 have t3:=L.t3;have a3:=L.a3;have z3:=L.z3;have v3:=L.v3
 have t4:=L.t4;have a4:=L.a4;have z4:=L.z4;have v4:=L.v4
 have t5:=L.t5;have a5:=L.a5;have z5:=L.z5;have v5:=L.v5
 have t9:=L.t9;have a9:=L.a9;have z9:=L.z9;have v9:=L.v9
 have t21:=L.t21;have a21:=L.a21;have z21:=L.z21;have v21:=L.v21
 go_enter L.f152,Body.n152_ntmps ρ
 go_wp2
 go_loopg [5,6] 3 (fun g _ _ wx=>∃ i:Nat,i+g=3∧wx=w.iter stops i)
 case atStart=>exact ⟨0,by omega,rfl⟩
 case round =>
  obtain ⟨i,hig,rfl⟩:=hrel
  cases gk with
  | zero =>
   obtain rfl:i=3:=by omega
   have hnx:=run_next_end (P:=P) w stops 3
   go_wp2
   go_ret
   exact ⟨rfl,_,rfl⟩
  | succ g =>
   have hi:i<stops.size:=by show i<3;omega
   obtain ⟨x,hx⟩:∃ x:UInt8,stops[i]'hi=x:=⟨_,rfl⟩
   obtain ⟨hx128,hxn⟩:=XM i hi
   have hnx:=fun ty=>run_next_ascii (P:=P) w stops i ty hi hx128
   rw [hx] at hnx hxn
   have hb:((x.toNat:Int) == 65533)=false:=beq_eq_false_iff_ne.2 hxn
   go_wp2
   go_roundg g
   case measure=>omega
   case rel=>exact ⟨i+1,by omega,rfl⟩
set_option maxRecDepth 1000000 in
theorem Zcj (L:Lays.n152 P ρ) (r:Int) (w:World) (h0:128≤r) (h1:r≠65533) (hv:Lib.validRune r=false) :
  Calls P (ρ.f 152) #[.string stops,.int .i32 r] w fun e w'=>e = .returned (.int .i64 (-1))∧Below w.heap.size w w':=by
 have t3:=L.t3;have a3:=L.a3;have z3:=L.z3;have v3:=L.v3
 have t4:=L.t4;have a4:=L.a4;have z4:=L.z4;have v4:=L.v4
 have t5:=L.t5;have a5:=L.a5;have z5:=L.z5;have v5:=L.v5
 have t9:=L.t9;have a9:=L.a9;have z9:=L.z9;have v9:=L.v9
 have t21:=L.t21;have a21:=L.a21;have z21:=L.z21;have v21:=L.v21
 have e119:∀ args w,(callFunc (ρ.f 119) args).run P w = .ok (.enter (ρ.f 119) args) w:=enters_of L.f119 (by kernel_rfl) rfl
 have hlt:¬ r<128:=by omega
 have hne:(r == 65533)=false:=beq_eq_false_iff_ne.2 h1
 go_enter L.f152,Body.n152_ntmps ρ
 go_wp2_with (go_at_fn (ρ.f 119);refine (Any.utf8_ValidRune { L with } _ _).mono ?_;rintro e w' ⟨rfl,hw⟩;rw [hw,hv])
 go_ret
 exact ⟨rfl,.refl _ _⟩
set_option maxRecDepth 1000000 in
theorem Zcf (L:Lays.n152 P ρ) (r:Int) (w:World) (h0:128≤r) (h1:r≠65533) (hv:Lib.validRune r=true) (a b:UInt8) (he:Utf8.encode r=⟨#[a,b]⟩) (hb:128≤b.toNat) :
  Calls P (ρ.f 152) #[.string stops,.int .i32 r] w fun e w'=>e = .returned (.int .i64 (-1))∧Below w.heap.size w w':=by
 have mixed:=L.mixed
 have t3:=L.t3;have a3:=L.a3;have z3:=L.z3;have v3:=L.v3
 have t4:=L.t4;have a4:=L.a4;have z4:=L.z4;have v4:=L.v4
 have t5:=L.t5;have a5:=L.a5;have z5:=L.z5;have v5:=L.v5
 have t9:=L.t9;have a9:=L.a9;have z9:=L.z9;have v9:=L.v9
 have t21:=L.t21;have a21:=L.a21;have z21:=L.z21;have v21:=L.v21
 have e119:∀ args w,(callFunc (ρ.f 119) args).run P w = .ok (.enter (ρ.f 119) args) w:=enters_of L.f119 (by kernel_rfl) rfl
 have e137:∀ args w,(callFunc (ρ.f 137) args).run P w = .ok (.enter (ρ.f 137) args) w:=enters_of L.f137 (by kernel_rfl) rfl
 have hlt:¬ r<128:=by omega
 have hne:(r == 65533)=false:=beq_eq_false_iff_ne.2 h1
 have hbn:(((stops[1]'(by decide)).toNat:Int) != (((⟨#[a,b]⟩:ByteArray)[1]'(by simp [ByteArray.size])).toNat:Int))=true:=bne_iff_ne.2 (by show (91:Int)≠(b.toNat:Int);omega)
 have hsum:IntKind.i64.wrap (1+1)=2:=by decide
 have hx:Lib.indexByte (stops.extract 2 3).data.toList ((((⟨#[a,b]⟩:ByteArray)[1]'(by simp [ByteArray.size])).toNat:Int)).toNat.toUInt8 = -1:=by
  show Lib.indexByte [63] (b.toNat:Int).toNat.toUInt8 = -1
  have e:(b.toNat:Int).toNat.toUInt8=b:=by simp
  rw [e]
  have hn:((63:UInt8) == b)=false:=beq_eq_false_iff_ne.2 (fun q=>by rw [←q] at hb;exact absurd hb (by decide))
  simp [Lib.indexByte,hn]
 go_enter L.f152,Body.n152_ntmps ρ
 go_wp2_with (first
  | (go_at_fn (ρ.f 119);refine (Any.utf8_ValidRune { L with } _ _).mono ?_;rintro e w' ⟨rfl,hw⟩;rw [hw,hv])
  | (go_at_fn (ρ.f 137);refine (Any.strings_IndexByte { L with } _ _ _).mono ?_;rintro e w' ⟨rfl,hw⟩;rw [hw]))
 go_step3
 go_wp2
 go_loopg [9] 1 (fun g s9 wx=>s9 = .int .i64 1∧wx=w)
 case atStart=>exact ⟨rfl,rfl⟩
 case round =>
  obtain ⟨rfl,rfl⟩:=hrel
  go_wp2
  go_step3
  go_wp2
  refine wp_region_quiet_lit mixed (by kernel_rfl) ?_
  repeat (first | go_big_quiet_step (fail) | quiet_step (fail))
  refine wpQuiet_nil ?_
  intro _ hw'
  obtain ⟨nq,hw''⟩:=hw'
  subst hw''
  go_wp2
  refine wp_region_quiet_lit mixed (by kernel_rfl) ?_
  repeat (first | go_big_quiet_step (fail) | quiet_step (fail))
  refine wpQuiet_step (fun K hK=>?_)
  go_simp
  refine ⟨_,fun q=>((Any.strings_IndexByte { L with } _ _ _).mono fun e w' h=>⟨h.1,q,h.2⟩),hK _ ?_⟩
  clear hK K
  repeat (first | go_big_quiet_step (fail) | quiet_step (fail))
  refine wpQuiet_nil ?_
  intro _ hw'
  obtain ⟨nq2,hw''⟩:=hw'
  subst hw''
  rw [hx]
  go_wp2
  go_simp
  try rw [Exit.noGoto_ret]
  go_ret
  exact ⟨rfl,⟨rfl,rfl,rfl,Nat.le_refl _,fun _ _=>rfl⟩⟩
set_option maxRecDepth 1000000 in
theorem Zg (L:Lays.n152 P ρ) (r:Int) (w:World) (h0:128≤r) (h1:r≠65533) (hv:Lib.validRune r=true) (a b c:UInt8) (he:Utf8.encode r=⟨#[a,b,c]⟩) (hb:128≤c.toNat) :
  Calls P (ρ.f 152) #[.string stops,.int .i32 r] w fun e w'=>e = .returned (.int .i64 (-1))∧Below w.heap.size w w':=by
 have mixed:=L.mixed
 have t3:=L.t3;have a3:=L.a3;have z3:=L.z3;have v3:=L.v3
 have t4:=L.t4;have a4:=L.a4;have z4:=L.z4;have v4:=L.v4
 have t5:=L.t5;have a5:=L.a5;have z5:=L.z5;have v5:=L.v5
 have t9:=L.t9;have a9:=L.a9;have z9:=L.z9;have v9:=L.v9
 have t21:=L.t21;have a21:=L.a21;have z21:=L.z21;have v21:=L.v21
 have e119:∀ args w,(callFunc (ρ.f 119) args).run P w = .ok (.enter (ρ.f 119) args) w:=enters_of L.f119 (by kernel_rfl) rfl
 have e137:∀ args w,(callFunc (ρ.f 137) args).run P w = .ok (.enter (ρ.f 137) args) w:=enters_of L.f137 (by kernel_rfl) rfl
 have hlt:¬ r<128:=by omega
 have hne:(r == 65533)=false:=beq_eq_false_iff_ne.2 h1
 have hbn:(((stops[2]'(by decide)).toNat:Int) != (((⟨#[a,b,c]⟩:ByteArray)[2]'(by simp [ByteArray.size])).toNat:Int))=true:=bne_iff_ne.2 (by show (63:Int)≠(c.toNat:Int);omega)
 have hsum:IntKind.i64.wrap (2+1)=3:=by decide
 have hx:Lib.indexByte ByteArray.empty.data.toList ((((⟨#[a,b,c]⟩:ByteArray)[2]'(by simp [ByteArray.size])).toNat:Int)).toNat.toUInt8 = -1:=by
  show Lib.indexByte [] (c.toNat:Int).toNat.toUInt8 = -1
  have e:(c.toNat:Int).toNat.toUInt8=c:=by simp
  rw [e]
  rfl
 go_enter L.f152,Body.n152_ntmps ρ
 go_wp2_with (first
  | (go_at_fn (ρ.f 119);refine (Any.utf8_ValidRune { L with } _ _).mono ?_;rintro e w' ⟨rfl,hw⟩;rw [hw,hv])
  | (go_at_fn (ρ.f 137);refine (Any.strings_IndexByte { L with } _ _ _).mono ?_;rintro e w' ⟨rfl,hw⟩;rw [hw]))
 go_step3
 go_wp2
 go_loopg [9] 1 (fun g s9 wx=>s9 = .int .i64 2∧wx=w)
 case atStart=>exact ⟨rfl,rfl⟩
 case round =>
  obtain ⟨rfl,rfl⟩:=hrel
  go_wp2
  go_step3
  go_wp2
  refine wp_region_quiet_lit mixed (by kernel_rfl) ?_
  repeat (first | go_big_quiet_step (fail) | quiet_step (fail))
  refine wpQuiet_nil ?_
  intro _ hw'
  obtain ⟨nq,hw''⟩:=hw'
  subst hw''
  go_wp2
  refine wp_region_quiet_lit mixed (by kernel_rfl) ?_
  repeat (first | go_big_quiet_step (fail) | quiet_step (fail))
  refine wpQuiet_step (fun K hK=>?_)
  go_simp
  refine ⟨_,fun q=>((Any.strings_IndexByte { L with } _ _ _).mono fun e w' h=>⟨h.1,q,h.2⟩),hK _ ?_⟩
  clear hK K
  repeat (first | go_big_quiet_step (fail) | quiet_step (fail))
  refine wpQuiet_nil ?_
  intro _ hw'
  obtain ⟨nq2,hw''⟩:=hw'
  subst hw''
  rw [hx]
  go_wp2
  go_simp
  try rw [Exit.noGoto_ret]
  go_ret
  exact ⟨rfl,⟨rfl,rfl,rfl,Nat.le_refl _,fun _ _=>rfl⟩⟩
set_option maxRecDepth 1000000 in
theorem ZaX (L:Lays.n152 P ρ) (r:Int) (w:World) (h0:128≤r) (h1:r≠65533) (hv:Lib.validRune r=true) (a b c d:UInt8) (he:Utf8.encode r=⟨#[a,b,c,d]⟩) :
  Calls P (ρ.f 152) #[.string stops,.int .i32 r] w fun e w'=>e = .returned (.int .i64 (-1))∧Below w.heap.size w w':=by
 have mixed:=L.mixed
 have t3:=L.t3;have a3:=L.a3;have z3:=L.z3;have v3:=L.v3
 have t4:=L.t4;have a4:=L.a4;have z4:=L.z4;have v4:=L.v4
 have t5:=L.t5;have a5:=L.a5;have z5:=L.z5;have v5:=L.v5
 have t9:=L.t9;have a9:=L.a9;have z9:=L.z9;have v9:=L.v9
 have t21:=L.t21;have a21:=L.a21;have z21:=L.z21;have v21:=L.v21
 have e119:∀ args w,(callFunc (ρ.f 119) args).run P w = .ok (.enter (ρ.f 119) args) w:=enters_of L.f119 (by kernel_rfl) rfl
 have e137:∀ args w,(callFunc (ρ.f 137) args).run P w = .ok (.enter (ρ.f 137) args) w:=enters_of L.f137 (by kernel_rfl) rfl
 have hlt:¬ r<128:=by omega
 have hne:(r == 65533)=false:=beq_eq_false_iff_ne.2 h1
 go_enter L.f152,Body.n152_ntmps ρ
 go_wp2_with (first
  | (go_at_fn (ρ.f 119);refine (Any.utf8_ValidRune { L with } _ _).mono ?_;rintro e w' ⟨rfl,hw⟩;rw [hw,hv])
  | (go_at_fn (ρ.f 137);refine (Any.strings_IndexByte { L with } _ _ _).mono ?_;rintro e w' ⟨rfl,hw⟩;rw [hw]))
 go_step3
 go_wp2
 go_loopg [9] 1 (fun g s9 wx=>s9 = .int .i64 3∧wx=w)
 case atStart=>exact ⟨rfl,rfl⟩
 case round =>
  obtain ⟨rfl,rfl⟩:=hrel
  go_wp2
  go_simp
  try rw [Exit.noGoto_ret]
  go_ret
  exact ⟨rfl,.refl _ _⟩
theorem ZbY (L:Lays.n152 P ρ) (r:Int) (w:World) (h0:128≤r) :
  Calls P (ρ.f 152) #[.string stops,.int .i32 r] w fun e w'=>e = .returned (.int .i64 (-1))∧Below w.heap.size w w':=by
 by_cases h1:r=65533
 ·subst h1
  refine (Y9 L w).mono ?_
  rintro e w' ⟨h,g,rfl⟩
  exact ⟨h,(Below.refl _ _).alloc (Nat.le_refl _) _⟩
 cases hv:Lib.validRune r with
 | false=>exact Zcj L r w h0 h1 hv
 | true =>
  rcases Zal r h0 with ⟨a,b,he,hb⟩ | ⟨a,b,c,he,hb⟩ | ⟨a,b,c,d,he⟩
  ·exact Zcf L r w h0 h1 hv a b he hb
  ·exact Zg L r w h0 h1 hv a b c he hb
  ·exact ZaX L r w h0 h1 hv a b c d he
theorem get!_at (s:ByteArray) (k:Nat) (h:k<s.size):s.data.toList[k]? = some (s.get! k):=by
 rw [Lib.data_getElem? s k h]
 congr 1
 exact (get_at s k h).symm
theorem Zbn (s : ByteArray) (pos : Nat) (h : pos < s.size) (ha : 128 ≤ (s[pos]'h).toNat) : pos + (Utf8.decode s pos).2 ≤ s.size ∧ ∀ j, pos ≤ j → j < pos + (Utf8.decode s pos).2 → 128 ≤ (s.get! j).toNat := by
  have h0 : 128 ≤ (s.get! (pos + 0)).toNat := by rw [get_at s pos h]; exact ha
  have fin : ∀ n, (∀ k, k < n → pos + k < s.size ∧ 128 ≤ (s.get! (pos + k)).toNat) → 0 < n → pos + n ≤ s.size ∧ ∀ j, pos ≤ j → j < pos + n → 128 ≤ (s.get! j).toNat := fun n hn h1 =>
    ⟨by have := (hn (n - 1) (by omega)).1; omega, fun j hj hj2 => by have := (hn (j - pos) (by omega)).2; rwa [Nat.add_sub_cancel' hj] at this⟩
  have cont : ∀ k, (decide (pos + k < s.size) && (s.get! (pos + k)).toNat / 64 == 2) = true → pos + k < s.size ∧ 128 ≤ (s.get! (pos + k)).toNat := fun k q => by
    rw [Bool.and_eq_true, decide_eq_true_eq, beq_iff_eq] at q; exact ⟨q.1, by omega⟩
  have z : pos + 0 < s.size ∧ 128 ≤ (s.get! (pos + 0)).toNat := ⟨h, h0⟩
  have one : ∀ c : Nat, pos + (c, 1).2 ≤ s.size ∧ ∀ j, pos ≤ j → j < pos + (c, 1).2 → 128 ≤ (s.get! j).toNat := fun _ => fin 1 (fun k hk => by obtain rfl : k = 0 := by omega
                                                                                                                                               exact z) (by omega)
  unfold Utf8.decode
  simp only
  rw [Aa]
  split
  · rename_i q
    rw [Bool.and_eq_true] at q
    split
    · exact fin 2 (fun k hk => by
        rcases (by omega : k = 0 ∨ k = 1) with rfl | rfl
        · exact z
        · exact cont 1 q.2) (by omega)
    · exact one _
  · split
    · rename_i q
      rw [Bool.and_eq_true, Bool.and_eq_true] at q
      split
      · exact fin 3 (fun k hk => by
          rcases (by omega : k = 0 ∨ k = 1 ∨ k = 2) with rfl | rfl | rfl
          · exact z
          · exact cont 1 q.1.2
          · exact cont 2 q.2) (by omega)
      · exact one _
    · split
      · rename_i q
        rw [Bool.and_eq_true, Bool.and_eq_true, Bool.and_eq_true] at q
        split
        · exact fin 4 (fun k hk => by
            rcases (by omega : k = 0 ∨ k = 1 ∨ k = 2 ∨ k = 3) with rfl | rfl | rfl | rfl
            · exact z
            · exact cont 1 q.1.1.2
            · exact cont 2 q.1.2
            · exact cont 3 q.2) (by omega)
        · exact one _
      · exact one _
theorem YG (b:UInt8) (h:128≤b.toNat):stops.data.toList.contains b=false:=by
 show ([46,91,63]:List UInt8).contains b=false
 simp
 refine ⟨?_,?_,?_⟩<;>(rintro rfl;exact absurd h (by decide))
set_option maxRecDepth 1000000 in
theorem Z9 (L:Lays.n153 P ρ) (s:ByteArray) (w:World) (h8:s.size≤8) :
  Calls P (ρ.f 153) #[.string s,.string stops] w fun e w'=>e = .returned (.int .i64 (Lib.indexAny s.data.toList stops.data.toList))∧Below w.heap.size w w':=by
 have hemp:stops.toList.isEmpty=false:=by rw [Lib.toList_data];rfl
 have hn1:((stops.size:Int) == 1)=false:=by decide
 have h8z:decide ((8:Int)<(s.size:Int))=false:=Ag (by omega)
 have t3:=L.t3;have a3:=L.a3;have z3:=L.z3;have v3:=L.v3
 have t4:=L.t4;have a4:=L.a4;have z4:=L.z4;have v4:=L.v4
 have t5:=L.t5;have a5:=L.a5;have z5:=L.z5;have v5:=L.v5
 have t9:=L.t9;have a9:=L.a9;have z9:=L.z9;have v9:=L.v9
 have t21:=L.t21;have a21:=L.a21;have z21:=L.z21;have v21:=L.v21
 have e152:∀ args w,(callFunc (ρ.f 152) args).run P w = .ok (.enter (ρ.f 152) args) w:=enters_of L.f152 (by kernel_rfl) rfl
 have e226:∀ args w,(callFunc (ρ.f 226) args).run P w = .ok (.enter (ρ.f 226) args) w:=enters_of L.f226 (by kernel_rfl) rfl
 go_enter L.f153,Body.n153_ntmps ρ
 go_wp2_with (go_at_fn (ρ.f 226);refine (Any.strings_shouldUseASCIISet { L with } _ _).mono ?_;rintro e w' ⟨rfl,hw⟩;rw [hw,h8z])
 go_loopg [9,10] s.size (fun g _ _ wr=>∃ pos:Nat,pos+g=s.size∧wr.heap[w.heap.size]? = some (.stringIter s pos)∧Below w.heap.size w wr∧Lib.NoAny s.data.toList stops.data.toList pos)
 case atStart=>exact ⟨0,by omega,World.iter_heap w s 0,(Below.refl _ _).alloc (Nat.le_refl _) _,Lib.NoAny.zero _ _⟩
 case round =>
  obtain ⟨i,hig,hit,hbw,hno⟩:=hrel
  have HN:Aside (Lib.NoAny s.data.toList stops.data.toList i):=hno
  clear hno
  by_cases hp:i<s.size
  ·have hnx:=fun ty=>Lib.run_next_any_at (P:=P) wr w.heap.size s i ty hit hp
   have hit2:=Lib.iterAt_heap wr w.heap.size s i (i+(Utf8.decode s i).2) hit
   have hbw2:=Lib.below_iterAt hbw (k:=w.heap.size) (Nat.le_refl _) s (i+(Utf8.decode s i).2)
   obtain ⟨W1,hW1⟩:∃ W1,W1=wr.iterAt w.heap.size s (i+(Utf8.decode s i).2):=⟨_,rfl⟩
   rw [←hW1] at hnx hit2 hbw2
   have hlt1:w.heap.size<W1.heap.size:=(Array.getElem?_eq_some_iff.1 hit2).1
   clear hW1
   obtain ⟨x,hx⟩:∃ x:UInt8,s[i]'hp=x:=⟨_,rfl⟩
   have hxl:s.data.toList[i]? = some x:=by rw [←hx];exact Lib.data_getElem? s i hp
   by_cases hxa:x.toNat<128
   ·have hdec:Utf8.decode s i=(x.toNat,1):=by rw [←hx];exact decode_ascii s i hp (by rw [hx];exact hxa)
    rw [hdec] at hnx hit2
    have Hx:Aside (s.data.toList[i]? = some x):=hxl
    clear hxl hx hdec
    have hcon:=Lib.contains_iff_indexByte stops.data.toList x
    have hback:(x.toNat:Int).toNat.toUInt8=x:=by simp
    cases hin:stops.data.toList.contains x
    ·rw [hin] at hcon
     have hlt:¬ ((0:Int)≤Lib.indexByte stops.data.toList x):=of_decide_eq_false hcon.symm
     clear hcon
     go_wp2_with (go_at_fn (ρ.f 152);refine (Any.strings_IndexRune_ascii { L with } _ _ _ (by omega) (by omega)).mono ?_;rintro e w' ⟨rfl,hw⟩;rw [hw,hback])
     go_roundg (s.size-(i+1))
     case measure=>omega
     case rel=>exact ⟨i+1,by omega,hit2,hbw2,HN.out.succ Hx.out hin⟩
    ·rw [hin] at hcon
     have hge:(0:Int)≤Lib.indexByte stops.data.toList x:=of_decide_eq_true hcon.symm
     clear hcon
     go_wp2_with (go_at_fn (ρ.f 152);refine (Any.strings_IndexRune_ascii { L with } _ _ _ (by omega) (by omega)).mono ?_;rintro e w' ⟨rfl,hw⟩;rw [hw,hback])
     go_ret
     exact ⟨by rw [Lib.indexAny_hit HN.out Hx.out hin];rfl,hbw2⟩
   ·have hxa':128≤(s[i]'hp).toNat:=by rw [hx];omega
    obtain ⟨d1,d2⟩:=decode_high s i hp hxa'
    obtain ⟨d3,d4⟩:=Zbn s i hp hxa'
    have HD:Aside (Lib.NoAny s.data.toList stops.data.toList (i+(Utf8.decode s i).2)):=fun j b hj hb=>by
     by_cases c:j<i
     ·exact HN.out j b c hb
     ·have q:=d4 j (by omega) hj
      have hjs:j<s.size:=by omega
      rw [get!_at s j hjs] at hb
      cases hb
      exact YG _ q
    generalize hdd:Utf8.decode s i=dd at *
    obtain ⟨r,k⟩:=dd
    simp only at d1 d2 d3 HD hnx hit2
    clear d4 hdd hxa' hxa hxl hx
    have hlt:¬ ((0:Int) ≤ -1):=by decide
    go_wp2_with (go_at_fn (ρ.f 152);refine (ZbY { L with } _ _ (by omega)).mono ?_;rintro e w2 ⟨rfl,hb2⟩)
    go_roundg (s.size-(i+k))
    case measure=>omega
    case rel=>exact ⟨i+k,by omega,by rw [hb2.block w.heap.size hlt1];exact hit2,hbw2.trans ⟨hb2.os,hb2.tape,hb2.output,by have:=hb2.size;omega,fun j hj=>hb2.block j (by omega)⟩,HD.out⟩
  ·have hnx:=Lib.run_next_end_at (P:=P) wr w.heap.size s i
   have hnx:=fun ty=>hnx ty hit hp
   go_wp2
   go_ret
   exact ⟨by rw [Lib.indexAny_none (by rw [←Lib.size_eq];exact fun j b hj=>HN.out j b (by omega))];rfl,hbw⟩
end Go.Proofs
namespace Go.Proofs.YtmcnjijeocmkgaaGreatDoor
open Go Go.RowKit Go.Ev
abbrev Kp (w0:World):Prop:=∃ m,w0.cell? ⟨1,0,none⟩=some (.int .i64 m)
abbrev JX (w0:World):Prop:=(∃ ev,w0.cell? ⟨5,0,none⟩=some ev∧(ev = .nilIface∨∃ te pe,ev = .iface te pe))∧∃ ev,w0.cell? ⟨6,0,none⟩=some ev∧(ev = .nilIface∨∃ te pe,ev = .iface te pe)
theorem Za2:∀ (j:Nat) (b:UInt8),stops.data.toList[j]? = some b→b.toNat<128:=fun j b h=>by
 have a:b∈([46,91,63]:List UInt8):=List.mem_of_getElem? h
 simp only [List.mem_cons,List.not_mem_nil,or_false] at a
 rcases a with rfl | rfl | rfl<;>decide
theorem JO {w0 w:World} {p:Addr} {v:Value} (h:w0.cell? p=some v) (hb:Below w0.heap.size w0 w):w.cell? p=some v:=by
 rw [hb.cell (World.block_lt_of_cell? w0 _ h)];exact h
def XS (s:ByteArray):Int:=Lib.indexAny s.data.toList [46,91,63]
def Vn (s p:ByteArray):Bool:=Lib.hasPrefix s.data.toList p.data.toList
def Ob (s p:ByteArray):ByteArray:=⟨(Lib.cut s.data.toList p.data.toList).1.toArray⟩
def YU (s p:ByteArray):ByteArray:=⟨(Lib.cut s.data.toList p.data.toList).2.1.toArray⟩
def ZeX (s p:ByteArray):Bool:=(Lib.cut s.data.toList p.data.toList).2.2
def Ia (s:ByteArray):Int:=match Lib.atoiAll s.data.toList with
 | .ok v=>v
 | .range=>Lib.atoiSat s.data.toList
 | _=>0
def QP (s:ByteArray):Bool:=match Lib.atoiAll s.data.toList with
 | .ok _=>true
 | _=>false
section
variable (w0:World) (B:Ao) (Rw:Av) (L:As)
theorem Ua (s c:ByteArray) (h:s.size≤4294967280∧c=stops) :
  ACalls Tryz.prog w0 235 [.val (.string s),.val (.string c)] ⟨B,Rw,L⟩ fun v s'=>v=Am (XS s)∧s'=⟨B,Rw,L⟩ :=
 Jw (AY Tryz.func235 rfl (by decide)) rfl fun M w b j a=>by
  obtain ⟨h,rfl⟩:=h
  have:=Lj (us:=[.string s,.string stops]) a
  subst this
  by_cases h8:s.size≤8
  ·exact Z9 Tryz.lays153 s w h8
  ·refine (Tryz.strings_IndexAny_long (zero_of_info (show (Tryz.prog.info? 286).map (fun i=>(i.zero,i.size))=some (some (.agg (Array.replicate 256 (.bool false))),256) by kernel_rfl)).1 s stops w (by decide) (by omega) (by omega) (by decide) Za2).mono fun e g ⟨f,d⟩=>⟨f,?_⟩
   rw [d]
   exact ((Below.refl _ _).alloc (Nat.le_refl _) _).alloc (by simp) _
theorem Tj (s p:ByteArray) :
  ACalls Tryz.prog w0 236 [.val (.string s),.val (.string p)] ⟨B,Rw,L⟩ fun v s'=>v = .val (.bool (Vn s p))∧s'=⟨B,Rw,L⟩ :=
 Jw (AY Tryz.func236 rfl (by decide)) rfl fun M w b g a=>by
  have:=Lj (us:=[.string s,.string p]) a
  subst this
  exact (Tryz.strings_HasPrefix s p w).mono fun e f ⟨d,c⟩=>⟨d,c▸Below.refl _ _⟩
theorem Xu (s p:ByteArray):(Ob s p).size≤s.size∧(YU s p).size≤s.size:=by
 have e:s.data.toList.length=s.size:=by simp
 unfold Ob YU Lib.cut
 split
 ·refine ⟨?_,?_⟩
  ·show ((s.data.toList.take _).toArray).size≤_
   rw [List.size_toArray,List.length_take];omega
  ·show ((s.data.toList.drop _).toArray).size≤_
   rw [List.size_toArray,List.length_drop];omega
 ·refine ⟨?_,?_⟩
  ·show (s.data.toList.toArray).size≤_
   rw [List.size_toArray];omega
  ·exact Nat.zero_le _
theorem Zce (hM:Kp w0) (s p:ByteArray) (h:s.size≤4294967280) :
  ACalls Tryz.prog w0 237 [.val (.string s),.val (.string p)] ⟨B,Rw,L⟩ fun v s'=>v = .tup [.val (.string (Ob s p)),.val (.string (YU s p)),.val (.bool (ZeX s p))]∧s'=⟨B,Rw,L⟩ :=
 PT (rs:=[.string (Ob s p),.string (YU s p),.bool (ZeX s p)]) (AY Tryz.func237 rfl (by decide)) (by
  obtain ⟨j,l⟩:=Xu s p
  have k:∀ x:ByteArray,x.size≤s.size→FB (.string x)=true:=fun x q=>Ah (by unfold maxLen;omega)
  intro r b
  simp only [List.mem_cons,List.not_mem_nil,or_false] at b
  rcases b with rfl | rfl | rfl
  ·exact k _ j
  ·exact k _ l
  ·rfl) fun M w c d a=>by
  have:=Lj (us:=[.string s,.string p]) a
  subst this
  obtain ⟨m,i⟩:=hM
  exact (Tryz.strings_Cut s p m w (by omega) (JO i d)).mono fun e o ⟨g,n,f⟩=>⟨g,f▸(⟨rfl,rfl,rfl,Nat.le_refl _,fun _ _=>rfl⟩:Below w.heap.size w (w.drewN n))⟩
theorem Z4 (s:ByteArray):Bg (Ia s):=by
 unfold Ia Bg
 cases h:Lib.atoiAll s.data.toList with
 | ok v=>have:=Lib.atoiAll_bounds h;simp only;omega
 | range=>have:=Lib.atoiSat_bounds s.data.toList;simp only;omega
 | _=>simp only;omega
theorem ZaN (hE:JX w0) (s:ByteArray) (h:s.size≤4294967280) :
  ACalls Tryz.prog w0 238 [.val (.string s)] ⟨B,Rw,L⟩ fun v s'=>(∃ e,v = .tup [Am (Ia s),.val e]∧FT e=QP s∧Pq e=true)∧s'=⟨B,Rw,L⟩:=by
 refine ⟨AY Tryz.func238 rfl (by decide),fun M w j d g=>?_⟩
 have:=Lj (us:=[.string s]) g
 subst this
 obtain ⟨⟨x,o,u⟩,p,l,k⟩:=hE
 have fin:∀ (e:Value),FT e=QP s→Pq e=true→FB e=true→∀ c,Below w.heap.size w c→Comes' w0 M w (fun v s'=>(∃ e,v = .tup [Am (Ia s),.val e]∧FT e=QP s∧Pq e=true)∧s'=⟨B,Rw,L⟩) (.returned (.tuple #[.int .i64 (Ia s),e])) c:=by
  intro e q1 q2 q3 c f
  obtain ⟨r,q⟩:=d.later f w.heap.size 0 (Nat.le_refl _) (.inr rfl)
  refine ⟨_,_,.tup [Am (Ia s),.val e],_,rfl,⟨⟨e,rfl,q1,q2⟩,rfl⟩,q,r,.tup rfl fun i a b=>?_⟩
  have m:i=0∨i=1:=by simp at a;omega
  rcases m with rfl | rfl
  ·exact .flat rfl
  ·exact .flat q3
 cases hc:Lib.atoiAll s.data.toList with
 | ok v =>
  refine (Any.strconv_Atoi_ok Tryz.laysAtoi s (by omega) v hc w).mono ?_
  rintro en c ⟨rfl,n⟩
  have hv:Ia s=v:=by unfold Ia;rw [hc]
  rw [←hv]
  refine fin .nilIface (by unfold QP;rw [hc];rfl) rfl rfl c ?_
  rcases n with rfl | ⟨t,rfl⟩
  ·exact .refl _ _
  ·exact Lib.bytesWorld_below _ _ _
 | range =>
  refine (Any.strconv_Atoi_range Tryz.laysAtoi s (by omega) hc p w (JO l d.below) k).mono ?_
  rintro en c ⟨N,rfl,_,_,f⟩
  have hv:Ia s=Lib.atoiSat s.data.toList:=by unfold Ia;rw [hc]
  rw [←hv]
  exact fin _ (by unfold QP;rw [hc];rfl) rfl rfl c f
 | _ =>
  refine (Any.strconv_Atoi_syntax Tryz.laysAtoi s (by omega) hc x w (JO o d.below) u).mono ?_
  rintro en c ⟨N,rfl,_,_,f⟩
  have hv:Ia s=0:=by unfold Ia;rw [hc]
  rw [←hv]
  exact fin _ (by unfold QP;rw [hc];rfl) rfl rfl c f
end
@[go_sem] theorem Zfm:V3 Tryz.prog 248=true:=by kernel_rfl
def JP (g:Int) (b:ByteArray):Option Int :=
 if 0≤g∧g≤(b.size:Int)∧(b.size:Int)≤(b.size:Int) then
  if (b.extract g.toNat b.size).size≤4294967280∧(⟨#[46,91,63]⟩:ByteArray)=stops then
   if decide ((XS (b.extract g.toNat b.size))<0) then
    some (b.size:Int)
   else
    if Bg (g+(XS (b.extract g.toNat b.size))) then
     some (g+(XS (b.extract g.toNat b.size)))
    else none
  else none
 else none
theorem Xd (w0:World) (B:Ao) (Rw:Av) (L:As) (a0:Int) (la1:Nat) (a1:ByteArray) (hla1:B[la1]? = some ([.val (.string a1)])) (r:Int) (h:JP a0 a1=some r) :
  ACalls Tryz.prog w0 234 [Am a0,.box la1 0] ⟨B,Rw,L⟩ fun x st=>x=Am r∧st=⟨B,Rw,L⟩:=by
 rw [JP] at h
 refine hd [.tmp 3] Tryz.func234 Tryz.ntmps234 fun M0 W0 g e d b i f hs=>?_
 simp only [AA]
 have c:=(Ak.1 hla1).1
 have hs:=Ae (Aq hla1) hs
 exact go (tg (a:=([0,1],[0,1,4],[0,1,4,10],([3],()),[0,4],[3],()))) h hs g e d b f (q1 (Ua w0)) trivial
def Ni (b:ByteArray):Option (Part × ByteArray × Bool) :=
 (JP 1 b).bind fun g =>
 if Vn b ((⟨#[91,42,93]⟩:ByteArray)) then
  if 0≤3∧3≤(b.size:Int)∧(b.size:Int)≤(b.size:Int) then
   some ((Part.mk 3 0 (⟨#[]⟩:ByteArray),b.extract 3 b.size,true))
  else none
 else
  if 0≤0∧0<(b.size:Int) then
   if decide ((((b.get! 0).toNat:Int))=46) then
    if 0≤1∧1≤g∧g≤(b.size:Int) then
     if 0≤g∧g≤(b.size:Int)∧(b.size:Int)≤(b.size:Int) then
      some ((Part.mk 1 0 (b.extract 1 g.toNat),b.extract g.toNat b.size,true))
     else none
    else none
   else
    if 0≤0∧0<(b.size:Int) then
     if decide ((((b.get! 0).toNat:Int))=63) then
      if 0≤1∧1≤g∧g≤(b.size:Int) then
       if 0≤g∧g≤(b.size:Int)∧(b.size:Int)≤(b.size:Int) then
        some ((Part.mk 4 0 (b.extract 1 g.toNat),b.extract g.toNat b.size,true))
       else none
      else none
     else
      if 0≤1∧1≤(b.size:Int)∧(b.size:Int)≤(b.size:Int) then
       if (b.extract 1 b.size).size≤4294967280 then
        if (Ob (b.extract 1 b.size) ((⟨#[93]⟩:ByteArray))).size≤4294967280 then
         if 0≤0∧0<(b.size:Int) then
          if ((decide ((((b.get! 0).toNat:Int))=91))&&(ZeX (b.extract 1 b.size) ((⟨#[93]⟩:ByteArray))))&&(QP (Ob (b.extract 1 b.size) ((⟨#[93]⟩:ByteArray)))) then
           if Bg (Ia (Ob (b.extract 1 b.size) ((⟨#[93]⟩:ByteArray)))) then
            some ((Part.mk 2 (Ia (Ob (b.extract 1 b.size) ((⟨#[93]⟩:ByteArray)))) (⟨#[]⟩:ByteArray),YU (b.extract 1 b.size) ((⟨#[93]⟩:ByteArray)),GP ((⟨(Lib.itoa (Ia (Ob (b.extract 1 b.size) ((⟨#[93]⟩:ByteArray))))).toArray⟩:ByteArray)) (Ob (b.extract 1 b.size) ((⟨#[93]⟩:ByteArray)))))
           else none
          else
           some ((Part.mk 2 (Ia (Ob (b.extract 1 b.size) ((⟨#[93]⟩:ByteArray)))) (⟨#[]⟩:ByteArray),YU (b.extract 1 b.size) ((⟨#[93]⟩:ByteArray)),false))
         else none
        else none
       else none
      else none
    else none
  else none
theorem Za3 (w0:World) (hE:JX w0) (hM:Kp w0) (hP:Pow10 w0) (B:Ao) (Rw:Av) (L:As) (a0:ByteArray) (r:Part × ByteArray × Bool) (h:Ni a0=some r) :
  ACalls Tryz.prog w0 156 [.val (.string a0)] ⟨B,Rw,L⟩ fun x st=>x = .tup [.agg (Am r.1.kind::(Am r.1.index::([.val (.string r.1.name)]))),.val (.string r.2.1),.val (.bool r.2.2)]∧st=⟨B,Rw,L⟩:=by
 rw [Ni] at h
 refine hd [.cell 2 146,.tmp 3,.tmp 4] Tryz.func156 Tryz.ntmps156 fun M0 W0 Q K J e O m hs=>?_
 simp only [AA]
 refine rg [1,2] hs ?_
 refine rg [1,2,5] hs ?_
 obtain ⟨U,w,h⟩:=bind_some h
 refine rc 2 [1,2,6] hs ?_;intro K3 u
 refine Ax _ (Xd w0 _ _ _ 1 B.length a0 ev _ w) (hv hs) ?_
 refine ne hs u ?_
 clear u
 apply An;intro K5 o
 apply Ar
 refine rc 2 [1,2,6,15] hs ?_;intro K6 n
 refine Ax _ (Tj w0 _ _ _ a0 ((⟨#[91,42,93]⟩:ByteArray))) (hv hs) ?_
 refine ne hs n ?_
 clear n
 refine B6 h hs ?_ ?_<;>intro hs h
 ·have d:=hs.1
  apply An;intro K8 v
  obtain ⟨N,h⟩:=Aw h
  apply Hu PS [3] [2,3,4] kr (fun s=>∃ (X:Ao) (rows:Av) (l:List AV),s=⟨B++([[.val (.string a0)],l]++X),rows,L⟩) 2 (B.length+2)
  ·simp +decide only [go_sem,Nat.reduceAdd]
  ·rintro s ⟨X,rows,l,rfl⟩
   refine ⟨1,?_⟩
   rw [Ap];simp +decide only [go_sem,Nat.reduceAdd,C6,d]
   (repeat' apply Ae)<;>first | rfl | exact cl
  ·exact gd (tg (a:=(3,[2,3,4]))) hs
  simp +decide only [go_sem,Nat.reduceAdd,d]
  (repeat' apply Ae)<;>first | refine v _ _ ?_ | exact cl
  clear v
  exact rt h hs e m
 have d:=hs.1
 obtain ⟨H,h⟩:=Aw h
 refine rg [1,2,6,21] hs ?_
 refine B6 h hs ?_ ?_<;>intro hs h
 ·have b:=hs.1
  apply An;intro K13 i
  obtain ⟨E,h⟩:=Aw h
  obtain ⟨F,h⟩:=Aw h
  apply Hu PS [7] [2,3,4] kr (fun s=>∃ (X:Ao) (rows:Av) (l:List AV),s=⟨B++([[.val (.string a0)],l]++X),rows,L⟩) 2 (B.length+2)
  ·simp +decide only [go_sem,Nat.reduceAdd]
  ·rintro s ⟨X,rows,l,rfl⟩
   refine ⟨1,?_⟩
   rw [Ap];simp +decide only [go_sem,Nat.reduceAdd,C6,d,b]
   (repeat' apply Ae)<;>first | rfl | exact cl
  ·exact gd (tg (a:=(7,[2,3,4]))) hs
  simp +decide only [go_sem,Nat.reduceAdd,d,b]
  (repeat' apply Ae)<;>first | refine i _ _ ?_ | exact cl
  clear i
  exact rt h hs e m
 have b:=hs.1
 obtain ⟨D,h⟩:=Aw h
 refine rg [1,2,6,32] hs ?_
 refine B6 h hs ?_ ?_<;>intro hs h
 ·have c:=hs.1
  apply An;intro K19 k
  obtain ⟨z,h⟩:=Aw h
  obtain ⟨C,h⟩:=Aw h
  apply Hu PS [7] [2,3,4] kr (fun s=>∃ (X:Ao) (rows:Av) (l:List AV),s=⟨B++([[.val (.string a0)],l]++X),rows,L⟩) 2 (B.length+2)
  ·simp +decide only [go_sem,Nat.reduceAdd]
  ·rintro s ⟨X,rows,l,rfl⟩
   refine ⟨1,?_⟩
   rw [Ap];simp +decide only [go_sem,Nat.reduceAdd,C6,d,b,c]
   (repeat' apply Ae)<;>first | rfl | exact cl
  ·exact gd (tg (a:=(7,[2,3,4]))) hs
  simp +decide only [go_sem,Nat.reduceAdd,d,b,c]
  (repeat' apply Ae)<;>first | refine k _ _ ?_ | exact cl
  clear k
  exact rt h hs e m
 have c:=hs.1
 refine sk [1,2] hs o ?_
 clear o
 obtain ⟨G,h⟩:=Aw h
 obtain ⟨t,h⟩:=Aw h
 refine rc 2 [1,2,7,8,9] hs ?_;intro K22 j
 refine Ax _ (Zce w0 _ _ _ hM (a0.extract 1 a0.size) ((⟨#[93]⟩:ByteArray)) t) (hv hs) ?_
 refine ne hs j ?_
 clear j
 apply An;intro K25 g
 obtain ⟨p,h⟩:=Aw h
 apply Au 2 [1,2,7,8,9,10,11]
 rw [Ap];simp +decide only [go_sem,Nat.reduceAdd,d,b,c,and_false,if_false]
 (repeat' apply Ae)<;>first | (refine EI _ (ZaN w0 _ _ _ hE (Ob (a0.extract 1 a0.size) ((⟨#[93]⟩:ByteArray))) p) (by first | rfl | (simp +decide only [go_sem,Nat.reduceAdd,d,b,c,and_false,if_false];done) | (simp +decide only [go_sem,Nat.reduceAdd,Vl.cs,Ty.cs,d,b,c,and_false,if_false];done)) ?_;rintro _ _ ⟨⟨Ev27,rfl,Hn27,Hi27⟩,rfl⟩) | exact cl
 rw [Ap];simp +decide only [go_sem,Nat.reduceAdd,d,b,c,Hn27,Hi27,and_false,if_false]
 (repeat' apply Ae)<;>first | refine g _ _ ?_ | exact cl
 clear g
 apply An;intro K28 f
 obtain ⟨y,h⟩:=Aw h
 rcases Bool.eq_false_or_eq_true (((decide ((((a0.get! 0).toNat:Int))=91))&&(ZeX (a0.extract 1 a0.size) ((⟨#[93]⟩:ByteArray))))&&(QP (Ob (a0.extract 1 a0.size) ((⟨#[93]⟩:ByteArray))))) with hf30 | hf30
 ·replace h:=Bq h hf30
  obtain ⟨q,h⟩:=Aw h
  apply Au 2 [2,3,4]
  rw [Ap];simp +decide only [go_sem,Nat.reduceAdd,d,b,c,Hn27,Hi27,and_false,if_false,hf30]
  (repeat' apply Ae)<;>first | refine Ax _ (XG w0 _ _ _ hP (Ia (Ob (a0.extract 1 a0.size) ((⟨#[93]⟩:ByteArray)))) q) (by first | rfl | (simp +decide only [go_sem,Nat.reduceAdd,d,b,c,Hn27,Hi27,and_false,if_false,hf30];done) | (simp +decide only [go_sem,Nat.reduceAdd,Vl.cs,Ty.cs,d,b,c,Hn27,Hi27,and_false,if_false,hf30];done)) ?_ | exact cl
  rw [Ap];simp +decide only [go_sem,Nat.reduceAdd,d,b,c,Hn27,Hi27,and_false,if_false,hf30]
  (repeat' apply Ae)<;>first | refine f _ _ ?_ | exact cl
  clear f
  apply A0;simp +decide only [go_sem,Nat.reduceAdd,d,b,c,Hn27,Hi27,and_false,if_false,hf30]
  have hgt:=Option.some.inj h;subst hgt
  first | refine Cb e rfl m.pre ev ⟨?_,rfl⟩ | refine DT e rfl m.pre ev ⟨?_,rfl⟩
  first | rfl | (simp +decide only [go_sem,Nat.reduceAdd,d,b,c,Hn27,Hi27,and_false,if_false,hf30];done) | (simp +decide only [go_sem,Nat.reduceAdd,Vl.cs,Ty.cs,d,b,c,Hn27,Hi27,and_false,if_false,hf30];done)
 ·replace h:=Bo h hf30
  apply Au 2 [2,3,4]
  rw [Ap];simp +decide only [go_sem,Nat.reduceAdd,d,b,c,Hn27,Hi27,and_false,if_false,hf30]
  (repeat' apply Ae)<;>first | refine G4 ?_ | exact cl
  rw [Ap];simp +decide only [go_sem,Nat.reduceAdd,d,b,c,Hn27,Hi27,and_false,if_false,hf30]
  (repeat' apply Ae)<;>first | refine f _ _ ?_ | exact cl
  clear f
  apply A0;simp +decide only [go_sem,Nat.reduceAdd,d,b,c,Hn27,Hi27,and_false,if_false,hf30]
  have hgt:=Option.some.inj h;subst hgt
  first | refine Cb e rfl m.pre ev ⟨?_,rfl⟩ | refine DT e rfl m.pre ev ⟨?_,rfl⟩
  first | rfl | (simp +decide only [go_sem,Nat.reduceAdd,d,b,c,Hn27,Hi27,and_false,if_false,hf30];done) | (simp +decide only [go_sem,Nat.reduceAdd,Vl.cs,Ty.cs,d,b,c,Hn27,Hi27,and_false,if_false,hf30];done)
def KL (n:Nat)  (b:List Part):Option ((List Part) × Int) :=
 if decide (16<(b.length:Int)) then
  some (([],9))
 else
  some ((b,0))
def Hk (n:Nat)  : Nat→(List Part)→ByteArray→Option ((List Part) × Int)
 | 0,_,_=>none
 | m+1,b,g =>
  if !(GP g (⟨#[]⟩:ByteArray)) then
   (Ni g).bind fun h =>
   if !h.2.2 then
    some (([],13))
   else
    (EG h.1).bind fun q =>
    if !q then
     some (([],13))
    else
     if (b.length+1)*32≤140737488355328∧b.length+1≤4611686018427387904 then
      (Hk n m) (b++([h.1])) h.2.1
     else none
  else
   KL n b
def Do (n:Nat) (b:ByteArray):Option ((List Part) × Int) :=
 if GP b (⟨#[]⟩:ByteArray) then
  some (([],4))
 else
  if decide (200<(b.size:Int)) then
   some (([],5))
  else
   if ((⟨#[46]⟩:ByteArray)).size+b.size≤9223372036854775807 then
    Hk n n ([]) (((⟨#[46]⟩:ByteArray))++b)
   else none
theorem Il (w0:World) (hE:JX w0) (hM:Kp w0) (hP:Pow10 w0) (n:Nat) (B:Ao) (Rw:Av) (L:As) (a0:ByteArray) (r:(List Part) × Int) (h:Do n a0=some r) :
  ACalls Tryz.prog w0 66 [.val (.string a0)] ⟨B,Rw,L⟩ fun x st=>x = .tup [.list (r.1.map AG) .none,Am r.2]∧st=⟨B,Rw,L⟩:=by
 rw [Do] at h
 refine hd [.tmp 2,.tmp 3] Tryz.func66 Tryz.ntmps66 fun M0 W0 y o l i D j hs=>?_
 simp only [AA]
 refine rg [0] hs ?_
 apply An;intro K2 q
 apply Ar
 refine rg [0,9] hs ?_
 refine B6 h hs ?_ ?_<;>intro hs h
 ·refine rg [2,3] hs ?_
  exact rt h hs i j
 refine rg [0,12] hs ?_
 refine B6 h hs ?_ ?_<;>intro hs h
 ·refine rg [2,3] hs ?_
  exact rt h hs i j
 refine sk [0] hs q ?_
 clear q
 refine rg [0,4] hs ?_
 refine AB (fun e st=>∃ (f:List Part) (g:Ev.Own),Ck e st B Rw L [(4,true,.list (f.map AG) g)] [] [(3,f.length,g)] (KL n f=some r)) ?_ ?_
 ·intro K12 u
  obtain ⟨v,h⟩:=Aw h
  have p:=v
  try simp +decide only [go_sem] at p
  refine rg [4,5] hs ?_
  apply Ar
  refine AC (fun m e st=>∃ (c:List Part) (d:ByteArray) (b:Ev.Own),Ck e st B Rw L [(4,true,.list (c.map AG) b),(5,true,.val (.string d))] [] [(3,c.length,b)] (Hk n m c d=some r)) n ⟨([]),(((⟨#[46]⟩:ByteArray))++a0),.full,([]),Rw,ef hs,ef hs,Owns.of_eq ((j).full 3 0) Ew,h⟩ ?_
  rintro ml15 e st ⟨c,d,b,Xl15,Rl15,rfl,rfl,j,h⟩ Ul15 Vl15
  cases ml15 with
  | zero=>cases h
  | succ ml15 =>
  rw [Hk] at h
  have z:=j.unders
  simp only [List.mem_cons,List.not_mem_nil,or_false,forall_eq_or_imp,forall_eq] at z
  refine td y o l i j ?_
  apply An;intro K16 k
  refine rg [4,5,19] hs ?_
  refine B6 h hs ?_ ?_<;>intro hs h
  rotate_left
  ·refine sx [4] hs u ?_
   exact ⟨c,b,([]),Rl15,ef hs,ef hs,Owns.of_eq (j) Ew,h⟩
  refine sk [4,5] hs k ?_
  clear k
  apply Ar
  obtain ⟨C,t,h⟩:=bind_some h
  refine rc 2 [4,6,7,8] hs ?_;intro K19 w
  refine Ax _ (Za3 w0 hE hM hP _ _ _ d _ t) (hv hs) ?_
  exact go (tg (a:=(([4,6,7,32],[2,3],()),[4,6,7,32],([2,3],()),[4,6,7],[4,5],()))) h hs y o l i j (q2 (MO w0) (ae Rk NN)) (q2 w (fun e s=>Vl15 ml15 e s (Nat.lt_succ_self _)))
 ·clear h;rintro e st ⟨f,g,Xk11,Rk11,rfl,rfl,j,h⟩
  rw [KL] at h
  exact go (tg (a:=([4,40],([2,3],()),[4],[2,3],()))) h hs y o l i j trivial trivial
theorem QT (c:List UInt8):∀ l:List UInt8,Lib.indexAny l c<(l.length:Int)
 | []=>by show (-1:Int)<0;decide
 | b::l=>by
  have ih:=QT c l
  rw [Lib.indexAny,List.length_cons]
  split
  ·omega
  ·split<;>omega
theorem X5 (s:ByteArray):s.data.toList.length=s.size:=by simp
theorem ZhI (s:ByteArray) (h1:1≤s.size) (h2:s.size≤300):∃ y:Nat,JP 1 s=some (y:Int)∧1≤y∧y≤s.size:=by
 have e:((1:Int).toNat)=1:=rfl
 have d:(s.extract 1 s.size).size=s.size-1:=by rw [ByteArray.size_extract];omega
 have b:=Lib.indexAny_ge [46,91,63] (s.extract 1 s.size).data.toList
 have a:=QT [46,91,63] (s.extract 1 s.size).data.toList
 rw [X5,d] at a
 rw [JP,Ai ⟨by decide,by omega,by omega⟩,e,Ai ⟨by rw [d];omega,rfl⟩]
 have b : -1≤XS (s.extract 1 s.size):=b
 have a:XS (s.extract 1 s.size)<((s.size-1:Nat):Int):=a
 by_cases c:XS (s.extract 1 s.size)<0
 ·rw [Ai (Ah c)]
  exact ⟨s.size,rfl,h1,Nat.le_refl _⟩
 ·rw [Aj (by rw [decide_eq_true_eq];exact c),Ai (by unfold Bg;omega)]
  exact ⟨(1+XS (s.extract 1 s.size)).toNat,congrArg some (by omega),by omega,by omega⟩
theorem Zbq {s:ByteArray} (h:Vn s ⟨#[91,42,93]⟩=true):3≤s.size:=by
 have h:[91,42,93].isPrefixOf s.data.toList=true:=h
 have:=(List.isPrefixOf_iff_prefix.1 h).length_le
 rw [X5] at this
 exact this
theorem Zfb (s:ByteArray) (h1:1≤s.size) (h2:s.size≤300):∃ (p:Part) (r:ByteArray) (b:Bool),Ni s=some (p,r,b)∧r.size<s.size∧p.wf:=by
 obtain ⟨y,e,o,q⟩:=ZhI s h1 h2
 have f:∀ x:ByteArray,x.size≤300→x.size≤maxLen:=fun x h=>Nat.le_trans h (by decide)
 have c:Bg 0:=by decide
 have j:Bg 1:=by decide
 have l:Bg 2:=by decide
 have i:Bg 3:=by decide
 have k:Bg 4:=by decide
 have a:(⟨#[]⟩:ByteArray).size≤maxLen:=by decide
 have g:(y:Int).toNat=y:=rfl
 rw [Ni,e,Af]
 by_cases c1:Vn s ⟨#[91,42,93]⟩=true
 ·have:=Zbq c1
  rw [Ai c1,Ai ⟨by decide,by omega,by omega⟩]
  exact ⟨_,_,_,rfl,by rw [ByteArray.size_extract];omega,i,c,a⟩
 rw [Aj c1,Ai ⟨by decide,by omega⟩]
 by_cases c2:decide (((s.get! 0).toNat:Int)=46)=true
 ·rw [Ai c2,Ai ⟨by decide,by omega,by omega⟩,Ai ⟨by omega,by omega,by omega⟩,g]
  exact ⟨_,_,_,rfl,by rw [ByteArray.size_extract];omega,j,c,f _ (by simp only;rw [ByteArray.size_extract];omega)⟩
 rw [Aj c2,Ai ⟨by decide,by omega⟩]
 by_cases c3:decide (((s.get! 0).toNat:Int)=63)=true
 ·rw [Ai c3,Ai ⟨by decide,by omega,by omega⟩,Ai ⟨by omega,by omega,by omega⟩,g]
  exact ⟨_,_,_,rfl,by rw [ByteArray.size_extract];omega,k,c,f _ (by simp only;rw [ByteArray.size_extract];omega)⟩
 have t:(s.extract 1 s.size).size=s.size-1:=by rw [ByteArray.size_extract];omega
 obtain ⟨n,m⟩:=Xu (s.extract 1 s.size) ⟨#[93]⟩
 have d:=Z4 (Ob (s.extract 1 s.size) ⟨#[93]⟩)
 rw [Aj c3,Ai ⟨by decide,by omega,by omega⟩,Ab,Ab,Ai ⟨by decide,by omega⟩,Ai d]
 have fin:∀ b:Bool,∃ (p:Part) (r:ByteArray) (b':Bool),some (Part.mk 2 (Ia (Ob (s.extract 1 s.size) ⟨#[93]⟩)) ⟨#[]⟩,YU (s.extract 1 s.size) ⟨#[93]⟩,b)=some (p,r,b')∧r.size<s.size∧p.wf:=fun b =>
  ⟨_,_,_,rfl,by omega,l,d,a⟩
 split
 ·exact fin _
 ·exact fin _
def YR (l:List Part):Prop:=l.length≤16∧∀ p∈l,p.wf∧pOk p=true
theorem U0 (n:Nat):∀ (m:Nat) (l:List Part) (s:ByteArray),s.size<m→l.length+s.size≤300→(∀ p∈l,p.wf∧pOk p=true)→∃ r:List Part × Int,Hk n m l s=some r∧YR r.1
 | 0,l,s,h,_,_=>absurd h (Nat.not_lt_zero _)
 | m+1,l,s,hm,hs,hp=>by
  rw [Hk,ZO]
  by_cases c:s.size=0
  ·rw [Ah c,Aj (by decide),KL]
   by_cases d:16<(l.length:Int)
   ·rw [Ai (Ah d)]
    exact ⟨_,rfl,by simp,by simp⟩
   ·rw [Aj (by rw [decide_eq_true_eq];exact d)]
    exact ⟨_,rfl,by simp only;omega,hp⟩
  ·obtain ⟨p,r,b,e,f,a⟩:=Zfb s (by omega) (by omega)
   rw [Ag c,Ai (by rfl),e,Af]
   cases b with
   | false=>exact ⟨_,rfl,by simp,by simp⟩
   | true =>
    rw [Aj (show ¬ (!true)=true by decide),UD p a,Af]
    cases hv:pOk p with
    | false=>exact ⟨_,rfl,by simp,by simp⟩
    | true =>
     rw [Aj (show ¬ (!true)=true by decide),Ab]
     exact U0 n m (l++[p]) r (by omega) (by rw [List.length_append,List.length_singleton];omega) (fun q hq=>by
      rcases List.mem_append.1 hq with hq | hq
      ·exact hp q hq
      ·rw [List.mem_singleton.1 hq];exact ⟨a,hv⟩)
theorem Zca (n:Nat) (hn:302≤n) (s:ByteArray):∃ r:List Part × Int,Do n s=some r∧YR r.1:=by
 rw [Do]
 by_cases c:GP s ⟨#[]⟩=true
 ·rw [Ai c];exact ⟨_,rfl,by simp,by simp⟩
 rw [Aj c]
 by_cases d:200<(s.size:Int)
 ·rw [Ai (Ah d)];exact ⟨_,rfl,by simp,by simp⟩
 have z:(⟨#[46]⟩:ByteArray).size=1:=rfl
 rw [Aj (by rw [decide_eq_true_eq];exact d),Ai (by rw [z];omega)]
 exact U0 n n [] _ (by rw [ByteArray.size_append,z];omega) (by rw [ByteArray.size_append,z,List.length_nil];omega) (by simp)
def prs (n:Nat) (s:ByteArray):List Part × Int:=(Do n s).getD ([],4)
theorem Zbv (n:Nat) (hn:302≤n) (s:ByteArray):Do n s=some (prs n s)∧YR (prs n s).1:=by
 obtain ⟨r,e,h⟩:=Zca n hn s
 rw [prs,e]
 exact ⟨rfl,h⟩
def EF (b:Part):Bool :=
 !(decide (b.kind=1))
theorem Pm (w0:World) (B:Ao) (Rw:Av) (L:As) (a0:Part) (r:Bool) (h:EF a0=r) :
  ACalls Tryz.prog w0 153 [.agg (Am a0.kind::(Am a0.index::([.val (.string a0.name)])))] ⟨B,Rw,L⟩ fun x st=>x = .val (.bool r)∧st=⟨B,Rw,L⟩:=by
 rw [EF] at h
 refine hd [.tmp 2] Tryz.func153 Tryz.ntmps153 fun M0 W0 f c b a e d hs=>?_
 simp only [AA]
 refine rg [1] hs ?_
 refine rg [2] hs ?_
 exact rT h hs a d
theorem Ou (w0:World) (B:Ao) (Rw:Av) (L:As) (a0:Part) :
  ACalls Tryz.prog w0 153 [.agg (Am a0.kind::(Am a0.index::([.val (.string a0.name)])))] ⟨B,Rw,L⟩ fun x st=>x = .val (.bool (EF a0))∧st=⟨B,Rw,L⟩:=Pm w0 B Rw L a0 _ rfl
def Gp (n:Nat)  : Option Bool :=
 some (true)
def B9 (n:Nat) (q:List Part) (y:List Part):Nat→Int→Option Bool
 | 0,_=>none
 | m+1,b =>
  if decide (b<(q.length:Int)) then
   (Cj q b).bind fun g =>
   (Cj y b).bind fun h =>
   if !(decide (g.kind=h.kind)&&(decide (g.index=h.index)&&(GP g.name h.name))) then
    some (false)
   else
    if Bg (b+1) then
     (B9 n q y m) (b+1)
    else none
  else
   Gp n 
def DW (n:Nat) (b:List Part) (g:List Part):Option Bool :=
 if !(decide ((b.length:Int)=(g.length:Int))) then
  some (false)
 else
  B9 n b g n 0
theorem LF (w0:World) (n:Nat) (B:Ao) (Rw:Av) (L:As) (a0:List Part) (a1:List Part) (r:Bool) (h:DW n a0 a1=some r) :
  ACalls Tryz.prog w0 175 [.list (a0.map AG) .none,.list (a1.map AG) .none] ⟨B,Rw,L⟩ fun x st=>x = .val (.bool r)∧st=⟨B,Rw,L⟩:=by
 rw [DW] at h
 refine hd [.tmp 4] Tryz.func175 Tryz.ntmps175 fun M0 W0 k g f c l d hs=>?_
 simp only [AA]
 refine rg [0,1] hs ?_
 apply An;intro K2 i
 refine rg [0,1,10] hs ?_
 refine B6 h hs ?_ ?_<;>intro hs h
 ·refine rg [4] hs ?_
  exact rt h hs c d
 refine sk [0,1] hs i ?_
 clear i
 refine AB (fun e st=>Ck e st B Rw L [] [] [] (Gp n  = some r)) ?_ ?_
 ·intro K8 j
  refine rg [0,1,12,13] hs ?_
  apply Ar
  refine AC (fun m e st=>∃ (b:Int),Ck e st B Rw L [(0,true,.list (a0.map AG) .none),(1,true,.list (a1.map AG) .none),(12,true,Am (a0.length:Int)),(13,true,Am b)] [] [] (B9 n a0 a1 m b=some r)) n ⟨0,([]),Rw,ef hs,ef hs,d,h⟩ ?_
  rintro ml10 e st ⟨b,Xl10,Rl10,rfl,rfl,d,h⟩ Ul10 Vl10
  cases ml10 with
  | zero=>cases h
  | succ ml10 =>
  rw [B9] at h
  exact go (tg (a:=([0,1,12,13,14],([0,1,12,13],[0,1,5,12,13],[9,0,1,12,13,24],([4],()),[0,1,12,13],[0,1,12,13],()),[],()))) h hs k g f c d trivial (q2 j (fun e s=>Vl10 ml10 e s (Nat.lt_succ_self _)))
 ·clear h;rintro e st ⟨Xk7,Rk7,rfl,rfl,d,h⟩
  rw [Gp] at h
  refine td k g f c d ?_
  refine rg [4] hs ?_
  exact rt h hs c d
def Gy (n:Nat) (g:List Part) (b:List Part):Option Bool :=
 if decide ((b.length:Int)≤(g.length:Int)) then
  if 0≤0∧0≤(b.length:Int)∧(b.length:Int)≤(g.length:Int) then
   (DW n (g.take b.length) b).bind fun h =>
   some (h)
  else none
 else
  some (false)
theorem Pj (w0:World) (n:Nat) (B:Ao) (Rw:Av) (L:As) (a0:List Part) (a1:List Part) (r:Bool) (h:Gy n a0 a1=some r) :
  ACalls Tryz.prog w0 155 [.list (a0.map AG) .none,.list (a1.map AG) .none] ⟨B,Rw,L⟩ fun x st=>x = .val (.bool r)∧st=⟨B,Rw,L⟩:=by
 rw [Gy] at h
 refine hd [.tmp 4] Tryz.func155 Tryz.ntmps155 fun M0 W0 f d c b g e hs=>?_
 simp only [AA]
 exact go (tg (a:=([0,1],([4],()),[4],()))) h hs f d c b e (q1 (LF w0 n)) trivial
def Gs (n:Nat) (b:List Part) (g:List Part):Option Bool :=
 (Gy n g b).bind fun q =>
 if q then
  some (true)
 else
  (Gy n b g).bind fun h =>
  some (h)
theorem PG (w0:World) (n:Nat) (B:Ao) (Rw:Av) (L:As) (a0:List Part) (la1:Nat) (a1:List Part) (hla1:B[la1]? = some ([.list (a1.map AG) .none])) (r:Bool) (h:Gs n a0 a1=some r) :
  ACalls Tryz.prog w0 154 [.list (a0.map AG) .none,.box la1 0] ⟨B,Rw,L⟩ fun x st=>x = .val (.bool r)∧st=⟨B,Rw,L⟩:=by
 rw [Gs] at h
 refine hd [.tmp 3] Tryz.func154 Tryz.ntmps154 fun M0 W0 g e d b i f hs=>?_
 simp only [AA]
 have c:=(Ak.1 hla1).1
 have hs:=Ae (Aq hla1) hs
 exact go (tg (a:=([0,1],([3],()),[3],()))) h hs g e d b f (q1 (Pj w0 n)) trivial
def F5 (n:Nat)  : Option Int :=
 some ((-1))
def BC (n:Nat) (h:List Part) (y:Part→Option Bool):Nat→Int→Option Int
 | 0,_=>none
 | m+1,b =>
  if decide (b<(h.length:Int)) then
   (Cj h b).bind fun q =>
   (y q).bind fun g =>
   if g then
    some (b)
   else
    if Bg (b+1) then
     (BC n h y m) (b+1)
    else none
  else
   F5 n 
def EA (n:Nat) (b:List Part) (g:Part→Option Bool):Option Int :=
 BC n b g n 0
theorem NB (w0:World) (n:Nat) (B:Ao) (Rw:Av) (L:As) (a0:List Part) (fa1:FuncId) (ca1:List AV) (a1:Part→Option Bool) (ha1:∀ (x0:Part) r,a1 x0=some r→∀ B' rows,B <+: B'→Rw <+: rows→ACalls Tryz.prog w0 fa1 ([.agg (Am x0.kind::(Am x0.index::([.val (.string x0.name)])))]++ca1) ⟨B',rows,L⟩ fun v s=>v = .val (.bool r)∧s=⟨B',rows,L⟩) (r:Int) (h:EA n a0 a1=some r) :
  ACalls Tryz.prog w0 231 [.list (a0.map AG) .none,.clo fa1 ca1] ⟨B,Rw,L⟩ fun x st=>x=Am r∧st=⟨B,Rw,L⟩:=by
 rw [EA] at h
 refine hd [.tmp 4] Tryz.func231 Tryz.ntmps231 fun M0 W0 k i g b l f hs=>?_
 simp only [AA]
 have c:=BJ (l (.clo fa1 ca1) (by simp))
 refine rg [0,1] hs ?_
 refine AB (fun e st=>Ck e st B Rw L [] [] [] (F5 n  = some r)) ?_ ?_
 ·intro K4 j
  refine rg [0,1,7,8] hs ?_
  apply Ar
  refine AC (fun m e st=>∃ (d:Int),Ck e st B Rw L [(0,true,.list (a0.map AG) .none),(1,true,.clo fa1 ca1),(7,true,Am (a0.length:Int)),(8,true,Am d)] [] [] (BC n a0 a1 m d=some r)) n ⟨0,([]),Rw,ef hs,ef hs,f,h⟩ ?_
  rintro ml6 e st ⟨d,Xl6,Rl6,rfl,rfl,f,h⟩ Ul6 Vl6
  cases ml6 with
  | zero=>cases h
  | succ ml6 =>
  rw [BC] at h
  refine A1 k i g rfl b f (LI c f) (LI c f) ?_
  exact go (tg (a:=([0,1,7,8,9],([0,1,7,8],[0,1,5,7,8],[0,1,5,7,8,16],([4],()),[0,1,7,8],[0,1,7,8],()),[],()))) h hs k i g b f (q1 ha1) (q2 j (fun e s=>Vl6 ml6 e s (Nat.lt_succ_self _)))
 ·clear h;rintro e st ⟨Xk3,Rk3,rfl,rfl,f,h⟩
  rw [F5] at h
  refine A1 k i g rfl b f (LI c f) (LI c f) ?_
  refine rg [4] hs ?_
  exact rt h hs b f
def A3 (n:Nat) (b:List Part) (g:Part→Option Bool):Option Bool :=
 (EA n b g).bind fun h =>
 some (decide (0≤h))
theorem C9 (w0:World) (n:Nat) (B:Ao) (Rw:Av) (L:As) (a0:List Part) (fa1:FuncId) (ca1:List AV) (a1:Part→Option Bool) (ha1:∀ (x0:Part) r,a1 x0=some r→∀ B' rows,B <+: B'→Rw <+: rows→ACalls Tryz.prog w0 fa1 ([.agg (Am x0.kind::(Am x0.index::([.val (.string x0.name)])))]++ca1) ⟨B',rows,L⟩ fun v s=>v = .val (.bool r)∧s=⟨B',rows,L⟩) (r:Bool) (h:A3 n a0 a1=some r) :
  ACalls Tryz.prog w0 150 [.list (a0.map AG) .none,.clo fa1 ca1] ⟨B,Rw,L⟩ fun x st=>x = .val (.bool r)∧st=⟨B,Rw,L⟩:=by
 rw [A3] at h
 refine hd [.tmp 4] Tryz.func150 Tryz.ntmps150 fun M0 W0 o j i b l g hs=>?_
 simp only [AA]
 have e:=BJ (l (.clo fa1 ca1) (by simp))
 refine rg [0,1] hs ?_
 obtain ⟨m,f,h⟩:=bind_some h
 refine rc 2 [4] hs ?_;intro K2 c
 refine Ax _ (NB w0 n _ _ _ a0 fa1 ca1 a1 (fun x0 r k d a q1 q2=>ha1 x0 r k d a (List.IsPrefix.trans px q1) (g.pre.trans q2)) _ f) (hv hs) ?_
 refine ne hs c ?_
 clear c
 exact rt h hs b g
def Fb (n:Nat)  : Option Int :=
 some ((-1))
def DJ (n:Nat) (h:List (List Part)) (y:(List Part)→Option Bool):Nat→Int→Option Int
 | 0,_=>none
 | m+1,b =>
  if decide (b<(h.length:Int)) then
   (Cj h b).bind fun q =>
   (y q).bind fun g =>
   if g then
    some (b)
   else
    if Bg (b+1) then
     (DJ n h y m) (b+1)
    else none
  else
   Fb n 
def Ed (n:Nat) (b:List (List Part)) (g:(List Part)→Option Bool):Option Int :=
 DJ n b g n 0
theorem Ib (w0:World) (n:Nat) (B:Ao) (Rw:Av) (L:As) (a0:List (List Part)) (fa1:FuncId) (ca1:List AV) (a1:(List Part)→Option Bool) (ha1:∀ (x0:List Part) r,a1 x0=some r→∀ B' rows,B <+: B'→Rw <+: rows→ACalls Tryz.prog w0 fa1 ([.list (x0.map AG) .none]++ca1) ⟨B',rows,L⟩ fun v s=>v = .val (.bool r)∧s=⟨B',rows,L⟩) (r:Int) (h:Ed n a0 a1=some r) :
  ACalls Tryz.prog w0 162 [.list (a0.map (I8 AG)) .none,.clo fa1 ca1] ⟨B,Rw,L⟩ fun x st=>x=Am r∧st=⟨B,Rw,L⟩:=by
 rw [Ed] at h
 refine hd [.tmp 4] Tryz.func162 Tryz.ntmps162 fun M0 W0 k i g b l f hs=>?_
 simp only [AA]
 have c:=BJ (l (.clo fa1 ca1) (by simp))
 refine rg [0,1] hs ?_
 refine AB (fun e st=>Ck e st B Rw L [] [] [] (Fb n  = some r)) ?_ ?_
 ·intro K4 j
  refine rg [0,1,7,8] hs ?_
  apply Ar
  refine AC (fun m e st=>∃ (d:Int),Ck e st B Rw L [(0,true,.list (a0.map (I8 AG)) .none),(1,true,.clo fa1 ca1),(7,true,Am (a0.length:Int)),(8,true,Am d)] [] [] (DJ n a0 a1 m d=some r)) n ⟨0,([]),Rw,ef hs,ef hs,f,h⟩ ?_
  rintro ml6 e st ⟨d,Xl6,Rl6,rfl,rfl,f,h⟩ Ul6 Vl6
  cases ml6 with
  | zero=>cases h
  | succ ml6 =>
  rw [DJ] at h
  refine A1 k i g rfl b f (LI c f) (LI c f) ?_
  exact go (tg (a:=([0,1,7,8,9],([0,1,7,8],[0,1,5,7,8],[0,1,5,7,8,16],([4],()),[0,1,7,8],[0,1,7,8],()),[],()))) h hs k i g b f (q1 ha1) (q2 j (fun e s=>Vl6 ml6 e s (Nat.lt_succ_self _)))
 ·clear h;rintro e st ⟨Xk3,Rk3,rfl,rfl,f,h⟩
  rw [Fb] at h
  refine A1 k i g rfl b f (LI c f) (LI c f) ?_
  refine rg [4] hs ?_
  exact rt h hs b f
def Df (n:Nat) (b:List (List Part)) (g:(List Part)→Option Bool):Option Bool :=
 (Ed n b g).bind fun h =>
 some (decide (0≤h))
theorem GO (w0:World) (n:Nat) (B:Ao) (Rw:Av) (L:As) (a0:List (List Part)) (fa1:FuncId) (ca1:List AV) (a1:(List Part)→Option Bool) (ha1:∀ (x0:List Part) r,a1 x0=some r→∀ B' rows,B <+: B'→Rw <+: rows→ACalls Tryz.prog w0 fa1 ([.list (x0.map AG) .none]++ca1) ⟨B',rows,L⟩ fun v s=>v = .val (.bool r)∧s=⟨B',rows,L⟩) (r:Bool) (h:Df n a0 a1=some r) :
  ACalls Tryz.prog w0 96 [.list (a0.map (I8 AG)) .none,.clo fa1 ca1] ⟨B,Rw,L⟩ fun x st=>x = .val (.bool r)∧st=⟨B,Rw,L⟩:=by
 rw [Df] at h
 refine hd [.tmp 4] Tryz.func96 Tryz.ntmps96 fun M0 W0 o j i b l g hs=>?_
 simp only [AA]
 have e:=BJ (l (.clo fa1 ca1) (by simp))
 refine rg [0,1] hs ?_
 obtain ⟨m,f,h⟩:=bind_some h
 refine rc 2 [4] hs ?_;intro K2 c
 refine Ax _ (Ib w0 n _ _ _ a0 fa1 ca1 a1 (fun x0 r k d a q1 q2=>ha1 x0 r k d a (List.IsPrefix.trans px q1) (g.pre.trans q2)) _ f) (hv hs) ?_
 refine ne hs c ?_
 clear c
 exact rt h hs b g
def Jg (n:Nat)  : Option Int :=
 some (0)
def Gn (n:Nat) (z:List (ByteArray × Ex)):Nat→(List (List Part))→Int→Option Int
 | 0,_,_=>none
 | m+1,g,b =>
  if decide (b<(z.length:Int)) then
   (Cj z b).bind fun y =>
   (Do n y.1).bind fun h =>
   if !(decide (h.2=0)) then
    some (h.2)
   else
    (A3 n h.1 (fun (x0:Part)=>some (EF x0))).bind fun y25 =>
    if y25 then
     some (22)
    else
     (Df n g (fun (x0:List Part)=>Gs n x0 h.1)).bind fun q =>
     if q then
      some (7)
     else
      if (g.length+1)*24≤140737488355328∧g.length+1≤4611686018427387904 then
       if Bg (b+1) then
        (Gn n z m) (g++([h.1])) (b+1)
       else none
      else none
  else
   Jg n 
def CV (n:Nat) (b:List (ByteArray × Ex)):Option Int :=
 if decide (256<(b.length:Int)) then
  some (9)
 else
  Gn n b n ([]) 0
theorem Jj (w0:World) (hE:JX w0) (hM:Kp w0) (hP:Pow10 w0) (n:Nat) (B:Ao) (Rw:Av) (L:As) (a0:List (ByteArray × Ex)) (r:Int) (h:CV n a0=some r) :
  ACalls Tryz.prog w0 64 [.agg ([.list (a0.map Bd) .none])] ⟨B,Rw,L⟩ fun x st=>x=Am r∧st=⟨B,Rw,L⟩:=by
 rw [CV] at h
 refine hd [.tmp 2] Tryz.func64 Tryz.ntmps64 fun M0 W0 H q p c Z i hs=>?_
 simp only [AA]
 refine rg [1] hs ?_
 apply An;intro K2 w
 refine rg [1,11] hs ?_
 refine B6 h hs ?_ ?_<;>intro hs h
 ·refine rg [2] hs ?_
  exact rt h hs c i
 refine sk [1] hs w ?_
 clear w
 refine rg [1,3] hs ?_
 refine AB (fun e st=>Ck e st B Rw L [] [[.list (a0.map Bd) .none]] [] (Jg n  = some r)) ?_ ?_
 ·intro K9 O
  refine rg [3,13,14,15] hs ?_
  apply Ar
  refine AC (fun m e st=>∃ (b:List (List Part)) (g:Int) (d:Ev.Own),Ck e st B Rw L [(3,true,.list (b.map (I8 AG)) d),(13,true,.list (a0.map Bd) .none),(14,true,Am (a0.length:Int)),(15,true,Am g)] [[.list (a0.map Bd) .none]] [(1,b.length,d)] (Gn n a0 m b g=some r)) n ⟨([]),0,.full,([]),Rw,ef hs,ef hs,Owns.of_eq ((i).full 1 0) Ew,h⟩ ?_
  rintro ml11 e st ⟨b,g,d,Xl11,Rl11,rfl,rfl,i,h⟩ Ul11 Vl11
  cases ml11 with
  | zero=>cases h
  | succ ml11 =>
  rw [Gn] at h
  have Q:=i.unders
  simp only [List.mem_cons,List.not_mem_nil,or_false,forall_eq_or_imp,forall_eq] at Q
  refine td H q p c i ?_
  refine rg [3,13,14,15,16] hs ?_
  apply An;intro K13 k
  refine B6 h hs ?_ ?_<;>intro hs h
  rotate_left
  ·refine sx [] hs O ?_
   exact ⟨([]),Rl11,ef hs,ef hs,(i).sub (List.sublist_append_left [] [(1,b.length,d)]),h⟩
  refine sk [3,13,14,15] hs k ?_
  clear k
  apply An;intro K15 D
  apply Ar
  obtain ⟨N,F,h⟩:=bind_some h
  obtain ⟨J,G,t⟩:=Bl F
  have v:=Bn (f:=Bd) t
  have hs:=Ae v hs
  refine rg [3,5,13,14,15] hs ?_
  obtain ⟨u,E,h⟩:=bind_some h
  refine rc 2 [3,6,7,13,14,15] hs ?_;intro K18 o
  refine Ax _ (Il w0 hE hM hP n _ _ _ N.1 _ E) (hv hs) ?_
  refine ne hs o ?_
  clear o
  apply An;intro K20 z
  apply Ar
  refine rg [3,6,7,13,14,15,25] hs ?_
  refine B6 h hs ?_ ?_<;>intro hs h
  ·refine rg [2] hs ?_
   exact rt h hs c i
  obtain ⟨U,hy25,h⟩:=bind_some h
  refine rc 2 [3,6,13,14,15,29] hs ?_;intro K24 j
  refine Ax _ (C9 w0 n _ _ _ u.1 153 [] (fun (x0:Part)=>some (EF x0)) (fun x0 r hx Y rows' y K=>by cases hx;exact Ou w0 _ _ _ x0) _ hy25) (hv hs) ?_
  refine ne hs j ?_
  clear j
  refine B6 h hs ?_ ?_<;>intro hs h
  ·refine rg [2] hs ?_
   exact rt h hs c i
  obtain ⟨V,C,h⟩:=bind_some h
  refine rc 2 [3,6,13,14,15,32] hs ?_;intro K28 l
  refine Ax _ (GO w0 n _ _ _ b 154 [.box (B.length+2) 0] (fun (x0:List Part)=>Gs n x0 u.1) (fun x0 r hx Y rows' y K=>by exact PG w0 n _ _ _ x0 _ u.1 (Di y (ef hs)) _ hx) _ C) (hv hs) ?_
  refine ne hs l ?_
  clear l
  exact go (tg (a:=(([2],()),[3,6,13,14,15],[3,13,14,15],[3,13,14,15],()))) h hs H q p c i (q1 (ae VA NP)) (q3 z D (fun e s=>Vl11 ml11 e s (Nat.lt_succ_self _)))
 ·clear h;rintro e st ⟨Xk8,Rk8,rfl,rfl,i,h⟩
  rw [Jg] at h
  refine td H q p c i ?_
  refine rg [2] hs ?_
  exact rt h hs c i
end Go.Proofs.YtmcnjijeocmkgaaGreatDoor
namespace Go.Ev
open Go Go.RowKit
section
variable {o:VO} {n:Nat}
@[go_sem] theorem Zhe:(OV o n).cells=[OV o n]:=by cases o<;>rfl
@[go_sem] theorem ZiJ:(OV o n).one=true:=by cases o<;>rfl
@[go_sem] theorem Zgq:AX (OV o n)=true:=by cases o<;>rfl
@[go_sem] theorem Zg5:Fp (OV o n)=false:=by cases o<;>rfl
@[go_sem] theorem ZiK:Ui (OV o n)=false:=by cases o<;>rfl
@[go_sem] theorem VW (id ver:Nat):OV (.row id ver) n = .vec id ver 0 n:=rfl
def VO.under:VO→Nat→Prop
 | .nil,_=>True
 | .row id _,k=>id<k
@[go_sem] theorem Zhy {nb nr nl:Nat}:Under nb nr nl (OV o n)↔o.under nr:=by
 cases o with
 | nil=>exact ⟨fun _=>trivial,fun _ => .list (by simp) trivial⟩
 | row id ver=>exact ⟨fun h=>by cases h;assumption,fun h => .vec h⟩
@[go_sem] theorem Zfd (k:Nat):VO.nil.under k=True:=rfl
@[go_sem] theorem Ze6 (id ver k:Nat):(VO.row id ver).under k=(id<k):=rfl
end
def ZbK:VO→List RowA→VO
 | .nil,rows => .row rows.length 0
 | .row id ver,_ => .row id (ver+1)
def ZcY:VO→List RowA→Nat→List AV→List RowA
 | .nil,rows,sz,cs=>rows++[.vec 0 sz cs]
 | .row id ver,rows,sz,cs=>rows.set id (.vec (ver+1) sz cs)
section
variable {Rw rows:List RowA} {l:List (Nat × Nat × Own)} {ho:Own} {v:List VE} {o:VO} {sz:Nat} {cs:List AV}
theorem OwnsAt.up {lo:Nat} {x:Nat × Nat × Own} (h:OwnsAt lo ho rows x) (r:Av):OwnsAt lo ho (rows++r) x:=by
 rcases h with h | ⟨id,h1,h2,h3⟩
 ·exact .inl h
 ·exact .inr ⟨id,h1,h2,by rw [List.getElem?_append_left (Ak.1 h3).1];exact h3⟩
theorem OwnsAt.set {lo:Nat} {x:Nat × Nat × Own} (h:OwnsAt lo ho rows x) {i:Nat} {a s:Nat} {c:List AV} (hi:rows[i]? = some (.vec a s c)) (r:RowA):OwnsAt lo ho (rows.set i r) x:=by
 rcases h with h | ⟨id,h1,h2,h3⟩
 ·exact .inl h
 ·refine .inr ⟨id,h1,h2,?_⟩
  rw [List.getElem?_set_ne (fun e=>by rw [e,h3] at hi;cases hi)]
  exact h3
theorem VAt.lt {lo:Nat} {x:VE} (h:VAt lo ho rows x):x.1.under rows.length:=by
 rcases h with h | ⟨id,ver,h1,h2,h3⟩
 ·rw [h.1];trivial
 ·rw [h1];exact (Ak.1 h3).1
theorem Owns.nilV (h:Owns Rw rows l ho v) (sz:Nat):Owns Rw rows l ho ((.nil,sz,[])::v) :=
 ⟨h.len,h.keep,fun i r b q a=>h.calm i r b q fun x hx=>a x (List.mem_cons_of_mem _ hx),h.each,h.apart,fun x hx=>by
  rcases List.mem_cons.1 hx with rfl | hx
  ·exact .inl ⟨rfl,rfl⟩
  ·exact h.veach x hx,List.pairwise_cons.2 ⟨fun _ _ _ _ _ q=>(nomatch q),h.vapart⟩⟩
theorem Owns.newV (h:Owns Rw rows l ho v) (sz:Nat) (cs:List AV):Owns Rw (rows++[.vec 0 sz cs]) l ho ((.row rows.length 0,sz,cs)::v):=by
 have g:=h.len
 refine ⟨by simp;omega,fun i d j=>?_,fun i r c q f=>?_,fun x hx=>(h.each x hx).up _,h.apart,fun x hx=>?_,List.pairwise_cons.2 ⟨fun y m id a b q k=>?_,h.vapart⟩⟩
 ·rw [List.getElem?_append_left (by omega)];exact h.keep i d j
 ·by_cases d:i<rows.length
  ·rw [List.getElem?_append_left d] at c
   exact h.calm i r c q fun x hx=>f x (List.mem_cons_of_mem _ hx)
  ·have e:i=rows.length:=by
    have:=(Ak.1 c).1
    simp at this;omega
   exact absurd (by rw [e]) (f _ (List.mem_cons_self ..) 0)
 ·rcases List.mem_cons.1 hx with rfl | hx
  ·exact .inr ⟨_,_,rfl,.inl g,by simp⟩
  ·exact (h.veach x hx).up _
 ·cases q
  have:=(h.veach y m).lt
  rw [k] at this
  exact Nat.lt_irrefl _ this
theorem Owns.setV {id ver:Nat} (h:Owns Rw rows l ho ((.row id ver,sz,cs)::v)) (ver':Nat) (cs':List AV):Owns Rw (rows.set id (.vec ver' sz cs')) l ho ((.row id ver',sz,cs')::v):=by
 obtain ⟨p,h1,m,o,n,j,s⟩:=h
 obtain ⟨hid,hrow⟩:(Rw.length≤id∨ho = .row id)∧rows[id]? = some (.vec ver sz cs):=by
  rcases j _ (List.mem_cons_self ..) with q | ⟨c,ver',q1,q2,q3⟩
  ·cases q.1
  ·cases q1;exact ⟨q2,q3⟩
 have d:=(Ak.1 hrow).1
 obtain ⟨p1,p2⟩:=List.pairwise_cons.1 s
 refine ⟨by simpa using p,fun i hi hn=>?_,fun i r g q f=>?_,fun x hx=>(o x hx).set hrow _,n,fun x hx=>?_,List.pairwise_cons.2 ⟨fun y hy c a b q=>by cases q;exact p1 y hy id ver b rfl,p2⟩⟩
 ·rw [List.getElem?_set_ne (fun e=>by subst e;rcases hid with q | q;exact Nat.lt_irrefl _ (Nat.lt_of_lt_of_le hi q);exact hn q)];exact h1 i hi hn
 ·by_cases e:id=i
  ·exact absurd (by rw [e]) (f _ (List.mem_cons_self ..) ver')
  ·rw [List.getElem?_set_ne e] at g
   refine m i r g q fun x hx=>?_
   rcases List.mem_cons.1 hx with rfl | hx
   ·intro a k;cases k;exact e rfl
   ·exact f x (List.mem_cons_of_mem _ hx)
 ·rcases List.mem_cons.1 hx with rfl | hx
  ·exact .inr ⟨id,ver',rfl,hid,by simp [d]⟩
  ·exact (j x (List.mem_cons_of_mem _ hx)).set (fun a k=>p1 x hx id ver a rfl k) _
theorem Owns.bump (h:Owns Rw rows l ho ((o,sz,cs)::v)) (cs':List AV):Owns Rw (ZcY o rows sz cs') l ho ((ZbK o rows,sz,cs')::v):=by
 cases o with
 | nil =>
  have d:Owns Rw rows l ho v:=⟨h.len,h.keep,fun i r c q b=>h.calm i r c q fun x hx=>by
   rcases List.mem_cons.1 hx with rfl | hx
   ·intro a k;cases k
   ·exact b x hx,h.each,h.apart,fun x hx=>h.veach x (List.mem_cons_of_mem _ hx),(List.pairwise_cons.1 h.vapart).2⟩
  exact d.newV sz cs'
 | row id ver=>exact h.setV (ver+1) cs'
theorem Owns.eqV {v':List VE} (h:Owns Rw rows l ho v) (he:v=v'):Owns Rw rows l ho v':=he▸h
theorem Owns.nilZ (h:Owns Rw rows l ho ((o,sz,cs)::v)) (hs:0<sz) {n:Nat} (hn:cs.length=n*sz):o = .nil→n=0:=fun e=>by
 rcases h.veach _ (List.mem_cons_self ..) with q | ⟨id,ver,q1,q2,q3⟩
 ·have q2:cs=[]:=q.2
  rw [q2] at hn
  rcases Nat.eq_zero_or_pos n with w | w
  ·exact w
  ·have:=Nat.mul_pos w hs
   simp at hn;omega
 ·rw [e] at q1;cases q1
theorem Owns.underV (h:Owns Rw rows l ho v):∀ x∈v,x.1.under rows.length:=fun x a=>(h.veach x a).lt
theorem Owns.appendV {P:Program} {t el:TypeId} {by8 n m:Nat} {ag:Bool} (h:Owns Rw rows l ho ((o,sz,cs)::v)) (he:KA P t=some (el,sz,ag,by8)) (hz:(BA P el).isSome=true) (hs:0<sz) (hn:cs.length=n*sz)
  (hb:(n+m)*by8≤140737488355328) (hb2:n+m≤4611686018427387904) (ys:List AV) (hy:ys.length=m) (cs':List AV) (hc:cs++ys.flatMap (fun y=>y.pub.cells)=cs') :
  ∃ o' rows',Owns Rw rows' l ho ((o',sz,cs')::v)∧∀ (B:Ao) (L:As) (o2:Own),BD P ⟨B,rows,L⟩ t (OV o n) (.list ys o2)=((∀ y∈ys,y.cells.length=sz∧AX y=true),OV o' (n+m),⟨B,rows',L⟩):=by
 subst hc
 by_cases a:o = .nil∧m=0
 ·obtain ⟨rfl,rfl⟩:=a
  have e0:=h.nilZ hs hn rfl
  subst e0
  have ec:ys=[]:=List.length_eq_zero_iff.1 hy
  subst ec
  refine ⟨.nil,rows,h.eqV (by simp),fun B L o2=>?_⟩
  simp [OV,BD,he,AM,Bv,hs]
 refine ⟨_,_,h.bump _,fun B L o2=>?_⟩
 cases o with
 | nil =>
  have a:0<m:=Nat.pos_of_ne_zero fun e=>a ⟨rfl,e⟩
  have e0:=h.nilZ hs hn rfl
  subst e0
  have ec:cs=[]:=List.length_eq_zero_iff.1 (by simpa using hn)
  subst ec
  simp only [OV,BD,he,AM,Bv,CC,hs,hz,hy,a,Aj (Nat.ne_of_gt a),ZbK,ZcY,List.length_nil,List.nil_append,Nat.zero_add,true_and,and_true,Prod.mk.injEq,eq_iff_iff,and_self]
  rw [Nat.zero_add] at hb hb2
  exact ⟨fun q=>q.2.2,fun q=>⟨hb,hb2,q⟩⟩
 | row id ver =>
  obtain ⟨id',ver',e,hlt,hv⟩:∃ id' ver',VO.row id ver = .row id' ver'∧id'<rows.length∧Ey rows id' ver'=some (sz,cs):=by
   rcases h.veach _ (List.mem_cons_self ..) with q | ⟨id,ver,q1,q2,q3⟩
   ·cases q.1
   ·refine ⟨id,ver,q1,(Ak.1 q3).1,?_⟩
    simp only [Ey,q3,if_true]
  cases e
  have b:cs.take (n*sz)=cs:=List.take_of_length_le (by omega)
  have c:=hb
  simp only [OV,BD,he,hv,AM,Bv,CC,hs,hz,hy,ZbK,ZcY,b,Nat.le_of_eq hn.symm,true_and,and_true,Prod.mk.injEq,eq_iff_iff]
  exact ⟨fun q=>q.2.2,fun q=>⟨hb,hb2,q⟩⟩
theorem Owns.callV {rows':List RowA} {v':List VE} (h:Owns Rw rows l ho v) (hc:Owns rows rows' [] .none v'):Owns Rw rows' l ho (v'++v):=by
 have s:=h.len
 have u:=hc.len
 have keep:∀ i,i<rows.length→rows'[i]? = rows[i]? := fun i f=>hc.keep i f (fun q=>by cases q)
 have g:∀ x∈v,x.1.under rows.length:=h.underV
 have j:∀ x∈v',∀ id c,x.1 = .row id c→rows.length≤id:=fun x hx id c e=>by
  rcases hc.veach x hx with q | ⟨id',ver',q1,q2,q3⟩
  ·rw [q.1] at e;cases e
  ·rw [q1] at e;cases e;rcases q2 with q2 | q2;exact q2;cases q2
 refine ⟨by omega,fun i f o=>?_,fun i r d q m=>?_,fun x hx=>?_,h.apart,fun x hx=>?_,List.pairwise_append.2 ⟨hc.vapart,h.vapart,fun x hx y p id a b e k=>?_⟩⟩
 ·rw [keep i (by omega)];exact h.keep i f o
 ·by_cases e:rows.length≤i
  ·exact hc.calm i r d (.inl e) fun x hx=>m x (List.mem_append_left _ hx)
  ·rw [keep i (by omega)] at d
   exact h.calm i r d q fun x hx=>m x (List.mem_append_right _ hx)
 ·rcases h.each x hx with q | ⟨id,q1,q2,q3⟩
  ·exact .inl q
  ·exact .inr ⟨id,q1,q2,by rw [keep id (Ak.1 q3).1];exact q3⟩
 ·rcases List.mem_append.1 hx with hx | hx
  ·rcases hc.veach x hx with q | ⟨id,c,q1,q2,q3⟩
   ·exact .inl q
   ·exact .inr ⟨id,c,q1,.inl (by rcases q2 with q2 | q2;omega;cases q2),q3⟩
  ·rcases h.veach x hx with q | ⟨id,c,q1,q2,q3⟩
   ·exact .inl q
   ·exact .inr ⟨id,c,q1,q2,by rw [keep id (Ak.1 q3).1];exact q3⟩
 ·have t:=j x hx id a e
  have n:=g y p
  rw [k] at n
  exact absurd n (by simp only [VO.under];omega)
theorem Owns.dropV {x:VE} (h:Owns Rw rows l ho ((.nil,sz,cs)::v)):Owns Rw rows l ho v :=
 ⟨h.len,h.keep,fun i r c q b=>h.calm i r c q fun x hx=>by
  rcases List.mem_cons.1 hx with rfl | hx
  ·intro a k;cases k
  ·exact b x hx,h.each,h.apart,fun x hx=>h.veach x (List.mem_cons_of_mem _ hx),(List.pairwise_cons.1 h.vapart).2⟩
theorem Owns.deadV {id ver:Nat} (h:Owns Rw rows l ho ((.row id ver,sz,cs)::v)):Owns Rw (rows.set id (.dead (ver+1))) l ho v:=by
 obtain ⟨n,h1,g,j,p,c,o⟩:=h
 obtain ⟨hid,hrow⟩:(Rw.length≤id∨ho = .row id)∧rows[id]? = some (.vec ver sz cs):=by
  rcases c _ (List.mem_cons_self ..) with q | ⟨id',ver',q1,q2,q3⟩
  ·cases q.1
  ·cases q1;exact ⟨q2,q3⟩
 have b:=(Ak.1 hrow).1
 obtain ⟨m,f⟩:=List.pairwise_cons.1 o
 refine ⟨by simpa using n,fun i hi hn=>?_,fun i r hr q d=>?_,fun x hx=>(j x hx).set hrow _,p,fun x hx=>?_,f⟩
 ·rw [List.getElem?_set_ne (fun e=>by subst e;rcases hid with q | q;exact Nat.lt_irrefl _ (Nat.lt_of_lt_of_le hi q);exact hn q)];exact h1 i hi hn
 ·by_cases e:id=i
  ·subst e
   rw [List.getElem?_set_self b] at hr
   cases hr;rfl
  ·rw [List.getElem?_set_ne e] at hr
   refine g i r hr q fun x hx=>?_
   rcases List.mem_cons.1 hx with rfl | hx
   ·intro a k;cases k;exact e rfl
   ·exact d x hx
 ·exact (c x (List.mem_cons_of_mem _ hx)).set (fun a k=>m x hx id ver a rfl k) _
end
section
variable {P:Program} {w0:World} {n:Nat} {e:Env} {st:St} {M0:Mem} {W0:World} {ro:Option Nat} {Q:AQ} {c:Code}
variable {Rw:List RowA} {lw:List (Nat × Nat × Own)} {oh:Own} {v:List VE} {o:VO} {sz m:Nat} {cs xs:List AV}
theorem XQ (l i:Nat) {bs:List AV} (hl:st.boxes[l]? = some bs) (hi:bs[i]? = some (OV o m)) (ho:Owns Rw st.rows lw oh ((o,sz,cs)::v)) (ag:Bool) (hag:ag=true∨sz=1) (hs:0<sz) (hn:cs.length=m*sz) (hx:Ny sz ag cs 0 m=xs)
  (h:∀ rows',Owns Rw rows' lw oh v→DF P w0 n M0 W0 ro c Q e { st with boxes:=st.boxes.set l (bs.set i (.list xs .none)),rows:=rows' }):DF P w0 n M0 W0 ro c Q e st:=by
 cases o with
 | nil =>
  have e0:=ho.nilZ hs hn rfl
  subst e0
  have ex:xs=[]:=by rw [←hx];rfl
  subst ex
  exact QF l i hl hi rfl (h _ (ho.dropV (x:=(.nil,0,[]))))
 | row id ver =>
  rcases ho.veach _ (List.mem_cons_self ..) with q | ⟨id',ver',q1,q2,q3⟩
  ·cases q.1
  ·cases q1
   subst hx
   exact Sj l i ag hl hi (by simp only [Ey,q3,if_true]) hag (by rw [Nat.zero_add];omega) (h _ ho.deadV)
theorem ZM (k:Nat) (hk:look e k=some (true,OV o m)) (ho:Owns Rw st.rows lw oh ((o,sz,cs)::v)) (ag:Bool) (hag:ag=true∨sz=1) (hs:0<sz) (hn:cs.length=m*sz) (hx:Ny sz ag cs 0 m=xs)
  (h:∀ rows',Owns Rw rows' lw oh v→DF P w0 n M0 W0 ro c Q ((k,true,.list xs .none)::e) { st with rows:=rows' }):DF P w0 n M0 W0 ro c Q e st:=by
 cases o with
 | nil =>
  have e0:=ho.nilZ hs hn rfl
  subst e0
  have ex:xs=[]:=by rw [←hx];rfl
  subst ex
  exact ZeC k hk (h _ (ho.dropV (x:=(.nil,0,[]))))
 | row id ver =>
  rcases ho.veach _ (List.mem_cons_self ..) with q | ⟨id',ver',q1,q2,q3⟩
  ·cases q.1
  ·cases q1
   subst hx
   exact Ym k ag hk (by simp only [Ey,q3,if_true]) hag (by rw [Nat.zero_add];omega) (h _ ho.deadV)
end
theorem Ze2 {α:Type} {f:α→AV} {g:α→List AV} (sz:Nat) (hf:∀ x,f x = .agg (g x)) (hg:∀ x,(g x).length=sz) (xs:List α):Ny sz true (xs.flatMap fun x=>(f x).cells) 0 xs.length=xs.map f:=by
 have b:(xs.flatMap fun x=>(f x).cells)=xs.flatMap g:=by
  congr 1;funext x;rw [hf];rfl
 rw [b]
 refine List.ext_getElem (by simp [Ny]) fun i c a=>?_
 simp only [List.length_map] at a
 simp only [Ny,List.getElem_map,List.getElem_range,Nat.zero_add,Og,if_true]
 rw [Mc sz hg (List.getElem?_eq_getElem a),hf]
theorem Zu {α:Type} {f:α→AV} (hf:∀ x,(f x).cells=[f x]) (xs:List α):Ny 1 false (xs.flatMap fun x=>(f x).cells) 0 xs.length=xs.map f:=by
 have b:(xs.flatMap fun x=>(f x).cells)=xs.map f:=by
  induction xs with
  | nil=>rfl
  | cons x xs ih=>rw [List.flatMap_cons,ih,hf];rfl
 rw [b]
 refine List.ext_getElem (by simp [Ny]) fun i c a=>?_
 simp only [Ny,List.getElem_map,List.getElem_range,Nat.zero_add,Nat.mul_one,Og,Ya,Bool.false_eq_true,if_false]
 simp only [List.length_map] at a
 simp [a]
theorem JW {α:Type} {f:α→AV} {sz:Nat} (hf:∀ x,(f x).cells.length=sz) (xs:List α):(xs.flatMap fun x=>(f x).cells).length=xs.length*sz:=by
 induction xs with
 | nil=>simp
 | cons x xs ih=>rw [List.flatMap_cons,List.length_append,ih,hf,List.length_cons,Nat.succ_mul,Nat.add_comm]
section
variable {P:Program} {w0:World} {f:FuncId} {st:St}
def finV (st:St) (Post:AV→St→Prop) (r:AV) (s:St):Prop :=
 st.boxes.length≤s.boxes.length∧st.rows.length≤s.rows.length∧st.loops.length≤s.loops.length∧Calm st.boxes.length s.rows.length st.loops.length (s.cut st.boxes.length s.rows.length st.loops.length) ∧
  Under st.boxes.length s.rows.length st.loops.length r∧Post r (s.cut st.boxes.length s.rows.length st.loops.length)
theorem ACalls.finV {args:List AV} {Post:AV→St→Prop} (h:ACalls P w0 f args st (finV st Post)):ACalls P w0 f args st Post:=by
 refine ⟨h.1,fun M w b a c=>(h.2 M w b a c).mono ?_⟩
 rintro en m ⟨v,M',r,d,j,⟨k,n,e,l,i,g⟩,h3,h4,h5⟩
 exact ⟨v,M'.cut st.boxes.length d.rows.length st.loops.length,r,_,j,g,h3.cut (by have:=a.N;omega) (by have:=a.NR;omega) (by have:=a.loop.NL;omega) (by rw [h4.loop.NL];exact e),h4.cut k (Nat.le_refl _) e l,h5.cut i⟩
theorem Zh0 {B B' X:List (List AV)} {R0 rows:List RowA} {L l:List LoopA} {Post:AV→St→Prop} {r:AV} {ow:List (Nat × Nat × Own)} {v:List VE} (ho:Owns R0 rows ow .none v) (hc:Calm B.length R0.length L.length ⟨B',R0,L⟩) (hB:B'.length=B.length) (hu:Under B.length rows.length L.length r)
  (hv:∀ x∈v,∀ y∈x.2.2,Under B.length rows.length L.length y) (hp:Post r ⟨B',rows,L⟩):Go.Ev.finV ⟨B,R0,L⟩ Post r ⟨B'++X,rows,L++l⟩:=by
 have e:St.cut ⟨B'++X,rows,L++l⟩ B.length rows.length L.length=⟨B',rows,L⟩:=by simp [St.cut,←hB]
 have d:=ho.len
 refine ⟨by simp [hB],d,by simp,?_,hu,by simp only [e];exact hp⟩
 simp only [e]
 exact ⟨ho.rowsCalm (Nat.le_refl _) hc.rows hv,fun cs a x b=>CG (Nat.le_refl _) d (Nat.le_refl _) (hc.boxes cs a x b),fun f a k x b c=>CG (Nat.le_refl _) d (Nat.le_refl _) (hc.loops f a k x b c)⟩
theorem Zf7 {B B' X:List (List AV)} {R0 rows:List RowA} {L:List LoopA} {Post:AV→St→Prop} {r:AV} {ow:List (Nat × Nat × Own)} {v:List VE} (ho:Owns R0 rows ow .none v) (hc:Calm B.length R0.length L.length ⟨B',R0,L⟩) (hB:B'.length=B.length) (hu:Under B.length rows.length L.length r)
  (hv:∀ x∈v,∀ y∈x.2.2,Under B.length rows.length L.length y) (hp:Post r ⟨B',rows,L⟩):Go.Ev.finV ⟨B,R0,L⟩ Post r ⟨B'++X,rows,L⟩:=by
 have:=Zh0 (X:=X) (l:=[]) ho hc hB hu hv hp
 rwa [List.append_nil] at this
end
abbrev VP (Rw:Av) (o:VO) (sz:Nat) (cs:List AV):Prop:=VAt 0 .none Rw (o,sz,cs)
theorem VP.up {Rw rows:List RowA} {o:VO} {sz:Nat} {cs:List AV} {l:List (Nat × Nat × Own)} {v:List VE} (h:VP Rw o sz cs) (ho:Owns Rw rows l .none v):VP rows o sz cs:=by
 rcases h with q | ⟨id,ver,q1,q2,q3⟩
 ·exact .inl q
 ·refine .inr ⟨id,ver,q1,q2,?_⟩
  rw [ho.keep id (Ak.1 q3).1 (fun e=>by cases e)]
  exact q3
theorem VP.row {rows:List RowA} {o:VO} {sz:Nat} {cs:List AV} (h:VP rows o sz cs) (hne:0<cs.length):∃ id ver,o = .row id ver∧id<rows.length∧Ey rows id ver=some (sz,cs):=by
 rcases h with q | ⟨id,ver,q1,q2,q3⟩
 ·have q2:cs=[]:=q.2
  rw [q2] at hne;simp at hne
 ·refine ⟨id,ver,q1,(Ak.1 q3).1,?_⟩
  simp only [Ey,q3,if_true]
theorem VP.under {rows:List RowA} {o:VO} {sz:Nat} {cs:List AV} (h:VP rows o sz cs):o.under rows.length:=VAt.lt h
def hOf:VO→Own
 | .nil => .none
 | .row id _ => .row id
theorem VX {o:VO} {i:Nat} (h:hOf o = .row i):∃ ver,o = .row i ver:=by
 cases o with
 | nil=>cases h
 | row id ver=>cases h;exact ⟨ver,rfl⟩
section
variable {Rw rows rows':List RowA} {l:List (Nat × Nat × Own)} {ho:Own} {v:List VE} {o o':VO} {sz:Nat} {cs cs':List AV}
theorem Owns.enterV (h:Owns Rw rows l ho ((o,sz,cs)::v)):Owns rows rows [] (hOf o) [(o,sz,cs)]:=by
 refine ⟨Nat.le_refl _,fun _ _ _=>rfl,fun i r d q c=>?_,by simp,.nil,fun x b=>?_,by simp⟩
 ·rcases q with q | q
  ·have:=(Ak.1 d).1;omega
  ·obtain ⟨a,e⟩:=VX q
   exact absurd e (c _ (List.mem_singleton.2 rfl) a)
 ·rw [List.mem_singleton.1 b]
  rcases h.veach _ (List.mem_cons_self ..) with w | ⟨id,a,w1,w2,w3⟩
  ·exact .inl w
  ·refine .inr ⟨id,a,w1,.inr ?_,w3⟩
   simp only at w1
   rw [w1];rfl
theorem Owns.callG (h:Owns Rw rows l ho ((o,sz,cs)::v)) (hc:Owns rows rows' [] (hOf o) [(o',sz,cs')]):Owns Rw rows' l ho ((o',sz,cs')::v):=by
 have hx:=h.veach _ (List.mem_cons_self ..)
 have f:=hc.veach _ (List.mem_cons_self ..)
 obtain ⟨t,u⟩:=List.pairwise_cons.1 h.vapart
 have z:=h.len
 have C:=hc.len
 have own:∀ i,hOf o = .row i→(Rw.length≤i∨ho = .row i)∧∃ c,o = .row i c∧rows[i]? = some (.vec c sz cs):=fun i e=>by
  obtain ⟨c,e⟩:=VX e
  rcases hx with q | ⟨id,d,q1,q2,q3⟩
  ·simp only at q;rw [e] at q;cases q.1
  ·simp only at q1;rw [e] at q1;cases q1
   exact ⟨q2,c,e,q3⟩
 have keep:∀ i,i<rows.length→hOf o ≠ .row i→rows'[i]? = rows[i]? := fun i m g=>hc.keep i m g
 have n:∀ i b,o' = .row i b→rows.length≤i∨hOf o = .row i:=fun i b e=>by
  rcases f with q | ⟨id,c,q1,q2,q3⟩
  ·simp only at q;rw [e] at q;cases q.1
  ·simp only at q1;rw [e] at q1;cases q1;exact q2
 refine ⟨by omega,fun i m g=>?_,fun i r j q p=>?_,fun x hxm=>?_,h.apart,fun x hxm=>?_,List.pairwise_cons.2 ⟨fun y s id a b e k=>?_,u⟩⟩
 ·have:hOf o ≠ .row i:=fun e=>by
   rcases (own i e).1 with q | q
   ·omega
   ·exact g q
  rw [keep i (by omega) this];exact h.keep i m g
 ·by_cases e:rows.length≤i∨hOf o = .row i
  ·exact hc.calm i r j e fun x hx=>by rw [List.mem_singleton.1 hx];exact p _ (List.mem_cons_self ..)
  ·rw [keep i (by omega) (fun k=>e (.inr k))] at j
   refine h.calm i r j q fun x hx=>?_
   rcases List.mem_cons.1 hx with rfl | hx
   ·intro c k
    simp only at k
    exact e (.inr (by rw [k];rfl))
   ·exact p x (List.mem_cons_of_mem _ hx)
 ·rcases h.each x hxm with q | ⟨id,q1,q2,q3⟩
  ·exact .inl q
  ·refine .inr ⟨id,q1,q2,?_⟩
   rw [keep id (Ak.1 q3).1 fun e=>by
    obtain ⟨_,c,_,w⟩:=own id e
    rw [w] at q3;cases q3]
   exact q3
 ·rcases List.mem_cons.1 hxm with rfl | hxm
  ·rcases f with q | ⟨id,c,q1,q2,q3⟩
   ·exact .inl q
   ·refine .inr ⟨id,c,q1,?_,q3⟩
    rcases q2 with q2 | q2
    ·exact .inl (by omega)
    ·exact (own id q2).1
  ·rcases h.veach x (List.mem_cons_of_mem _ hxm) with q | ⟨id,c,q1,q2,q3⟩
   ·exact .inl q
   ·refine .inr ⟨id,c,q1,q2,?_⟩
    rw [keep id (Ak.1 q3).1 fun e=>by
     obtain ⟨_,d,w,_⟩:=own id e
     exact t x hxm id d c w q1]
    exact q3
 ·rcases n id a e with q | q
  ·have:=(h.veach y (List.mem_cons_of_mem _ s)).lt
   rw [k] at this
   exact absurd this (by simp only [VO.under];omega)
  ·obtain ⟨c,w⟩:=VX q
   exact t y s id c b w k
end
end Go.Ev
namespace Go.Ev
open Go Go.RowKit Go.Shelf Go.Lib Go.Proofs
def IQ:List Bool→List AV→List AV
 | b::m,a::l=>(if b=true then a.pubA else a)::IQ m l
 | [],l=>l.map AV.pubA
 | _::_,[]=>[]
@[go_sem] theorem ZiH (m:List Bool) (a:AV) (l:List AV):IQ (true::m) (a::l)=a.pubA::IQ m l:=rfl
@[go_sem] theorem ZiI (m:List Bool) (a:AV) (l:List AV):IQ (false::m) (a::l)=a::IQ m l:=rfl
@[go_sem] theorem ZiO (l:List AV):IQ [] l=l.map AV.pubA:=rfl
@[go_sem] theorem ZiQ (m:List Bool):IQ m []=[]:=by cases m<;>rfl
theorem Ss:∀ (m:List Bool) (l:List AV),(IQ m l).length=l.length∧∀ (i:Nat) (h1:i<(IQ m l).length) (h2:i<l.length),(IQ m l)[i]=l[i]∨(IQ m l)[i]=l[i].pubA
 | [],l=>⟨by simp [IQ],fun i h1 h2 => .inr (by simp [IQ])⟩
 | b::m,[]=>⟨rfl,fun i h1 h2=>absurd h2 (by simp)⟩
 | b::m,a::l=>by
  obtain ⟨h1,h2⟩:=Ss m l
  refine ⟨by simp [IQ,h1],fun i d c=>?_⟩
  cases i with
  | zero=>cases b with
   | true=>exact .inr rfl
   | false=>exact .inl rfl
  | succ i=>exact h2 i (by simpa [IQ] using d) (by simpa using c)
section
variable {P:Program} {w0:World} {st:St} {f:FuncId}
theorem ACalls.mask {m:List Bool} {args args':List AV} {Post:AV→St→Prop} (h:ACalls P w0 f args' st Post) (he:IQ m args=args'):ACalls P w0 f args st Post:=by
 subst he
 obtain ⟨k,n⟩:=Ss m args
 refine ⟨h.1,fun M w c g d=>h.2 M w c g ?_⟩
 obtain ⟨l,j⟩:=d
 refine ⟨by rw [k];exact l,fun i a b=>?_⟩
 have e:i<args.length:=by rw [←k];exact b
 rcases n i b e with q | q
 ·rw [q];exact j i a e
 ·rw [q];exact (j i a e).pubA
theorem N6 {cs args args':List AV} {k:AV→St→Prop} (m:List Bool) (Post:AV→St→Prop)
  (h:ACalls P w0 f args' st Post) (he:IQ m (args++cs)=args') (hk:∀ v s,Post v s→k v s):Jp P w0 true false (.clo f cs) args st k := .inr ⟨rfl,Post,fun _=>h.mask he,fun v s a _=>hk v s (a rfl)⟩
end
def I5:List Bool→List AV→List AV
 | b::m,a::l=>(if b=true then a.pubCell else a)::I5 m l
 | [],l=>l.map AV.pubCell
 | _::_,[]=>[]
@[go_sem] theorem Zi4 (m:List Bool) (a:AV) (l:List AV):I5 (true::m) (a::l)=a.pubCell::I5 m l:=rfl
@[go_sem] theorem ZiG (m:List Bool) (a:AV) (l:List AV):I5 (false::m) (a::l)=a::I5 m l:=rfl
@[go_sem] theorem ZiN (l:List AV):I5 [] l=l.map AV.pubCell:=rfl
@[go_sem] theorem Zi7 (m:List Bool):I5 m []=[]:=by cases m<;>rfl
def pubS (m:List Bool):AV→AV
 | .agg cs => .agg (I5 m cs)
 | x=>x
@[go_sem] theorem ZhK (m:List Bool) (cs:List AV):pubS m (.agg cs) = .agg (I5 m cs):=rfl
theorem Sv:∀ (m:List Bool) (l:List AV),(I5 m l).length=l.length∧∀ (i:Nat) (h1:i<(I5 m l).length) (h2:i<l.length),(I5 m l)[i]=l[i]∨(I5 m l)[i]=l[i].pubCell
 | [],l=>⟨by simp [I5],fun i h1 h2 => .inr (by simp [I5])⟩
 | b::m,[]=>⟨rfl,fun i h1 h2=>absurd h2 (by simp)⟩
 | b::m,a::l=>by
  obtain ⟨h1,h2⟩:=Sv m l
  refine ⟨by simp [I5,h1],fun i d c=>?_⟩
  cases i with
  | zero=>cases b with
   | true=>exact .inr rfl
   | false=>exact .inl rfl
  | succ i=>exact h2 i (by simpa [I5] using d) (by simpa using c)
theorem R.pubS {w0:World} {M:Mem} {w:World} (m:List Bool) {v:Value} {x:AV} (h:R w0 M w v x):R w0 M w v (pubS m x):=by
 cases h with
 | @agg us xs hl h1 h =>
  obtain ⟨e,f⟩:=Sv m xs
  refine .agg (by rw [e];exact hl) (fun x g=>?_) (fun i a b=>?_)
  ·obtain ⟨i,d,rfl⟩:=List.mem_iff_getElem.1 g
   have c:i<xs.length:=by rw [←e];exact d
   rcases f i d c with q | q
   ·rw [q];exact h1 _ (List.getElem_mem _)
   ·rw [q,AV.one_pubCell];exact h1 _ (List.getElem_mem _)
  ·have c:i<xs.length:=by rw [←e];exact b
   rcases f i b c with q | q
   ·rw [q];exact h i a c
   ·rw [q];exact (h i a c).pubCell
 | nil ho=>exact .nil ho
 | emp ho=>exact .emp ho
 | list sz us hc hm hcell hu ho=>exact .list sz us hc hm hcell hu ho
 | flat hf=>exact .flat hf
 | tup hl h=>exact .tup hl h
 | elem u k hcell hu=>exact .elem u k hcell hu
 | box hl=>exact .box hl
 | clo hl h=>exact .clo hl h
 | yld hk=>exact .yld hk
 | vec d hv h=>exact .vec d hv h
 | vel d hv h=>exact .vel d hv h
def ZaV (P:Program) (e:Env) (st:St):ResultVar→AV
 | .tmp t=>Az e (.tmp t)
 | .cell t ty=>(AZ P e true st (.load ty (.tmp t))).2.1
def ZfS (mk:List Bool) (P:Program) (rs:List ResultVar) (Post:AV→St→Prop):AQ:=fun x e st =>
 match x with
 | .normal | .ret=>(∀ r∈rs,SV P e st r)∧Post (pubS mk (WZ (rs.map (ZaV P e st)))) st
 | _=>False
attribute [go_sem] ZaV ZfS
section
variable {P:Program} {w0:World} {n:Nat} {M:Mem} {e:Env} {st:St} {a:Act} {w:World}
theorem YN (mk:List Bool) (h:Rel w0 n M e st a w) {fn:Func} {rs:List ResultVar} (hfn:fn.results=rs.toArray) (hrs:∀ r∈rs,SV P e st r) :
  ∃ v,(results fn a.tmps).run P w = .ok v w∧R w0 M w v (pubS mk (WZ (rs.map (ZaV P e st)))):=by
 let f:ResultVar→Sem Value:=fun
  | .tmp t=>pure (a.tmps.getD t undef)
  | .cell b t=>do loadVar t (← asAddr (a.tmps.getD b undef))
 have d:∀ r∈rs,∃ v,(f r).run P w = .ok v w∧R w0 M w v (ZaV P e st r):=by
  intro r c
  have:=hrs r c
  cases r with
  | tmp t=>exact ⟨_,rfl,A2 h (x := .tmp t) this⟩
  | cell b t =>
   obtain ⟨v,l,k⟩:=Ru h t (.tmp b) this
   exact ⟨v,l,k⟩
 classical
 let g:ResultVar→Value:=fun r=>if c:r∈rs then Classical.choose (d r c) else undef
 have j:∀ r∈rs,(f r).run P w = .ok (g r) w∧R w0 M w (g r) (ZaV P e st r):=by
  intro r c
  have:=Classical.choose_spec (d r c)
  have e:g r=Classical.choose (d r c):=by simp only [g,dif_pos c]
  rw [e];exact this
 have m:(fn.results.mapM f).run P w = .ok ((rs.map g).toArray) w:=by
  rw [hfn,Array.mapM_eq_mapM_toList]
  simp only [Sem.run_map,Nv f g rs (fun r c=>(j r c).1),Result.andThen_ok]
 have i:(results fn a.tmps).run P w = .ok (if h:(rs.map g).toArray.size=1 then (rs.map g).toArray[0] else .tuple (rs.map g).toArray) w:=by
  unfold results
  simp only [Sem.run_bind]
  refine Eq.trans (congrArg (fun x=>Result.andThen x _) m) ?_
  simp only [Result.andThen_ok,Sem.run_pure]
 refine ⟨_,i,?_⟩
 exact R.pubS mk (SE rs g fun r c=>(j r c).2)
theorem YC (mk:List Bool) {f:FuncId} {fn:Func} {c:Code} {args:List AV} {rs:List ResultVar} {Post:AV→St→Prop} (hf:P.funcs[f]? = some fn) (hb:fn.body=some c) (hrs:fn.results=rs.toArray) (hn:fn.ntmps=n)
  (hen:Jl P f) (ha:args.length≤n)
  (h:∀ (M0:Mem) (W0:World),M0.N=st.boxes.length→M0.NR=st.rows.length→M0.NL=st.loops.length→Calm st.boxes.length st.rows.length st.loops.length st→(∀ x∈args,Under st.boxes.length st.rows.length st.loops.length x) →
   DF P w0 n M0 W0 none c (ZfS mk P rs Post) (AA 0 args) st):ACalls P w0 f args st Post:=by
 refine ⟨hen,fun M w a b d=>?_⟩
 have Q:a.size=args.length:=d.1
 have H:∀ x∈args,Under st.boxes.length st.rows.length st.loops.length x:=by
  intro x G
  obtain ⟨i,u,rfl⟩:=List.mem_iff_getElem.1 G
  have:=(d.get (i:=i) (Array.getElem?_eq_getElem (by omega)) (List.getElem?_eq_getElem u)).under
  rwa [b.N,b.NR,b.loop.NL] at this
 have l:Rel w0 n M (AA 0 args) st { tmps:=a++Array.replicate (fn.ntmps-a.size) undef,defers:=[] } w:=by
  refine ⟨b,by simp;omega,fun s x hs=>?_⟩
  obtain ⟨i,j,y,C,rfl⟩:=OD _ _ _ _ hs
  have u:i<args.length:=(Ak.1 C).1
  have hs':s=i:=by omega
  subst hs'
  simp only [entryOk,if_true]
  have J:(a++Array.replicate (fn.ntmps-a.size) undef).getD s undef=a[s]'(by omega):=by
   simp [Array.getD_eq_getD_getElem?,Array.getElem?_append_left (show s<a.size by omega),Array.getElem?_eq_getElem (show s<a.size by omega)]
  rw [J]
  exact d.get (Array.getElem?_eq_getElem (by omega)) C
 refine QS (n:=0) (callsIn_of_wp_marks hf hb trivial (wpIn_mono (h M w b.N b.NR b.loop.NL b.calm H 0 M _ w ⟨l,.refl _ _ _,[],by simp⟩) ?_))
 rintro ex p t ⟨M',o,k,j,m⟩
 have e:∀ (D:∀ r∈rs,SV P o k r) (q:Post (pubS mk (WZ (rs.map (ZaV P o k)))) k),
   LeavesInM (FW none) 0 P fn p.tmps (Comes' w0 M w Post) p.defers .returning t:=by
  intro D q
  obtain ⟨Ds,U,O,F⟩:=j.marks
  rw [O]
  refine LO Ds M' t U F b.base_le j.rel.st j.ext fun K z E k3=>?_
  have g:Rel w0 n M' o k p K:=⟨z,j.rel.size,fun s x hs=>by
   have:=j.rel.env s x hs
   unfold entryOk at *
   split
   ·rename_i c;rw [Ai c] at this;exact k3 _ _ this
   ·rename_i c;rw [Aj c] at this;exact this⟩
  obtain ⟨v,q1,q2⟩:=YN mk g hrs D
  exact ⟨v,q1,v,M',_,k,rfl,q,E,z,q2⟩
 cases ex with
 | normal=>exact e m.1 m.2
 | ret=>exact e m.1 m.2
 | _=>exact m.elim
end
end Go.Ev
namespace Go.Ev
open Go Go.RowKit Go.Shelf Go.Sort Go.Lib Go.Proofs
section
variable {P:Program} {w0:World} {M:Mem} {w:World} {st:St}
theorem RelSt.turn {α:Type} [Inhabited α] (h:RelSt w0 M st w) {id ver:Nat} {cs cs':List AV} (hid:st.rows[id]? = some (.vec ver 1 cs)) (enc:α→Value) (D:Array α) {w':World} {q:Nat} {os:Array Obj}
  (hw:w'=grow (putRow enc (Go.Sort.ahead w q) (M.blk id) 0 D) os) (hD:D.size≤M.cap id) (hle:cs'.length≤D.size) (hone:∀ x∈cs',x.one=true) (hR:∀ i (h2:i<cs'.length),R w0 M w (enc D[i]!) cs'[i]) :
  Ext w0 M w M w'∧RelSt w0 M { st with rows:=st.rows.set id (.vec ver 1 cs') } w':=by
 obtain ⟨t,F,z,u,E,C,y,c,ty,n,m,p,r,s⟩:=h.row id _ hid
 have g:M.blk id<w.heap.size:=(Array.getElem?_eq_some_iff.1 n).1
 have a:w'.heap=w.heap.modify (M.blk id) (onCells (putCells enc 0 D))++os:=by rw [hw];rfl
 have f:w'.os=w.os∧w'.tape=w.tape∧w'.output=w.output:=by rw [hw];exact ⟨rfl,rfl,rfl⟩
 have d:∀ b,b<w.heap.size→b≠M.blk id→w'.heap[b]? = w.heap[b]? := fun b k l=>by
  rw [a,Array.getElem?_append_left (by simpa using k),Array.getElem?_modify,Aj (fun q=>l q.symm)]
 have j:(putCells enc 0 D c).size=c.size:=by simp [putCells]
 refine h.setVec (c':=putCells enc 0 D c) (ty:=ty) hid ⟨f.1,f.2.1,f.2.2,by rw [a];simp,fun b k=>d b (Nat.lt_of_lt_of_le k h.base_le) (by omega)⟩ d
  (by rw [a,Array.getElem?_append_left (by simpa using g),Array.getElem?_modify,Ai rfl,n];rfl) (by rw [j];exact m) (by rw [j,m];omega) hone (fun i v h2=>?_)
 have o:i<D.size:=by omega
 have e:(putCells enc 0 D c)[i]=enc D[i]! := by
  simp only [putCells,Array.getElem_mapIdx,Nat.zero_le,true_and,Nat.zero_add,Ai o,Nat.sub_zero]
 rw [e]
 exact hR i h2
abbrev bl (x:ByteArray):List UInt8:=x.data.toList
theorem RelSt.holdsStr (h:RelSt w0 M st w) {id ver:Nat} {xs:List ByteArray} (hid:st.rows[id]? = some (.vec ver 1 (xs.map fun x => .val (.string x)))) :
  Holds encStr w (M.blk id) 0 (xs.map bl).toArray∧M.blk id<w.heap.size:=by
 obtain ⟨s,t,n,q,r,o,m,c,p,d,u,l,k,b⟩:=h.row id _ hid
 refine ⟨fun j f=>?_,(Array.getElem?_eq_some_iff.1 d).1⟩
 have a:j<xs.length:=by simpa using f
 have g:j<(xs.map fun x=>(.val (.string x):AV)).length:=by simpa using a
 have e:j<c.size:=by omega
 have:=b j e g
 simp only [List.getElem_map] at this
 have ev:=this.val_inv.1
 have i:(xs.map bl).toArray[j]! = xs[j].data.toList:=by
  rw [getElem!_pos _ j f];simp
 rw [i]
 refine ⟨?_,?_⟩
 ·simp only [World.cell?,d,Nat.zero_add,id_eq]
  rw [Array.getElem?_eq_getElem e,ev]
  simp [encStr]
 ·simp [World.frozen?,d]
def sv (x:ByteArray):AV := .val (.string x)
def KF (xs:List ByteArray):List ByteArray:=((xs.map bl).mergeSort fun x y=>decide (x≤y)).map fun l=>⟨l.toArray⟩
def JQ (xs:List ByteArray):List ByteArray:=(Lib.compact (xs.map bl)).map fun l=>⟨l.toArray⟩
theorem MF (xs:List ByteArray):(KF xs).length=xs.length:=by simp [KF]
theorem ZaQ {xs:List ByteArray} {x:ByteArray} (h:x∈KF xs):x∈xs:=by
 simp only [KF,List.mem_map,List.mem_mergeSort] at h
 obtain ⟨l,⟨y,a,rfl⟩,rfl⟩:=h
 exact a
theorem WU {zs:List (List UInt8)} {x:List UInt8} (h:x∈Lib.compact zs):x∈zs:=by
 unfold Lib.compact Lib.compactUpTo at h
 obtain ⟨j,b,rfl⟩:=List.mem_map.1 h
 have a:=List.mem_range.1 (List.mem_filter.1 b).1
 rw [getElem!_pos zs.toArray j (by simpa using a)]
 simp
theorem ZaD {xs:List ByteArray} {x:ByteArray} (h:x∈JQ xs):x∈xs:=by
 simp only [JQ,List.mem_map] at h
 obtain ⟨l,a,rfl⟩:=h
 obtain ⟨y,b,rfl⟩:=List.mem_map.1 (WU a)
 exact b
theorem WW {v:Value} (h:R w0 M w v (.list [] .seed)):∃ p cap,v = .slice p 0 cap:=by
 generalize hx:AV.list [] .seed=x at h
 cases h<;>try cases hx
 ·exact ⟨_,_,rfl⟩
 ·exact ⟨_,_,rfl⟩
 ·exact ⟨_,_,rfl⟩
theorem RelSt.strLen (h:RelSt w0 M st w) {id ver:Nat} {xs:List ByteArray} (hid:st.rows[id]? = some (.vec ver 1 (xs.map sv))):∀ x∈xs,FB (.string x)=true:=by
 obtain ⟨q,r,k,n,o,l,j,c,m,p,s,g,e,a⟩:=h.row id _ hid
 intro x f
 obtain ⟨i,b,rfl⟩:=List.mem_iff_getElem.1 f
 have d:i<(xs.map sv).length:=by simpa using b
 have:=a i (by omega) d
 simp only [List.getElem_map,sv] at this
 exact this.val_inv.2
theorem Rh {vals:Array Value} {x:AV} (h:RowR w0 M w vals [x]):∃ v,vals = #[v]∧R w0 M w v x:=by
 have hs:=h.1
 match vals,hs with
 | ⟨[a]⟩,_=>exact ⟨a,rfl,h.2 0 (by simp) (by simp)⟩
section
variable {ρ:Ren} {Rw rows:List RowA} {l:List (Nat × Nat × Own)} {ho:Own} {v:List VE} {o:VO} {xs:List ByteArray}
theorem ZbQ (w0:World) (L:Lays.n190 P ρ) (hen:Jl P (ρ.f 190)) (hO:Owns Rw rows l ho ((o,1,xs.map sv)::v)) (hn:xs.length<4611686018427387904) :
  ∃ rows',Owns Rw rows' l ho ((o,1,(KF xs).map sv)::v)∧∀ (B:Ao) (Ls:As),ACalls P w0 (ρ.f 190) [OV o xs.length] ⟨B,rows,Ls⟩ fun r s=>r = .tup []∧s=⟨B,rows',Ls⟩:=by
 by_cases hx:xs=[]
 ·subst hx
  refine ⟨rows,by rw [show KF []=[] by simp [KF]];exact hO,fun B Ls=>⟨hen,fun M w g b a=>?_⟩⟩
  obtain ⟨m,rfl,h0⟩:=Rh a
  obtain ⟨p,cap,rfl⟩:∃ p cap,m = .slice p 0 cap:=by
   cases o with
   | nil=>exact WW h0
   | row id ver=>cases h0;exact ⟨_,_,rfl⟩
  refine (Any.slices_Sort_string_none L p cap w).mono ?_
  rintro en u ⟨rfl,rfl⟩
  exact ⟨_,M,.tup [],_,rfl,⟨rfl,rfl⟩,.refl _ _ _,b,.tup rfl (fun i h _=>absurd h (by simp))⟩
 ·obtain ⟨id,ver,rfl,a⟩:∃ id ver,o = .row id ver∧rows[id]? = some (.vec ver 1 (xs.map sv)):=by
   rcases hO.veach _ (List.mem_cons_self ..) with q | ⟨id,ver,q1,_,q3⟩
   ·exact absurd (List.map_eq_nil_iff.1 q.2) hx
   ·exact ⟨id,ver,q1,q3⟩
  refine ⟨_,hO.setV ver ((KF xs).map sv),fun B Ls=>⟨hen,fun M w g b c=>?_⟩⟩
  obtain ⟨m,rfl,h0⟩:=Rh c
  obtain ⟨E,d⟩:=b.holdsStr (xs:=xs) a
  have k:=b.strLen a
  have z:=(b.row id _ a).1
  cases h0 with
  | @vec _ _ _ _ p cap hi hver hh =>
  obtain ⟨rfl,n,J⟩:=hh z.symm
  have F:(some ⟨M.blk id,0*M.rsz id,none⟩:Option Addr)=some ⟨M.blk id,0,none⟩:=by rw [Nat.zero_mul]
  rw [F]
  have t:=Any.slices_Sort_string L (M.blk id) 0 cap (xs.map bl) w E d (by simpa using hn)
  rw [List.length_map] at t
  refine t.mono ?_
  rintro en u ⟨rfl,q,K,rfl⟩
  obtain ⟨C,G⟩:=b.turn (cs':=(KF xs).map sv) a encStr ((xs.map bl).mergeSort fun x y=>decide (x≤y)).toArray rfl (by simp;omega) (by simp [MF]) (fun x hx=>by
    obtain ⟨y,_,rfl⟩:=List.mem_map.1 hx;rfl) (fun i D=>by
    have j:i<(KF xs).length:=by simpa using D
    have H:i<((xs.map bl).mergeSort fun x y=>decide (x≤y)).toArray.size:=by simpa [MF] using j
    rw [getElem!_pos _ i H]
    have e:encStr (((xs.map bl).mergeSort fun x y=>decide (x≤y)).toArray[i]) = .string (KF xs)[i]:=by simp [KF,encStr]
    rw [e,List.getElem_map]
    exact .flat (k _ (ZaQ (List.getElem_mem _))))
  exact ⟨.tuple #[],M,.tup [],_,rfl,⟨rfl,rfl⟩,C,G,.tup rfl (fun i h _=>absurd h (by simp))⟩
theorem Zbu (w0:World) (L:Lays.n194 P ρ) (hen:Jl P (ρ.f 194)) (hO:Owns Rw rows l ho ((o,1,xs.map sv)::v)) (hn:xs.length<4611686018427387904) :
  ∃ rows',Owns Rw rows' l ho ((o,1,(JQ xs).map sv)::v)∧∀ (B:Ao) (Ls:As),ACalls P w0 (ρ.f 194) [OV o xs.length] ⟨B,rows,Ls⟩ fun r s=>r=OV o (JQ xs).length∧s=⟨B,rows',Ls⟩:=by
 by_cases hx:xs=[]
 ·subst hx
  refine ⟨rows,hO,fun B Ls=>⟨hen,fun M w g b a=>?_⟩⟩
  obtain ⟨n,rfl,h0⟩:=Rh a
  obtain ⟨p,cap,rfl⟩:∃ p cap,n = .slice p 0 cap:=by
   cases o with
   | nil=>exact WW h0
   | row id ver=>cases h0;exact ⟨_,_,rfl⟩
  refine (Any.slices_Compact_string_empty L p cap w).mono ?_
  rintro en w' ⟨rfl,rfl⟩
  exact ⟨_,M,_,_,rfl,⟨rfl,rfl⟩,.refl _ _ _,b,h0⟩
 ·obtain ⟨id,ver,rfl,a⟩:∃ id ver,o = .row id ver∧rows[id]? = some (.vec ver 1 (xs.map sv)):=by
   rcases hO.veach _ (List.mem_cons_self ..) with q | ⟨id,ver,q1,_,q3⟩
   ·exact absurd (List.map_eq_nil_iff.1 q.2) hx
   ·exact ⟨id,ver,q1,q3⟩
  refine ⟨_,hO.setV ver ((JQ xs).map sv),fun B Ls=>⟨hen,fun M w g b d=>?_⟩⟩
  obtain ⟨n,rfl,h0⟩:=Rh d
  obtain ⟨F,t⟩:=b.holdsStr (xs:=xs) a
  have m:=b.strLen a
  have u:=(b.row id _ a).1
  cases h0 with
  | @vec _ _ _ _ p cap hi hver hh =>
  obtain ⟨rfl,j,E⟩:=hh u.symm
  have G:(some ⟨M.blk id,0*M.rsz id,none⟩:Option Addr)=some ⟨M.blk id,0,none⟩:=by rw [Nat.zero_mul]
  have k:=Any.slices_Compact_string L (M.blk id) 0 cap (xs.map bl) w F (by simp;omega) (by simpa using E)
  rw [List.length_map] at k
  have C:(Lib.compact (xs.map bl)).length≤xs.length:=by have:=Lib.compact_length_le (xs.map bl);simpa using this
  have c:(JQ xs).length=(Lib.compact (xs.map bl)).length:=by simp [JQ]
  rw [←G] at k
  refine k.mono ?_
  rintro en w' ⟨rfl,q,J⟩
  obtain ⟨z,H⟩:=b.turn (cs':=(JQ xs).map sv) (q:=q) (os := #[]) (w':=w') a encStr (Lib.compact (xs.map bl)++List.replicate (xs.length-(Lib.compact (xs.map bl)).length) []).toArray (by rw [grow_empty,J]) (by simp;omega) (by simp [c]) (fun x hx=>by
    obtain ⟨y,_,rfl⟩:=List.mem_map.1 hx;rfl) (fun i D=>by
    have h:i<(Lib.compact (xs.map bl)).length:=by simpa [c] using D
    have K:i<(Lib.compact (xs.map bl)++List.replicate (xs.length-(Lib.compact (xs.map bl)).length) []).toArray.size:=by simp;omega
    rw [getElem!_pos _ i K]
    have e:encStr ((Lib.compact (xs.map bl)++List.replicate (xs.length-(Lib.compact (xs.map bl)).length) []).toArray[i]) = .string ((JQ xs)[i]'(by rw [c];exact h)):=by
     simp only [encStr,JQ,List.getElem_toArray,List.getElem_map,List.getElem_append_left h]
    rw [e,List.getElem_map]
    exact .flat (m _ (ZaD (List.getElem_mem _))))
  refine ⟨_,M,.vec id ver 0 (JQ xs).length,_,rfl,⟨rfl,rfl⟩,z,H,?_⟩
  rw [c]
  exact .vec hi hver fun hv=>⟨rfl,j,by omega⟩
end
end
end Go.Ev
namespace Go.Proofs.YtmcnjijeocmkgaaGreatDoor
open Go Go.RowKit Go.Ev
@[go_sem] theorem Zjf (n:Nat):OV .nil n = .list [] .seed:=rfl
theorem ZfI (xs:List ByteArray):(xs.flatMap fun x=>(C0 x).cells)=xs.map sv:=by
 induction xs with
 | nil=>rfl
 | cons x r ih=>rw [List.flatMap_cons,ih];rfl
theorem Zgf (l m:List ByteArray):(l.flatMap fun x=>(C0 x).cells)++(m.map C0).flatMap (fun y=>y.pub.cells)=(l++m).flatMap fun x=>(C0 x).cells:=by
 rw [List.flatMap_append,List.flatMap_map];rfl
def YI (x:List UInt8):List (List UInt8)→List (List UInt8)
 | []=>[x]
 | y::r=>if decide (x≤y)=true then x::y::r else y::YI x r
def Rq:List (List UInt8)→List (List UInt8)
 | []=>[]
 | x::r=>YI x (Rq r)
theorem Qb (x:List UInt8):∀ l,(YI x l).Perm (x::l)
 | []=>List.Perm.refl _
 | y::r=>by
  unfold YI
  split
  ·exact List.Perm.refl _
  ·exact ((Qb x r).cons y).trans (List.Perm.swap _ _ _)
theorem Qw:∀ l,(Rq l).Perm l
 | []=>List.Perm.refl _
 | x::r=>(Qb x _).trans ((Qw r).cons x)
theorem ZA (x:List UInt8):∀ l:List (List UInt8),l.Pairwise (fun a b=>a≤b)→(YI x l).Pairwise (fun a b=>a≤b)
 | [],_=>by simp [YI]
 | y::r,h=>by
  obtain ⟨d,e⟩:=List.pairwise_cons.1 h
  unfold YI
  split
  ·rename_i c
   have c:x≤y:=of_decide_eq_true c
   refine List.pairwise_cons.2 ⟨fun z hz=>?_,h⟩
   rcases List.mem_cons.1 hz with rfl | hz
   ·exact c
   ·exact List.le_trans c (d z hz)
  ·rename_i c
   have c:y≤x:=by
    rcases List.le_total x y with q | q
    ·exact absurd (Ah q) c
    ·exact q
   refine List.pairwise_cons.2 ⟨fun z hz=>?_,ZA x r e⟩
   rcases List.mem_cons.1 ((Qb x r).mem_iff.1 hz) with rfl | hz
   ·exact c
   ·exact d z hz
theorem U1:∀ l,(Rq l).Pairwise (fun a b=>a≤b)
 | [] => .nil
 | x::r=>ZA x _ (U1 r)
theorem Zav (l:List (List UInt8)):(l.mergeSort fun x y=>decide (x≤y))=Rq l:=by
 refine List.Perm.eq_of_pairwise (le:=fun a b=>a≤b) (fun a b _ _ d e=>List.le_antisymm d e) ?_ (U1 l) ((List.mergeSort_perm l _).trans (Qw l).symm)
 have:=List.pairwise_mergeSort (le:=fun x y:List UInt8=>decide (x≤y)) (fun a b c d e=>Ah (List.le_trans (of_decide_eq_true d) (of_decide_eq_true e))) (fun a b=>by
  rcases List.le_total a b with q | q<;>simp [q]) l
 exact this.imp fun h=>of_decide_eq_true h
def J2 (xs:List ByteArray):List ByteArray:=(Rq (xs.map bl)).map fun l=>⟨l.toArray⟩
theorem XD (xs:List ByteArray):KF xs=J2 xs:=by rw [KF,Zav];rfl
theorem LU (xs:List ByteArray):(J2 xs).length=xs.length:=by rw [←XD,MF]
section
variable (w0:World) {Rw rows:List RowA} {l:List (Nat × Nat × Ev.Own)} {ho:Ev.Own} {v:List VE} {o:VO} {xs:List ByteArray}
theorem Xr (hO:Owns Rw rows l ho ((o,1,xs.flatMap fun x=>(C0 x).cells)::v)) (hn:xs.length<4611686018427387904) :
  ∃ rows',Owns Rw rows' l ho ((o,1,(J2 xs).flatMap fun x=>(C0 x).cells)::v)∧∀ (B:Ao) (Ls:As),ACalls Tryz.prog w0 159 [OV o xs.length] ⟨B,rows,Ls⟩ fun r s=>r = .tup []∧s=⟨B,rows',Ls⟩:=by
 rw [ZfI] at hO ⊢
 rw [←XD]
 exact ZbQ w0 Tryz.laysSortS (AY Tryz.func159 rfl (by decide)) hO hn
theorem Xb (hO:Owns Rw rows l ho ((o,1,xs.flatMap fun x=>(C0 x).cells)::v)) (hn:xs.length<4611686018427387904) :
  ∃ rows',Owns Rw rows' l ho ((o,1,(JQ xs).flatMap fun x=>(C0 x).cells)::v)∧∀ (B:Ao) (Ls:As),ACalls Tryz.prog w0 160 [OV o xs.length] ⟨B,rows,Ls⟩ fun r s=>r=OV o (JQ xs).length∧s=⟨B,rows',Ls⟩:=by
 rw [ZfI] at hO ⊢
 exact Zbu w0 Tryz.laysComp (AY Tryz.func160 rfl (by decide)) hO hn
end
def HQ (g:Int) (b:Bool):(Int × Int) :=
 if b then
  (3,3)
 else
  if decide (g=25) then
   (2,256)
  else
   (2,2)
def B8 (g:Int) (b:Bool):(Int × Int) :=
 if b then
  (1,1)
 else
  if decide (g=21) then
   HQ g true
  else
   HQ g (decide (g=24))
def E4 (b:Int) (g:Bool):(Int × Int) :=
 if g then
  (0,0)
 else
  if decide (b=3) then
   B8 b true
  else
   if decide (b=16) then
    B8 b true
   else
    if decide (b=18) then
     B8 b true
    else
     if decide (b=19) then
      B8 b true
     else
      if decide (b=20) then
       B8 b true
      else
       if decide (b=27) then
        B8 b true
       else
        B8 b (decide (b=28))
def EO (b:Int):(Int × Int) :=
 if decide (b=1) then
  E4 b true
 else
  if decide (b=2) then
   E4 b true
  else
   if decide (b=22) then
    E4 b true
   else
    E4 b (decide (b=26))
theorem Um (w0:World) (B:Ao) (Rw:Av) (L:As) (a0:Int) (r:Int × Int) (h:EO a0=r) :
  ACalls Tryz.prog w0 300 [Am a0] ⟨B,Rw,L⟩ fun x st=>x = .tup [Am r.1,Am r.2]∧st=⟨B,Rw,L⟩:=by
 rw [EO] at h
 refine hd [.tmp 2,.tmp 3] Tryz.func300 Tryz.ntmps300 fun M0 W0 k i g b p j hs=>?_
 simp only [AA]
 refine rg [0] hs ?_
 apply An;intro K2 o
 refine rg [4] hs ?_
 apply Ar
 refine AB (fun e st=>∃ (f:Bool),Ck e st B Rw L [(4,true,Am a0),(5,true,.val (.bool f))] [] [] (E4 a0 f=r)) ?_ ?_
 ·intro K6 n
  exact go (tg (a:=([4,5],([4,5],()),[4,5],([4,5],()),[4,5],([4,5],()),[4,5],()))) h hs k i g b j trivial (q1 n)
 ·clear h;rintro e st ⟨f,Xk5,Rk5,rfl,rfl,j,h⟩
  rw [E4] at h
  refine td k i g b j ?_
  refine B6 h hs ?_ ?_<;>intro hs h
  ·refine rg [2,3] hs ?_
   exact rT h hs b j
  refine AB (fun e st=>∃ (c:Bool),Ck e st B Rw L [(4,true,Am a0),(10,true,.val (.bool c))] [] [] (B8 a0 c=r)) ?_ ?_
  ·intro K17 m
   exact go (tg (a:=([4,10],([4,10],()),[4,10],([4,10],()),[4,10],([4,10],()),[4,10],([4,10],()),[4,10],([4,10],()),[4,10],([4,10],()),[4,10],()))) h hs k i g b j trivial (q1 m)
  ·clear h;rintro e st ⟨c,Xk16,Rk16,rfl,rfl,j,h⟩
   rw [B8] at h
   refine td k i g b j ?_
   refine B6 h hs ?_ ?_<;>intro hs h
   ·refine rg [2,3] hs ?_
    exact rT h hs b j
   refine AB (fun e st=>∃ (d:Bool),Ck e st B Rw L [(4,true,Am a0),(18,true,.val (.bool d))] [] [] (HQ a0 d=r)) ?_ ?_
   ·intro K34 l
    exact go (tg (a:=([4,18],([4,18],()),[4,18],()))) h hs k i g b j trivial (q1 l)
   ·clear h;rintro e st ⟨d,Xk33,Rk33,rfl,rfl,j,h⟩
    rw [HQ] at h
    exact go (tg (a:=(([2,3],()),[21],([2,3],()),[],[2,3],()))) h hs k i g b j trivial (q1 o)
theorem RF (w0:World) (B:Ao) (Rw:Av) (L:As) (a0:Int) :
  ACalls Tryz.prog w0 300 [Am a0] ⟨B,Rw,L⟩ fun x st=>x = .tup [Am ((EO a0).1),Am ((EO a0).2)]∧st=⟨B,Rw,L⟩:=Um w0 B Rw L a0 _ rfl
end Go.Proofs.YtmcnjijeocmkgaaGreatDoor
