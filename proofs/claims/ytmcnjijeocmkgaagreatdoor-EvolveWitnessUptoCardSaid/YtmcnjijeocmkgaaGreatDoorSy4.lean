/-
  Part 4 of the proof: rules and walks that the claim's last text uses.
-/
import Derived.Shelf.Spec.SlicesInsertGrow
import Derived.Test.YtmcnjijeocmkgaaGreatDoorSy3
set_option linter.unusedSimpArgs false
set_option linter.unusedVariables false
set_option maxRecDepth 100000
set_option maxHeartbeats 4000000
namespace Go.Proofs.YtmcnjijeocmkgaaGreatDoor
open Go Go.RowKit Go.Ev
def A3 (b:Vl):Bool :=
 (((((decide (b.kind=0))&&(decide (b.int=0)))&&(decide (b.scale=0)))&&(Eb b.text (⟨#[]⟩:ByteArray)))&&(decide ((b.list.length:Int)=0)))&&(decide ((b.fields.length:Int)=0))
theorem ZbQ (w0:World) (B:Am) (Rw:Aq) (L:Ar) (a0:Vl) (r:Bool) (h:A3 a0=r) :
  ACalls Tryz.prog w0 147 [.agg (a0.cs)] ⟨B,Rw,L⟩ fun x st=>x = .val (.bool r)∧st=⟨B,Rw,L⟩:=by
 rw [A3] at h
 refine hd [.tmp 2] Tryz.func147 Tryz.ntmps147 fun M0 W0 e c b a f d hs=>?_
 simp only [AG]
 refine rg [1] hs ?_
 refine rg [2] hs ?_
 exact rT h hs a d
theorem L2 (w0:World) (B:Am) (Rw:Aq) (L:Ar) (a0:Vl) :
  ACalls Tryz.prog w0 147 [.agg (a0.cs)] ⟨B,Rw,L⟩ fun x st=>x = .val (.bool (A3 a0))∧st=⟨B,Rw,L⟩:=ZbQ w0 B Rw L a0 _ rfl
def Dt (b:Int) (g:Int) (h:Int):Int :=
 if (decide (b<g))||(decide (h<b)) then
  2
 else
  0
theorem ZaF (w0:World) (B:Am) (Rw:Aq) (L:Ar) (a0:Int) (a1:Int) (a2:Int) (r:Int) (h:Dt a0 a1 a2=r) :
  ACalls Tryz.prog w0 216 [Ak a0,Ak a1,Ak a2] ⟨B,Rw,L⟩ fun x st=>x=Ak r∧st=⟨B,Rw,L⟩:=by
 rw [Dt] at h
 refine hd [.tmp 6] Tryz.func216 Tryz.ntmps216 fun M0 W0 e d c b g f hs=>?_
 simp only [AG]
 exact go (tg (a:=([0,1,2],[14],([6],()),[],[6],()))) h hs e d c b f trivial trivial
theorem Jb (w0:World) (B:Am) (Rw:Aq) (L:Ar) (a0:Int) (a1:Int) (a2:Int) :
  ACalls Tryz.prog w0 216 [Ak a0,Ak a1,Ak a2] ⟨B,Rw,L⟩ fun x st=>x=Ak (Dt a0 a1 a2)∧st=⟨B,Rw,L⟩:=ZaF w0 B Rw L a0 a1 a2 _ rfl
def Ic (b:Vl):Int :=
 Dt b.int 0 1
theorem ZO (w0:World) (B:Am) (Rw:Aq) (L:Ar) (a0:Vl) (r:Int) (h:Ic a0=r) :
  ACalls Tryz.prog w0 215 [.agg (a0.cs)] ⟨B,Rw,L⟩ fun x st=>x=Ak r∧st=⟨B,Rw,L⟩:=by
 rw [Ic] at h
 refine hd [.tmp 2] Tryz.func215 Tryz.ntmps215 fun M0 W0 e d c b g f hs=>?_
 simp only [AG]
 exact go (tg (a:=([1],[2],()))) h hs e d c b f (q1 (Jb w0)) trivial
theorem Yv (w0:World) (B:Am) (Rw:Aq) (L:Ar) (a0:Vl) :
  ACalls Tryz.prog w0 215 [.agg (a0.cs)] ⟨B,Rw,L⟩ fun x st=>x=Ak (Ic a0)∧st=⟨B,Rw,L⟩:=ZO w0 B Rw L a0 _ rfl
def ES (h:Int) (b:Int) (g:Int):Int :=
 if decide (b<h) then
  g
 else
  0
theorem Zea (w0:World) (B:Am) (Rw:Aq) (L:Ar) (a0:Int) (a1:Int) (a2:Int) (r:Int) (h:ES a0 a1 a2=r) :
  ACalls Tryz.prog w0 221 [Ak a0,Ak a1,Ak a2] ⟨B,Rw,L⟩ fun x st=>x=Ak r∧st=⟨B,Rw,L⟩:=by
 rw [ES] at h
 refine hd [.tmp 6] Tryz.func221 Tryz.ntmps221 fun M0 W0 e d c b g f hs=>?_
 simp only [AG]
 exact go (tg (a:=([0,1,2],[2,9],([6],()),[],[6],()))) h hs e d c b f trivial trivial
theorem MW (w0:World) (B:Am) (Rw:Aq) (L:Ar) (a0:Int) (a1:Int) (a2:Int) :
  ACalls Tryz.prog w0 221 [Ak a0,Ak a1,Ak a2] ⟨B,Rw,L⟩ fun x st=>x=Ak (ES a0 a1 a2)∧st=⟨B,Rw,L⟩:=Zea w0 B Rw L a0 a1 a2 _ rfl
def J7 (b:Vl):Option Int :=
 if b.text.size≤maxLen then
  if !(Ft b.text) then
   some (12)
  else
   if decide ((b.list.length:Int)=0) then
    some (4)
   else
    some (ES (b.list.length:Int) 1 3)
 else none
theorem Yp (w0:World) (B:Am) (Rw:Aq) (L:Ar) (a0:Vl) (r:Int) (h:J7 a0=some r) :
  ACalls Tryz.prog w0 228 [.agg (a0.cs)] ⟨B,Rw,L⟩ fun x st=>x=Ak r∧st=⟨B,Rw,L⟩:=by
 rw [J7] at h
 refine hd [.tmp 2] Tryz.func228 Tryz.ntmps228 fun M0 W0 e d c b g f hs=>?_
 simp only [AG]
 exact go (tg (a:=([1],[1,3],([2],()),[1,8],([2],()),[1],[2],()))) h hs e d c b f (q2 (Q1 w0) (MW w0)) trivial
def ID (b:Vl):Int :=
 Dt b.int ((-999999999999999)) 999999999999999
theorem ZaA (w0:World) (B:Am) (Rw:Aq) (L:Ar) (a0:Vl) (r:Int) (h:ID a0=r) :
  ACalls Tryz.prog w0 217 [.agg (a0.cs)] ⟨B,Rw,L⟩ fun x st=>x=Ak r∧st=⟨B,Rw,L⟩:=by
 rw [ID] at h
 refine hd [.tmp 2] Tryz.func217 Tryz.ntmps217 fun M0 W0 e d c b g f hs=>?_
 simp only [AG]
 exact go (tg (a:=([1],[2],()))) h hs e d c b f (q1 (Jb w0)) trivial
theorem Yg (w0:World) (B:Am) (Rw:Aq) (L:Ar) (a0:Vl) :
  ACalls Tryz.prog w0 217 [.agg (a0.cs)] ⟨B,Rw,L⟩ fun x st=>x=Ak (ID a0)∧st=⟨B,Rw,L⟩:=ZaA w0 B Rw L a0 _ rfl
def Pm (n:Nat)  : Option Int :=
 some (0)
def Jp (n:Nat) (h:List Int):Nat→Int→Option Int
 | 0,_=>none
 | m+1,b =>
  if decide (b<(h.length:Int)) then
   (B1 h b).bind fun g =>
   if !(decide (g=0)) then
    some (g)
   else
    if BM (b+1) then
     (Jp n h m) (b+1)
    else none
  else
   Pm n 
def OW (n:Nat) (b:List Int):Option Int :=
 Jp n b n 0
theorem ZcY (w0:World) (n:Nat) (B:Am) (Rw:Aq) (L:Ar) (a0:List Int) (r:Int) (h:OW n a0=some r) :
  ACalls Tryz.prog w0 219 [.list (a0.map avI) .none] ⟨B,Rw,L⟩ fun x st=>x=Ak r∧st=⟨B,Rw,L⟩:=by
 rw [OW] at h
 refine hd [.tmp 2] Tryz.func219 Tryz.ntmps219 fun M0 W0 j f g c k d hs=>?_
 simp only [AG]
 refine rg [0] hs ?_
 refine AA (fun e st=>Ck e st B Rw L [] [] [] (Pm n  = some r)) ?_ ?_
 ·intro K4 i
  refine rg [5,6,7] hs ?_
  apply Ao
  refine AL (fun m e st=>∃ (b:Int),Ck e st B Rw L [(5,true,.list (a0.map avI) .none),(6,true,Ak (a0.length:Int)),(7,true,Ak b)] [] [] (Jp n a0 m b=some r)) n ⟨0,([]),Rw,ef hs,ef hs,d,h⟩ ?_
  rintro ml6 e st ⟨b,Xl6,Rl6,rfl,rfl,d,h⟩ Ul6 Vl6
  cases ml6 with
  | zero=>cases h
  | succ ml6 =>
  rw [Jp] at h
  exact go (tg (a:=([5,6,7,8],([5,6,7],[4,5,6,7],[4,5,6,7,12],([2],()),[5,6,7],[5,6,7],()),[],()))) h hs j f g c d trivial (q2 i (fun e s=>Vl6 ml6 e s (Nat.lt_succ_self _)))
 ·clear h;rintro e st ⟨Xk3,Rk3,rfl,rfl,d,h⟩
  rw [Pm] at h
  refine td j f g c d ?_
  refine rg [2] hs ?_
  exact rt h hs c d
def LG (n:Nat) (b:Vl):Option Int :=
 (OW n ([Dt b.int ((-999999999999999)) 999999999999999,Dt b.scale 0 12])).bind fun g =>
 some (g)
theorem ZY (w0:World) (n:Nat) (B:Am) (Rw:Aq) (L:Ar) (a0:Vl) (r:Int) (h:LG n a0=some r) :
  ACalls Tryz.prog w0 218 [.agg (a0.cs)] ⟨B,Rw,L⟩ fun x st=>x=Ak r∧st=⟨B,Rw,L⟩:=by
 rw [LG] at h
 refine hd [.tmp 2] Tryz.func218 Tryz.ntmps218 fun M0 W0 e d c b g f hs=>?_
 simp only [AG]
 exact go (tg (a:=([1],[9,2],()))) h hs e d c b f (q2 (Jb w0) (ZcY w0 n)) trivial
def IY  (b:Int):Option Int :=
 some (b)
def LM (b:Vl):Option Int :=
 if decide ((ES (b.text.size:Int) 1024 5)=0) then
  if b.text.size≤maxLen then
   if !(Lib.validD b.text.data.toList) then
    IY  16
   else
    IY  (ES (b.text.size:Int) 1024 5)
  else none
 else
  IY  (ES (b.text.size:Int) 1024 5)
theorem Zak (w0:World) (hT:Lib.Utf8Tabs 2 3 w0) (B:Am) (Rw:Aq) (L:Ar) (a0:Vl) (r:Int) (h:LM a0=some r) :
  ACalls Tryz.prog w0 220 [.agg (a0.cs)] ⟨B,Rw,L⟩ fun x st=>x=Ak r∧st=⟨B,Rw,L⟩:=by
 rw [LM] at h
 refine hd [.tmp 2] Tryz.func220 Tryz.ntmps220 fun M0 W0 k d f b l i hs=>?_
 simp only [AG]
 refine rg [1] hs ?_
 refine rc 2 [1,3] hs ?_;intro K2 g
 refine As _ (MW w0 _ _ _ (a0.text.size:Int) 1024 5) (hv hs) ?_
 refine ne hs g ?_
 clear g
 refine AA (fun e st=>∃ (c:Int),Ck e st B Rw L [(3,true,Ak c)] [a0.cs] [] (IY  c=some r)) ?_ ?_
 ·intro K5 j
  exact go (tg (a:=(([3,15],([3],()),[3],()),[3,15],[3],()))) h hs k d f b i (q1 (Xc w0)) (q1 j)
 ·clear h;rintro e st ⟨c,Xk4,Rk4,rfl,rfl,i,h⟩
  rw [IY] at h
  refine td k d f b i ?_
  refine rg [2] hs ?_
  exact rt h hs b i
def IA (b:Vl):Int :=
 ES (b.text.size:Int) 1024 5
theorem ZE (w0:World) (B:Am) (Rw:Aq) (L:Ar) (a0:Vl) (r:Int) (h:IA a0=r) :
  ACalls Tryz.prog w0 223 [.agg (a0.cs)] ⟨B,Rw,L⟩ fun x st=>x=Ak r∧st=⟨B,Rw,L⟩:=by
 rw [IA] at h
 refine hd [.tmp 2] Tryz.func223 Tryz.ntmps223 fun M0 W0 e d c b g f hs=>?_
 simp only [AG]
 exact go (tg (a:=([1],[2],()))) h hs e d c b f (q1 (MW w0)) trivial
theorem Yi (w0:World) (B:Am) (Rw:Aq) (L:Ar) (a0:Vl) :
  ACalls Tryz.prog w0 223 [.agg (a0.cs)] ⟨B,Rw,L⟩ fun x st=>x=Ak (IA a0)∧st=⟨B,Rw,L⟩:=ZE w0 B Rw L a0 _ rfl
def Ij (b:Vl):Int :=
 Dt b.int ((-719162)) 2932896
theorem ZaD (w0:World) (B:Am) (Rw:Aq) (L:Ar) (a0:Vl) (r:Int) (h:Ij a0=r) :
  ACalls Tryz.prog w0 224 [.agg (a0.cs)] ⟨B,Rw,L⟩ fun x st=>x=Ak r∧st=⟨B,Rw,L⟩:=by
 rw [Ij] at h
 refine hd [.tmp 2] Tryz.func224 Tryz.ntmps224 fun M0 W0 e d c b g f hs=>?_
 simp only [AG]
 exact go (tg (a:=([1],[2],()))) h hs e d c b f (q1 (Jb w0)) trivial
theorem Yo (w0:World) (B:Am) (Rw:Aq) (L:Ar) (a0:Vl) :
  ACalls Tryz.prog w0 224 [.agg (a0.cs)] ⟨B,Rw,L⟩ fun x st=>x=Ak (Ij a0)∧st=⟨B,Rw,L⟩:=ZaD w0 B Rw L a0 _ rfl
def Iy (b:Vl):Int :=
 Dt b.int ((-62135596800000)) 253402300799999
theorem Zay (w0:World) (B:Am) (Rw:Aq) (L:Ar) (a0:Vl) (r:Int) (h:Iy a0=r) :
  ACalls Tryz.prog w0 225 [.agg (a0.cs)] ⟨B,Rw,L⟩ fun x st=>x=Ak r∧st=⟨B,Rw,L⟩:=by
 rw [Iy] at h
 refine hd [.tmp 2] Tryz.func225 Tryz.ntmps225 fun M0 W0 e d c b g f hs=>?_
 simp only [AG]
 exact go (tg (a:=([1],[2],()))) h hs e d c b f (q1 (Jb w0)) trivial
theorem Yx (w0:World) (B:Am) (Rw:Aq) (L:Ar) (a0:Vl) :
  ACalls Tryz.prog w0 225 [.agg (a0.cs)] ⟨B,Rw,L⟩ fun x st=>x=Ak (Iy a0)∧st=⟨B,Rw,L⟩:=Zay w0 B Rw L a0 _ rfl
def Iu (b:Vl):Int :=
 ES (b.list.length:Int) 256 9
theorem ZaC (w0:World) (B:Am) (Rw:Aq) (L:Ar) (a0:Vl) (r:Int) (h:Iu a0=r) :
  ACalls Tryz.prog w0 226 [.agg (a0.cs)] ⟨B,Rw,L⟩ fun x st=>x=Ak r∧st=⟨B,Rw,L⟩:=by
 rw [Iu] at h
 refine hd [.tmp 2] Tryz.func226 Tryz.ntmps226 fun M0 W0 e d c b g f hs=>?_
 simp only [AG]
 exact go (tg (a:=([1],[2],()))) h hs e d c b f (q1 (MW w0)) trivial
theorem Yb (w0:World) (B:Am) (Rw:Aq) (L:Ar) (a0:Vl) :
  ACalls Tryz.prog w0 226 [.agg (a0.cs)] ⟨B,Rw,L⟩ fun x st=>x=Ak (Iu a0)∧st=⟨B,Rw,L⟩:=ZaC w0 B Rw L a0 _ rfl
def LZ (n:Nat)  : Option Int :=
 some (0)
def Fz (n:Nat) (q:Vl):Nat→Int→Option Int
 | 0,_=>none
 | m+1,b =>
  if decide (b<(q.fields.length:Int)) then
   (B1 q.fields b).bind fun g =>
   if g.1.size≤maxLen then
    if !(Ft g.1) then
     some (12)
    else
     if decide (0<b) then
      if BM (b-1) then
       (B1 q.fields (b-1)).bind fun h =>
       if Eb g.1 h.1 then
        some (7)
       else
        if BM (b-1) then
         if X7 g.1 h.1 then
          some (24)
         else
          if BM (b+1) then
           (Fz n q m) (b+1)
          else none
        else none
      else none
     else
      if BM (b+1) then
       (Fz n q m) (b+1)
      else none
   else none
  else
   LZ n 
def Ln (n:Nat) (b:Vl):Option Int :=
 if !(decide ((ES (b.fields.length:Int) 64 9)=0)) then
  some (ES (b.fields.length:Int) 64 9)
 else
  Fz n b n 0
theorem ZD (w0:World) (n:Nat) (B:Am) (Rw:Aq) (L:Ar) (a0:Vl) (r:Int) (h:Ln n a0=some r) :
  ACalls Tryz.prog w0 227 [.agg (a0.cs)] ⟨B,Rw,L⟩ fun x st=>x=Ak r∧st=⟨B,Rw,L⟩:=by
 rw [Ln] at h
 refine hd [.tmp 2] Tryz.func227 Tryz.ntmps227 fun M0 W0 l i g c o d hs=>?_
 simp only [AG]
 refine rg [1] hs ?_
 apply An;intro K2 j
 refine rc 2 [1,3] hs ?_;intro K3 f
 refine As _ (MW w0 _ _ _ (a0.fields.length:Int) 64 9) (hv hs) ?_
 refine ne hs f ?_
 clear f
 refine rg [1,3,11] hs ?_
 refine BN h hs ?_ ?_<;>intro hs h
 ·refine rg [2] hs ?_
  exact rt h hs c d
 refine sk [1] hs j ?_
 clear j
 refine AA (fun e st=>Ck e st B Rw L [] [a0.cs] [] (LZ n  = some r)) ?_ ?_
 ·intro K9 k
  refine rg [1,14,15,16] hs ?_
  apply Ao
  refine AL (fun m e st=>∃ (b:Int),Ck e st B Rw L [(1,true,.box B.length 0),(14,true,.list (a0.fields.map BV) .none),(15,true,Ak (a0.fields.length:Int)),(16,true,Ak b)] [a0.cs] [] (Fz n a0 m b=some r)) n ⟨0,([]),Rw,ef hs,ef hs,d,h⟩ ?_
  rintro ml11 e st ⟨b,Xl11,Rl11,rfl,rfl,d,h⟩ Ul11 Vl11
  cases ml11 with
  | zero=>cases h
  | succ ml11 =>
  rw [Fz] at h
  exact go (tg (a:=([1,14,15,16,17],([1,14,15,16],[1,4,5,14,15,16],[1,4,5,14,15,16,21],([2],()),([15,1,4,5,14,15,16,26],([2],()),[15,1,14,15,16,41],([2],()),[1,14,15,16],[1,14,15,16],()),[15,1,4,5,14,15,16,26],[15,1,14,15,16,41],[1,14,15,16],[1,14,15,16],()),[],()))) h hs l i g c d (q1 (Q1 w0)) (q2 k (fun e s=>Vl11 ml11 e s (Nat.lt_succ_self _)))
 ·clear h;rintro e st ⟨Xk8,Rk8,rfl,rfl,d,h⟩
  rw [LZ] at h
  refine td l i g c d ?_
  refine rg [2] hs ?_
  exact rt h hs c d
def OT (b:Vl):Bool :=
 (((((((((decide (b.kind=1))||(decide (b.kind=2)))||(decide (b.kind=6)))||(decide (b.kind=7)))||(decide (b.kind=3)))||(decide (b.int=0)))&&((decide (b.kind=3))||(decide (b.scale=0))))&&((((decide (b.kind=4))||(decide (b.kind=5)))||(decide (b.kind=10)))||(Eb b.text (⟨#[]⟩:ByteArray))))&&(((decide (b.kind=8))||(decide (b.kind=10)))||(decide ((b.list.length:Int)=0))))&&((decide (b.kind=9))||(decide ((b.fields.length:Int)=0)))
theorem Zes (w0:World) (B:Am) (Rw:Aq) (L:Ar) (a0:Vl) (r:Bool) (h:OT a0=r) :
  ACalls Tryz.prog w0 148 [.agg (a0.cs)] ⟨B,Rw,L⟩ fun x st=>x = .val (.bool r)∧st=⟨B,Rw,L⟩:=by
 rw [OT] at h
 refine hd [.tmp 2] Tryz.func148 Tryz.ntmps148 fun M0 W0 e d c b g f hs=>?_
 simp only [AG]
 exact go (tg (a:=([1],[1,3],[1,3,4],[1,3,4,5],[2],()))) h (al hs) e d c b f trivial trivial
theorem ZcD (w0:World) (B:Am) (Rw:Aq) (L:Ar) (a0:Vl) :
  ACalls Tryz.prog w0 148 [.agg (a0.cs)] ⟨B,Rw,L⟩ fun x st=>x = .val (.bool (OT a0))∧st=⟨B,Rw,L⟩:=Zes w0 B Rw L a0 _ rfl
def CH (n:Nat)  : List (Nat × Vl)→Int→Option Int
 | [],b3_r7 =>
  some (0)
 | p_r7::rest,b3_r7 =>
  if BM (b3_r7+1) then
   if decide (4096<(b3_r7+1)) then
    some (9)
   else
    if decide (8<(p_r7.1:Int)) then
     some (23)
    else
     if A3 p_r7.2 then
      some (19)
     else
      if (decide (p_r7.2.kind<1))||(decide (10<p_r7.2.kind)) then
       some (11)
      else
       if !(OT p_r7.2) then
        some (3)
       else
        if decide (p_r7.2.kind=0) then
         none
        else
         if decide (p_r7.2.kind=1) then
          if !(decide ((Ic p_r7.2)=0)) then
           some (Ic p_r7.2)
          else
           (CH n rest) (b3_r7+1)
         else
          if decide (p_r7.2.kind=2) then
           if !(decide ((ID p_r7.2)=0)) then
            some (ID p_r7.2)
           else
            (CH n rest) (b3_r7+1)
          else
           if decide (p_r7.2.kind=3) then
            (LG n p_r7.2).bind fun q =>
            if !(decide (q=0)) then
             some (q)
            else
             (CH n rest) (b3_r7+1)
           else
            if decide (p_r7.2.kind=4) then
             (LM p_r7.2).bind fun g =>
             if !(decide (g=0)) then
              some (g)
             else
              (CH n rest) (b3_r7+1)
            else
             if decide (p_r7.2.kind=5) then
              if !(decide ((IA p_r7.2)=0)) then
               some (IA p_r7.2)
              else
               (CH n rest) (b3_r7+1)
             else
              if decide (p_r7.2.kind=6) then
               if !(decide ((Ij p_r7.2)=0)) then
                some (Ij p_r7.2)
               else
                (CH n rest) (b3_r7+1)
              else
               if decide (p_r7.2.kind=7) then
                if !(decide ((Iy p_r7.2)=0)) then
                 some (Iy p_r7.2)
                else
                 (CH n rest) (b3_r7+1)
               else
                if decide (p_r7.2.kind=8) then
                 if !(decide ((Iu p_r7.2)=0)) then
                  some (Iu p_r7.2)
                 else
                  (CH n rest) (b3_r7+1)
                else
                 if decide (p_r7.2.kind=9) then
                  (Ln n p_r7.2).bind fun h =>
                  if !(decide (h=0)) then
                   some (h)
                  else
                   (CH n rest) (b3_r7+1)
                 else
                  if decide (p_r7.2.kind=10) then
                   (J7 p_r7.2).bind fun b =>
                   if !(decide (b=0)) then
                    some (b)
                   else
                    (CH n rest) (b3_r7+1)
                  else
                   none
  else none
def GU (n:Nat) (b:Vl):Option Int :=
 if b.depth<4611686018427387904∧b.wide=true then
  CH n (F8 1 b) 0
 else none
theorem SV (w0:World) (hT:Lib.Utf8Tabs 2 3 w0) (n:Nat) (B:Am) (Rw:Aq) (L:Ar) (a0:Vl) (r:Int) (h:GU n a0=some r) :
  ACalls Tryz.prog w0 60 [.agg (a0.cs)] ⟨B,Rw,L⟩ fun x st=>x=Ak r∧st=⟨B,Rw,L⟩:=by
 rw [GU] at h
 refine hd [.cell 2 41] Tryz.func60 Tryz.ntmps60 fun M0 W0 o g f b hu j hs=>?_
 simp only [AG]
 refine rg [1,2] hs ?_
 apply An;intro K2 Q
 apply Ax 2 [1,2,3]
 rw [Ap];simp +decide only [go_sem,Nat.reduceAdd,Xa]
 (repeat' apply Ad)<;>first | refine As _ (ZfS w0 _ _ _ ) (by first | rfl | (simp +decide only [go_sem,Nat.reduceAdd,Xa];done) | (simp +decide only [go_sem,Nat.reduceAdd,Vl.cs,Ty.cs,Xa];done)) ?_ | exact cl
 rw [Ap];simp +decide only [go_sem,Nat.reduceAdd,Xa]
 (repeat' apply Ad)<;>first | refine Q _ _ ?_ | exact cl
 clear Q
 refine rg [1,2,3,4] hs ?_
 apply An;intro K4 ab
 refine rc 2 [2,3,4,10] hs ?_;intro K5 Y
 refine BF _ (VD w0 _ _ _ a0) (hv hs) ?_;rintro _ _ ⟨rfl,rfl⟩
 refine ne hs Y ?_
 clear Y
 apply Ao
 obtain ⟨ai,h⟩:=Au h
 refine YJ (LV a0) (fun st=>st.boxes[(B.length+4)]? = some a0.cs) (fun i st=>∃ (d:Int) (Rr7:Aq),st=⟨B++([a0.cs,[Ak 0],[.val .nilFunc,.clo 215 [],.clo 217 [],.clo 218 [],.clo 220 [],.clo 223 [],.clo 224 [],.clo 225 [],.clo 226 [],.clo 227 [],.clo 228 []],[Ak d],a0.cs]),Rr7,L⟩∧Owns Rw Rr7 []∧CH n ((F8 1 a0).drop i) d=some r) (fun ex st=>ex = .ret∧∃ (z0:List AV) (z2:List AV) (z3:List AV) (z4:List AV) (rows:Aq),st=⟨B++[z0,[Ak r],z2,z3,z4],rows,L⟩∧Owns Rw rows []) ev ev (RJ w0 a0 ai _) (fun x hx=>XI a0 x hx) (by decide) ?_ ⟨0,Rw,ef hs,j,h⟩ (fun _ _ h => .inl h.1) ?_ ?_ ?_
 ·rintro i st la ⟨d,Rr7,rfl,j,h⟩ _ _;simp +decide [St.push]
 ·rintro i s1 ⟨XB,XR,XL⟩ x M1 W1 l la v hX hI ag af hx Z K hK
  obtain ⟨c,ah,rfl,hi⟩:=WZ a0 i x hx
  (try simp only at hX)
  subst hX
  obtain ⟨d,Rr7,rfl,j,h⟩:=hI
  rw [ZbH ah,CH] at h
  have m:=j
  simp only [St.ext,St.push,List.append_assoc,List.append_nil]
  refine rg [2,3,4,5,12] hs ?_
  apply Ax 1 [2,3,4,5,6]
  rw [Ap];simp +decide only [go_sem,Nat.reduceAdd]
  (repeat' apply Ad)<;>first | refine hK _ _ (by simp [St.ext,St.push]) (fun KQ ae=>?_) | exact cl
  clear hK
  dsimp only [St.ext,St.push]
  have kr:∀ (e:Env) (x:Int),x=r→∀ G,KQ .ret e ⟨B++(a0.cs::[Ak x]::[.val .nilFunc,.clo 215 [],.clo 217 [],.clo 218 [],.clo 220 [],.clo 223 [],.clo 224 [],.clo 225 [],.clo 226 [],.clo 227 [],.clo 228 []]::[Ak (d+1)]::a0.cs::(XB++G)),Rr7,L++v::XL⟩:=by
   intro e x hx G
   rw [hx]
   exact ae _ _ _ ⟨⟨B++[a0.cs,[Ak r],[.val .nilFunc,.clo 215 [],.clo 217 [],.clo 218 [],.clo 220 [],.clo 223 [],.clo 224 [],.clo 225 [],.clo 226 [],.clo 227 [],.clo 228 []],[Ak (d+1)],a0.cs],Rr7,L⟩,G,by simp only [List.append_assoc,List.cons_append,List.nil_append],⟨by simp,by first | exact Nat.le_refl _ | (have:=j.len;simp;omega),rfl⟩,rfl,⟨rfl,_,_,_,_,Rr7,rfl,j.sub (List.nil_sublist _)⟩,.inr (WG Z m j rfl (ln j m) ap_ ow)⟩
  have p:∀ (e:Env) (G:Am),CH n ((F8 1 a0).drop (i+1)) (d+1)=some r→KQ .normal e ⟨B++(a0.cs::[Ak 0]::[.val .nilFunc,.clo 215 [],.clo 217 [],.clo 218 [],.clo 220 [],.clo 223 [],.clo 224 [],.clo 225 [],.clo 226 [],.clo 227 [],.clo 228 []]::[Ak (d+1)]::a0.cs::(XB++G)),Rr7,L++v::XL⟩:=fun e G h=>ae _ _ _ ⟨⟨B++[a0.cs,[Ak 0],[.val .nilFunc,.clo 215 [],.clo 217 [],.clo 218 [],.clo 220 [],.clo 223 [],.clo 224 [],.clo 225 [],.clo 226 [],.clo 227 [],.clo 228 []],[Ak (d+1)],a0.cs],Rr7,L⟩,G,by simp only [List.append_assoc,List.cons_append,List.nil_append],⟨by simp,by first | exact Nat.le_refl _ | (have:=j.len;simp;omega),rfl⟩,rfl,⟨(d+1),Rr7,rfl,j,h⟩,.inr (WG Z m j rfl (ln j m) ap_ ow)⟩
  apply Ao
  obtain ⟨aj,h⟩:=Au h
  refine rg [2,3,4,5,6] hs ?_
  apply An;intro K11 q
  apply Ao
  refine rg [2,3,5,6,15] hs ?_
  refine BN h hs ?_ ?_<;>intro hs h
  ·have E:=hs.1
   exact go (tg (a:=([2],()))) h hs o g f b j trivial (q2 kr p)
  have E:=hs.1
  refine rg [2,3,6,18] hs ?_
  refine BN h hs ?_ ?_<;>intro hs h
  ·have ad:=hs.1
   exact go (tg (a:=([2],()))) h hs o g f b j trivial (q2 kr p)
  have ad:=hs.1
  refine rc 2 [2,3,6,21] hs ?_;intro K18 u
  refine As _ (L2 w0 _ _ _ c.2) (hv hs) ?_
  refine ne hs u ?_
  clear u
  refine BN h hs ?_ ?_<;>intro hs h
  ·have N:=hs.1
   exact go (tg (a:=([2],()))) h hs o g f b j trivial (q2 kr p)
  have N:=hs.1
  refine rg [2,3,6,24] hs ?_
  refine BN h hs ?_ ?_<;>intro hs h
  ·have aa:=hs.1
   exact go (tg (a:=([2],()))) h hs o g f b j trivial (q2 kr p)
  have aa:=hs.1
  refine rc 2 [2,3,6,33] hs ?_;intro K24 t
  refine As _ (ZcD w0 _ _ _ c.2) (hv hs) ?_
  refine ne hs t ?_
  clear t
  refine BN h hs ?_ ?_<;>intro hs h
  ·have y:=hs.1
   exact go (tg (a:=([2],()))) h hs o g f b j trivial (q2 kr p)
  have y:=hs.1
  refine sk [2,3,6] hs q ?_
  clear q
  apply An;intro K27 k
  rcases Bool.eq_false_or_eq_true (decide (c.2.kind=0)) with hf28 | hf28
  ·replace h:=CP h hf28
   have ak:c.2.kind=0:=of_decide_eq_true hf28
   cases h
  ·replace h:=CO h hf28
   rcases Bool.eq_false_or_eq_true (decide (c.2.kind=1)) with hf30 | hf30
   ·replace h:=CP h hf30
    have z:c.2.kind=1:=of_decide_eq_true hf30
    exact go (tg (a:=([7,2,7],[2,7,44],([2],()),([]:List Nat),()))) h (Ad z (Ad hf30 (Ad hf28 hs))) o g f b j (q1 (Yv w0)) (q3 kr p k)
   ·replace h:=CO h hf30
    rcases Bool.eq_false_or_eq_true (decide (c.2.kind=2)) with hf35 | hf35
    ·replace h:=CP h hf35
     have V:c.2.kind=2:=of_decide_eq_true hf35
     exact go (tg (a:=([7,2,7],[2,7,44],([2],()),([]:List Nat),()))) h (Ad V (Ad hf35 (Ad hf30 (Ad hf28 hs)))) o g f b j (q1 (Yg w0)) (q3 kr p k)
    ·replace h:=CO h hf35
     rcases Bool.eq_false_or_eq_true (decide (c.2.kind=3)) with hf40 | hf40
     ·replace h:=CP h hf40
      have D:c.2.kind=3:=of_decide_eq_true hf40
      exact go (tg (a:=([7,2,7],[2,7,44],([2],()),([]:List Nat),()))) h (Ad D (Ad hf40 (Ad hf35 (Ad hf30 (Ad hf28 hs))))) o g f b j (q1 (ZY w0 n)) (q3 kr p k)
     ·replace h:=CO h hf40
      rcases Bool.eq_false_or_eq_true (decide (c.2.kind=4)) with hf46 | hf46
      ·replace h:=CP h hf46
       have C:c.2.kind=4:=of_decide_eq_true hf46
       exact go (tg (a:=([7,2,7],[2,7,44],([2],()),([]:List Nat),()))) h (Ad C (Ad hf46 (Ad hf40 (Ad hf35 (Ad hf30 (Ad hf28 hs)))))) o g f b j (q1 (Zak w0 hT)) (q3 kr p k)
      ·replace h:=CO h hf46
       rcases Bool.eq_false_or_eq_true (decide (c.2.kind=5)) with hf52 | hf52
       ·replace h:=CP h hf52
        have J:c.2.kind=5:=of_decide_eq_true hf52
        exact go (tg (a:=([7,2,7],[2,7,44],([2],()),([]:List Nat),()))) h (Ad J (Ad hf52 (Ad hf46 (Ad hf40 (Ad hf35 (Ad hf30 (Ad hf28 hs))))))) o g f b j (q1 (Yi w0)) (q3 kr p k)
       ·replace h:=CO h hf52
        rcases Bool.eq_false_or_eq_true (decide (c.2.kind=6)) with hf57 | hf57
        ·replace h:=CP h hf57
         have U:c.2.kind=6:=of_decide_eq_true hf57
         exact go (tg (a:=([7,2,7],[2,7,44],([2],()),([]:List Nat),()))) h (Ad U (Ad hf57 (Ad hf52 (Ad hf46 (Ad hf40 (Ad hf35 (Ad hf30 (Ad hf28 hs)))))))) o g f b j (q1 (Yo w0)) (q3 kr p k)
        ·replace h:=CO h hf57
         rcases Bool.eq_false_or_eq_true (decide (c.2.kind=7)) with hf62 | hf62
         ·replace h:=CP h hf62
          have F:c.2.kind=7:=of_decide_eq_true hf62
          exact go (tg (a:=([7,2,7],[2,7,44],([2],()),([]:List Nat),()))) h (Ad F (Ad hf62 (Ad hf57 (Ad hf52 (Ad hf46 (Ad hf40 (Ad hf35 (Ad hf30 (Ad hf28 hs))))))))) o g f b j (q1 (Yx w0)) (q3 kr p k)
         ·replace h:=CO h hf62
          rcases Bool.eq_false_or_eq_true (decide (c.2.kind=8)) with hf67 | hf67
          ·replace h:=CP h hf67
           have w:c.2.kind=8:=of_decide_eq_true hf67
           exact go (tg (a:=([7,2,7],[2,7,44],([2],()),([]:List Nat),()))) h (Ad w (Ad hf67 (Ad hf62 (Ad hf57 (Ad hf52 (Ad hf46 (Ad hf40 (Ad hf35 (Ad hf30 (Ad hf28 hs)))))))))) o g f b j (q1 (Yb w0)) (q3 kr p k)
          ·replace h:=CO h hf67
           rcases Bool.eq_false_or_eq_true (decide (c.2.kind=9)) with hf72 | hf72
           ·replace h:=CP h hf72
            have O:c.2.kind=9:=of_decide_eq_true hf72
            exact go (tg (a:=([7,2,7],[2,7,44],([2],()),([]:List Nat),()))) h (Ad O (Ad hf72 (Ad hf67 (Ad hf62 (Ad hf57 (Ad hf52 (Ad hf46 (Ad hf40 (Ad hf35 (Ad hf30 (Ad hf28 hs))))))))))) o g f b j (q1 (ZD w0 n)) (q3 kr p k)
           ·replace h:=CO h hf72
            rcases Bool.eq_false_or_eq_true (decide (c.2.kind=10)) with hf78 | hf78
            ·replace h:=CP h hf78
             have H:c.2.kind=10:=of_decide_eq_true hf78
             exact go (tg (a:=([7,2,7],[2,7,44],([2],()),([]:List Nat),()))) h (Ad H (Ad hf78 (Ad hf72 (Ad hf67 (Ad hf62 (Ad hf57 (Ad hf52 (Ad hf46 (Ad hf40 (Ad hf35 (Ad hf30 (Ad hf28 hs)))))))))))) o g f b j (q1 (Yp w0)) (q3 kr p k)
            ·replace h:=CO h hf78
             cases h
 ·rintro s la ⟨XB,XR,XL⟩ hXR ⟨d,Rr7,rfl,j,h⟩ _ _
  simp only at hXR
  subst hXR
  rw [List.drop_eq_nil_of_le (by rw [RN];exact Nat.le_refl _),CH] at h
  simp only [St.ext,St.push,List.append_assoc,List.append_nil]
  (repeat' apply Ad)<;>first | refine ab _ _ ?_ | exact cl
  clear ab
  refine Y1 (bs:=[a0.cs,[Ak 0],[.val .nilFunc,.clo 215 [],.clo 217 [],.clo 218 [],.clo 220 [],.clo 223 [],.clo 224 [],.clo 225 [],.clo 226 [],.clo 227 [],.clo 228 []],[Ak d],a0.cs]) o g f rfl b j ow ow ?_
  refine rg [2] hs ?_
  exact rt h hs b j
 ·rintro ex s la ⟨XB,XR,XL⟩ hXR ⟨rfl,z0,z2,z3,z4,rows,rfl,j⟩ _ _
  simp only at hXR
  subst hXR
  simp only [St.ext,St.push,List.append_assoc,List.append_nil]
  simp +decide only [go_sem,Nat.reduceAdd]
  (repeat' with_reducible apply Ad)<;>first | refine Zls b rfl j.pre ev ⟨?_,rfl⟩ | (intros;omega) | (intros;simp_all;done)
  first | rfl | (simp +decide only [go_sem,Nat.reduceAdd];done)
def Bd (b:Int) (g:Int) (h:Int):Bool :=
 (decide (b<g))||(decide (h<b))
def AO (b:Vl):Bool :=
 (((((!((((decide (1≤b.kind))&&(decide (b.kind≤3)))||(decide (b.kind=6)))||(decide (b.kind=7))))&&(!(decide (b.int=0))))||((!(decide (b.kind=3)))&&(!(decide (b.scale=0)))))||((!(((decide (b.kind=4))||(decide (b.kind=5)))||(decide (b.kind=10))))&&(!(Eb b.text (⟨#[]⟩:ByteArray)))))||((!((decide (b.kind=8))||(decide (b.kind=10))))&&(decide (0<(b.list.length:Int)))))||((!(decide (b.kind=9)))&&(decide (0<(b.fields.length:Int))))
def Dn (b:Ty) (g:Int) (h:Int):Bool :=
 ((decide (g≤b.min))&&(decide (b.max≤h)))&&(decide (b.min≤b.max))
def Ol (b:Int) (g:Bool):(Int × Int) :=
 if g then
  (0,1024)
 else
  if decide (b=6) then
   ((-719162),2932896)
  else
   if decide (b=7) then
    ((-62135596800000),253402300799999)
   else
    (0,256)
def O7 (b:Int) (g:Bool):(Int × Int) :=
 if g then
  ((-999999999999999),999999999999999)
 else
  if decide (b=4) then
   Ol b true
  else
   Ol b (decide (b=5))
def AH (b:Int):(Int × Int) :=
 if decide (b=2) then
  O7 b true
 else
  O7 b (decide (b=3))
def Cc (b:Ty):Bool :=
 (((((!(decide (2≤b.kind)&&decide (b.kind≤8)))&&((!(decide (b.min=0)))||(!(decide (b.max=0)))))||((!(decide (b.kind=3)))&&(!(decide (b.scale=0)))))||((!(decide (b.kind=4)))&&(decide (0<(b.words.length:Int)))))||((!(decide (b.kind=8)))&&(decide (0<(b.elem.length:Int)))))||(((!(decide (b.kind=9)))&&(!(decide (b.kind=10))))&&(decide (0<(b.fields.length:Int))))
theorem Za1 {j:Nat}:((j+1:Nat):Int)-1=(j:Int):=by omega
theorem ZdY {j:Nat}:decide (0<((j+1:Nat):Int))=true:=Ag (by omega)
theorem Zd2 {k:Nat} (h:k<1000000000000):BM (k:Int):=by unfold BM;omega
def Oy:Option ByteArray→List ByteArray→Int
 | _,[]=>0
 | none,x::r=>if Ft x=true then Oy (some x) r else 12
 | some p,x::r=>if Ft x=true then (if Eb x p=true then 7 else if X7 x p=true then 24 else Oy (some x) r) else 12
def ZcR (l:List (ByteArray × Vl)):Nat→Option ByteArray
 | 0=>none
 | i+1=>(l[i]?).map Prod.fst
theorem Zdq (n:Nat) (v:Vl) (hl:(v.fields).length≤1000000000000) (hz:∀ p∈v.fields,p.1.size≤maxLen):∀ (k m i:Nat),i+k=(v.fields).length→k<m→Fz n v m i=some (Oy (ZcR (v.fields) i) (((v.fields).map Prod.fst).drop i))
 | k,0,i,_,h=>absurd h (Nat.not_lt_zero _)
 | 0,m+1,i,hi,_=>by
  rw [Fz,AC,Ac]
  simp only [Bool.false_eq_true,if_false,LZ]
  rw [List.drop_eq_nil_of_le (by rw [List.length_map];omega)]
  cases ZcR (v.fields) i<;>rfl
 | k+1,m+1,i,hi,hm=>by
  have a:i<(v.fields).length:=by omega
  have ih:=Zdq n v hl hz k m (i+1) (by omega) (by omega)
  rw [Fz,AC,Ag a]
  simp only [if_true,AM a,Ae]
  rw [Ah (hz _ (List.getElem_mem a)),List.drop_eq_getElem_cons (by rw [List.length_map];omega),List.getElem_map]
  have e:ZcR (v.fields) (i+1)=some (v.fields)[i].1:=by simp only [ZcR,List.getElem?_eq_getElem a];rfl
  rw [e] at ih
  cases i with
  | zero =>
   simp only [ZcR,Oy]
   by_cases hb:Ft (v.fields)[0].1=true
   ·rw [Ah hb,hb]
    simp only [Bool.not_true,Bool.false_eq_true,if_false]
    rw [Ai (by decide),Ah (AK (by omega))]
    exact ih
   ·rw [Ai hb,Bool.eq_false_iff.2 hb];rfl
  | succ j =>
   have b:j<(v.fields).length:=by omega
   have d:ZcR (v.fields) (j+1)=some (v.fields)[j].1:=by simp only [ZcR,List.getElem?_eq_getElem b];rfl
   rw [d]
   simp only [Oy]
   by_cases hb:Ft (v.fields)[j+1].1=true
   ·rw [Ah hb,hb]
    simp only [Bool.not_true,Bool.false_eq_true,if_false,ZdY,if_true,Za1]
    have c:BM (j:Int):=Zd2 (by omega)
    simp only [Ah c,AM b,Ae]
    by_cases h1:Eb (v.fields)[j+1].1 (v.fields)[j].1=true
    ·rw [Ah h1,Ah h1]
    ·rw [Ai h1,Ai h1]
     by_cases h2:X7 (v.fields)[j+1].1 (v.fields)[j].1=true
     ·rw [Ah h2,Ah h2]
     ·rw [Ai h2,Ai h2,Ah (AK (by omega))]
      exact ih
   ·rw [Ai hb,Bool.eq_false_iff.2 hb];rfl
def Ee (v:Vl):Int :=
 if A3 v=true then 19
 else if v.kind<1∨10<v.kind then 11
 else if AO v=true then 3
 else if v.kind=1 then (if Bd v.int 0 1=true then 2 else 0)
 else if v.kind=2 then (if Bd v.int (-999999999999999) 999999999999999=true∨Bd v.scale 0 12=true then 2 else 0)
 else if v.kind=3 then (if Bd v.int (-999999999999999) 999999999999999=true∨Bd v.scale 0 12=true then 2 else 0)
 else if v.kind=4 then (if 1024<v.text.size then 5 else if Lib.validD v.text.data.toList=true then 0 else 16)
 else if v.kind=5 then (if 1024<v.text.size then 5 else 0)
 else if v.kind=6 then (if Bd v.int (-719162) 2932896=true then 2 else 0)
 else if v.kind=7 then (if Bd v.int (-62135596800000) 253402300799999=true then 2 else 0)
 else if v.kind=8 then (if 256<v.list.length then 9 else 0)
 else if v.kind=9 then (if 64<v.fields.length then 9 else Oy none (v.fields.map Prod.fst))
 else if Ft v.text=true then (if v.list.length=0 then 4 else if 1<v.list.length then 3 else 0) else 12
theorem Gs {k:Int} (h:¬ (k<1∨10<k)):k=1∨k=2∨k=3∨k=4∨k=5∨k=6∨k=7∨k=8∨k=9∨k=10:=by omega
theorem Zh3 (v:Vl) (h:¬ (v.kind<1∨10<v.kind)):OT v = !AO v:=by
 have a:∀ x:Nat,decide (0<(x:Int)) = !decide ((x:Int)=0):=fun x=>by
  by_cases h:x=0
  ·subst h;rfl
  ·rw [Ag (show 0<(x:Int) by omega),Af (show ¬ (x:Int)=0 by omega)];rfl
 rw [OT,AO]
 simp only [a]
 rcases Gs h with hk | hk | hk | hk | hk | hk | hk | hk | hk | hk<;>simp only [hk]<;>simp [Bool.and_assoc]
theorem Zj2 (n:Nat) (hn:3≤n) (a b:Int):OW n [a,b]=some (if a=0 then b else a):=by
 obtain ⟨m,rfl⟩:∃ m,n=m+3:=⟨n-3,by omega⟩
 rw [OW,Jp]
 simp only [List.length_cons,List.length_nil]
 rw [Ah (by simp),show B1 [a,b] 0=some a from rfl]
 simp only [Ae]
 by_cases h:a=0
 ·rw [Ag h,Ai (by decide),Ah (by decide),Ah h,Jp]
  simp only [List.length_cons,List.length_nil]
  rw [Ah (by simp),show B1 [a,b] (0+1)=some b from rfl]
  simp only [Ae]
  by_cases h2:b=0
  ·rw [Ag h2,Ai (by decide),Ah (by decide),Jp]
   simp only [List.length_cons,List.length_nil]
   rw [Ai (by simp),Pm,h2]
  ·rw [Af h2,Ah (by decide)]
 ·rw [Af h,Ah (by decide),Ai h]
theorem Zfs (n:Nat) (hn:3≤n) (v:Vl) (hfl:v.fields.length<n) (hs:v.fields.length≤1000000000000) (hv:v.ok) (h1:¬ A3 v=true) (h2:¬ (v.kind<1∨10<v.kind)) (h3:¬ AO v=true) :
  (v.kind=1→Ic v=Ee v)∧(v.kind=2→ID v=Ee v)∧(v.kind=3→LG n v=some (Ee v))∧(v.kind=4→LM v=some (Ee v))∧(v.kind=5→IA v=Ee v) ∧
  (v.kind=6→Ij v=Ee v)∧(v.kind=7→Iy v=Ee v)∧(v.kind=8→Iu v=Ee v)∧(v.kind=9→Ln n v=some (Ee v))∧(v.kind=10→J7 v=some (Ee v)):=by
 obtain ⟨d,_,f⟩:=v.ok_eq.1 hv
 have g:∀ p∈v.fields,p.1.size≤maxLen:=fun p i=>Xu (by have:=(f p i).1;omega)
 have c:v.text.size≤maxLen:=Xu d
 rw [Ee,Ai h1,Ai h2,Ai h3]
 refine ⟨fun a=>?_,fun a=>?_,fun a=>?_,fun a=>?_,fun a=>?_,fun a=>?_,fun a=>?_,fun a=>?_,fun a=>?_,fun a=>?_⟩
 ·simp [a,Ic,Dt,Bd]
 ·have b:v.scale=0:=by
   rw [AO] at h3
   simp [a] at h3
   exact h3.1.1.1
  simp [a,b,ID,Dt,Bd]
 ·rw [LG,Zj2 n hn]
  simp [a,Dt,Bd]
  by_cases q:v.int < -999999999999999∨999999999999999<v.int
  ·simp [q];omega
  ·simp [q];omega
 ·rw [LM]
  simp only [a,ES,IY,Ah c]
  simp
  (repeat' split)<;>first | rfl | (exfalso;omega) | simp_all
 ·simp [a,IA,ES]
  (repeat' split)<;>first | rfl | (exfalso;omega) | simp_all
 ·simp [a,Ij,Dt,Bd]
 ·simp [a,Iy,Dt,Bd]
 ·simp [a,Iu,ES]
  (repeat' split)<;>first | rfl | (exfalso;omega) | simp_all
 ·rw [Ln]
  by_cases h:64<v.fields.length
  ·simp [a,ES,h,show (64:Int)<(v.fields.length:Int) by omega]
  ·have e:=Zdq n v hs g v.fields.length n 0 (by omega) hfl
   simp only [List.drop_zero] at e
   simp only [a,ES,Af (show ¬ (64:Int)<(v.fields.length:Int) by omega),Bool.false_eq_true,if_false,decide_true,Bool.not_true,Ai h]
   exact e
 ·rw [J7,Ah c]
  simp only [a,ES]
  simp
  (repeat' split)<;>first | rfl | (exfalso;omega) | simp_all
theorem Ziq (n:Nat) (hn:3≤n) (lv:Nat) (v:Vl) (rest:List (Nat × Vl)) (c:Int) (hfl:v.fields.length<n) (hs:v.fields.length≤1000000000000) (hv:v.ok) :
  CH n ((lv,v)::rest) c=if BM (c+1) then (if 4096<c+1 then some 9 else if 8<(lv:Int) then some 23 else if Ee v=0 then CH n rest (c+1) else some (Ee v)) else none:=by
 rw [CH]
 by_cases hI:BM (c+1)
 rotate_left
 ·rw [Ai hI,Ai hI]
 rw [Ah hI,Ah hI]
 by_cases q1:4096<c+1
 ·rw [Ah q1,Ah (Ag q1)]
 rw [Ai q1,Ai (by simpa using q1)]
 by_cases q2:8<(lv:Int)
 ·rw [Ah q2,Ah (Ag q2)]
 rw [Ai q2,Ai (by simpa using q2)]
 simp only
 by_cases h1:A3 v=true
 ·have:Ee v=19:=by rw [Ee,Ah h1]
  rw [Ah h1,this];rfl
 rw [Ai h1]
 by_cases h2:v.kind<1∨10<v.kind
 ·have:Ee v=11:=by rw [Ee,Ai h1,Ah h2]
  rw [Ah (by simpa using h2),this];rfl
 rw [Ai (by simpa using h2),Zh3 v h2]
 by_cases h3:AO v=true
 ·have:Ee v=3:=by rw [Ee,Ai h1,Ai h2,Ah h3]
  rw [h3,this];rfl
 rw [Bool.eq_false_iff.2 h3]
 obtain ⟨f,d,k,h,i,g,l,b,j,a⟩:=Zfs n hn v hfl hs hv h1 h2 h3
 rcases Gs h2 with hk | hk | hk | hk | hk | hk | hk | hk | hk | hk
 ·have e:=f hk;by_cases z:Ee v=0<;>simp [hk,e,z]
 ·have e:=d hk;by_cases z:Ee v=0<;>simp [hk,e,z]
 ·have e:=k hk;by_cases z:Ee v=0<;>simp [hk,e,z]
 ·have e:=h hk;by_cases z:Ee v=0<;>simp [hk,e,z]
 ·have e:=i hk;by_cases z:Ee v=0<;>simp [hk,e,z]
 ·have e:=g hk;by_cases z:Ee v=0<;>simp [hk,e,z]
 ·have e:=l hk;by_cases z:Ee v=0<;>simp [hk,e,z]
 ·have e:=b hk;by_cases z:Ee v=0<;>simp [hk,e,z]
 ·have e:=j hk;by_cases z:Ee v=0<;>simp [hk,e,z]
 ·have e:=a hk;by_cases z:Ee v=0<;>simp [hk,e,z]
def VQ:List (Nat × Vl)→Int→Int
 | [],_=>0
 | p::r,c=>if 4096<c+1 then 9 else if 8<(p.1:Int) then 23 else if Ee p.2=0 then VQ r (c+1) else Ee p.2
def OR (v:Vl):Int:=VQ (F8 1 v) 0
theorem Q9 {v x:Vl} (h:x∈Bn v):x∈v.list∨∃ p∈v.fields,p.2=x:=by
 unfold Bn at h
 split at h
 ·exact .inl h
 ·split at h
  ·obtain ⟨p,a,rfl⟩:=List.mem_map.1 h;exact .inr ⟨p,a,rfl⟩
  ·simp at h
theorem Jh {v x:Vl} (h:x∈Bn v):x.size<v.size:=by
 rcases Q9 h with h | ⟨p,hp,rfl⟩
 ·exact v.list_size x h
 ·exact v.field_size p hp
theorem ZgX {v x:Vl} (hv:v.ok) (h:x∈Bn v):x.ok:=by
 obtain ⟨_,a,b⟩:=v.ok_eq.1 hv
 rcases Q9 h with h | ⟨p,hp,rfl⟩
 ·exact a x h
 ·exact (b p hp).2
theorem ZfX:∀ (k:Nat) (v:Vl) (lv:Nat),v.size≤k→v.ok→∀ p∈F8 lv v,p.2.ok∧p.2.size≤v.size
 | 0,v,lv,h,hv,p,hp=>absurd h (by have:=v.size_eq;omega)
 | k+1,v,lv,h,hv,p,hp=>by
  rw [NB] at hp
  rcases List.mem_cons.1 hp with rfl | hp
  ·exact ⟨hv,Nat.le_refl _⟩
  ·obtain ⟨x,a,hp⟩:=List.mem_flatMap.1 hp
   have:=Jh a
   obtain ⟨b,c⟩:=ZfX k x (lv+1) (by omega) (ZgX hv a) p hp
   exact ⟨b,by omega⟩
theorem ZbO:∀ (k:Nat) (v:Vl) (lv:Nat),v.size≤k→v.wide=true→∀ p∈F8 lv v,p.2.wide=true
 | 0,v,lv,h,hv,p,hp=>absurd h (by have:=v.size_eq;omega)
 | k+1,v,lv,h,hv,p,hp=>by
  rw [NB] at hp
  rcases List.mem_cons.1 hp with rfl | hp
  ·exact hv
  ·obtain ⟨x,a,hp⟩:=List.mem_flatMap.1 hp
   have:=Jh a
   exact ZbO k x (lv+1) (by omega) (YA hv a) p hp
theorem ML (v:Vl):v.fields.length<v.size:=by have:=Nv v.fields;have:=v.size_eq;omega
theorem UT (n:Nat) (hn:3≤n):∀ (l:List (Nat × Vl)) (c:Int),(∀ p∈l,p.2.ok∧p.2.fields.length≤1000000000000∧p.2.fields.length<n)→0≤c→c≤4096→CH n l c=some (VQ l c)
 | [],c,_,_,_=>rfl
 | p::r,c,hl,h1,h2=>by
  obtain ⟨a,d,e⟩:=hl p (List.mem_cons_self ..)
  have:=ML p.2
  rw [show p=(p.1,p.2) from rfl,Ziq n hn p.1 p.2 r c (by omega) (by omega) a,Ah (by unfold BM;omega),VQ]
  simp only
  split
  ·rfl
  ·split
   ·rfl
   ·split
    ·exact UT n hn r (c+1) (fun q b=>hl q (List.mem_cons_of_mem _ b)) (by omega) (by omega)
    ·rfl
theorem Zch (n:Nat) (v:Vl) (hn:v.size+3≤n) (hs:v.depth<4611686018427387904) (hw:v.wide=true) (hv:v.ok):GU n v=some (OR v):=by
 rw [GU,Ah ⟨hs,hw⟩]
 exact UT n (by omega) _ 0 (fun p a=>by obtain ⟨b,c⟩:=ZfX v.size v 1 (Nat.le_refl _) hv p a;exact ⟨b,(p.2.wide_iff.1 (ZbO v.size v 1 (Nat.le_refl _) hw p a)).2.1,by have:=ML p.2;omega⟩) (by omega) (by omega)
theorem Zi (n:Nat) (v:Vl) (hn:v.size+3≤n) (hs:v.size<1048576) (hv:v.ok):GU n v=some (OR v) :=
 Zch n v hn (by have:=v.depth_size;omega) (J3 _ v (Nat.le_refl _) (by omega)) hv
theorem TJ:∀ l:List Vl,CJ l=(l.map Vl.size).sum
 | []=>rfl
 | v::r=>by simp [CJ,TJ r]
theorem Qu:∀ l:List (ByteArray × Vl),Bi l=(l.map fun p=>p.2.size).sum
 | []=>rfl
 | (_,v)::r=>by simp [Bi,Qu r]
theorem ZeU (v:Vl):((Bn v).map Vl.size).sum<v.size:=by
 have c:=v.size_eq
 unfold Bn
 split
 ·rw [←TJ];omega
 ·split
  ·rw [List.map_map]
   have:=Qu v.fields
   have e:(v.fields.map (Vl.size∘fun x=>x.2)).sum=Bi v.fields:=this.symm
   omega
  ·simp;omega
theorem Vm (l:List Ty) (i:Nat) (h:i<l.length):GO (l.drop i)=l[i].size+GO (l.drop (i+1)):=by rw [List.drop_eq_getElem_cons h,GO]
theorem PS (l:List TF) (i:Nat) (h:i<l.length):Dp (l.drop i)=l[i].2.2.2.1.size+Dp (l.drop (i+1)):=by
 rw [List.drop_eq_getElem_cons h]
 obtain ⟨a,b,c,t,d⟩:=l[i]
 rfl
def Ty.small (t:Ty):Prop:=t.size≤200∧t.depth≤12∧t.ok
def O0 {α:Type} (p:α→Bool) (l:List α) (j:Nat):Int :=
 if (l.drop j).findIdx p<(l.drop j).length then (j:Int)+((l.drop j).findIdx p:Nat) else -1
theorem MD {α:Type} (p:α→Bool) (l:List α) (j:Nat) (h:l.length≤j):O0 p l j = -1:=by
 unfold O0
 rw [List.drop_eq_nil_of_le h];rfl
theorem J1 {α:Type} (p:α→Bool) (l:List α) (j:Nat) (h:j<l.length):O0 p l j=if p l[j]=true then (j:Int) else O0 p l (j+1):=by
 unfold O0
 rw [List.drop_eq_getElem_cons h,List.findIdx_cons]
 cases hp:p l[j] with
 | true=>simp;omega
 | false =>
  simp only [cond_false,List.length_cons,Bool.false_eq_true,if_false]
  by_cases q:(l.drop (j+1)).findIdx p<(l.drop (j+1)).length
  ·rw [Ab,Ah q];push_cast;omega
  ·rw [Aa,Ai q]
theorem Ot {α:Type} (p:α→Bool) (l:List α):∀ (k j:Nat),j+k=l.length→O0 p l j = -1∨∃ i,∃ h:i<l.length,O0 p l j=(i:Int)∧p l[i]=true
 | 0,j,h => .inl (MD p l j (by omega))
 | k+1,j,h=>by
  have a:j<l.length:=by omega
  rw [J1 p l j a]
  by_cases hp:p l[j]=true
  ·rw [Ah hp];exact .inr ⟨j,a,rfl,hp⟩
  ·rw [Ai hp];exact Ot p l k (j+1) (by omega)
theorem U1 (n:Nat) (l:List TF) (p:TF→Bool) (hl:l.length≤1000000000):∀ (k m i:Nat),i+k=l.length→k<m→Bc n l (fun x=>some (p x)) m i=some (O0 p l i)
 | k,0,i,_,h=>absurd h (Nat.not_lt_zero _)
 | 0,m+1,i,hi,_=>by
  rw [Bc,AC,Ac,MD p l i (by omega)]
  rfl
 | k+1,m+1,i,hi,hm=>by
  have a:i<l.length:=by omega
  rw [Bc,AC,Ag a]
  simp only [if_true,AM a,Ae]
  rw [J1 p l i a]
  by_cases hp:p l[i]=true
  ·rw [Ah hp,Ah hp]
  ·rw [Ai hp,Ai hp,Ah (AK (by omega))]
   exact U1 n l p hl k m (i+1) (by omega) (by omega)
def Po:TF:=(0,(⟨#[]⟩:ByteArray),0,Ty.mk 0 0 0 0 [] [] [],[])
theorem Ziv (n:Nat) (t:Ty) (p:TF→Bool) (hn:t.size+1450000≤n) (ht:t.small) :
  (t.kind≠9∧t.kind≠10∧Lm n t (fun x=>some (p x))=some (Po,false)) ∨
  ((t.kind=9∨t.kind=10)∧((O0 p t.fields 0 = -1∧Lm n t (fun x=>some (p x))=some (Po,false))∨∃ i,∃ h:i<t.fields.length,O0 p t.fields 0=(i:Int)∧Lm n t (fun x=>some (p x))=some (t.fields[i],true))):=by
 obtain ⟨f,c,b⟩:=ht
 have d:=t.lens
 rw [Lm]
 by_cases hk:t.kind=9∨t.kind=10
 ·right
  refine ⟨hk,?_⟩
  rw [Ai (by simp only [Bool.and_eq_true,Bool.not_eq_true',decide_eq_false_iff_not];omega)]
  rw [Bh]
  have e:=U1 n t.fields p (by omega) t.fields.length n 0 (by omega) (by omega)
  rw [show ((0:Nat):Int)=0 from rfl] at e
  rw [e]
  simp only [Ae]
  rcases Ot p t.fields t.fields.length 0 (by omega) with q | ⟨i,hi,q,hp⟩
  ·rw [q];left;exact ⟨rfl,rfl⟩
  ·rw [q];right
   refine ⟨i,hi,rfl,?_⟩
   rw [Ac]
   simp only [Bool.false_eq_true,if_false,AM hi,Ae]
   obtain ⟨_,q2,q3,a⟩:=(t.ok_eq.1 b).2.2.2 _ (List.getElem_mem hi)
   have hs:=t.field_size _ (List.getElem_mem hi)
   rw [Zfz (IQ n) n t.fields[i] (by omega) (by omega) (fun v hv=>FZ n v (by have:=(a v hv).1;omega) (by have:=(a v hv).1;omega)) (UN n _ (by omega) (by omega) q2)]
   rfl
 ·left
  refine ⟨fun h=>hk (.inl h),fun h=>hk (.inr h),?_⟩
  rw [Ah (by simp only [Bool.and_eq_true,Bool.not_eq_true',decide_eq_false_iff_not];omega)]
  rfl
def MI (rec:Ty→Vl→Option Bool) (h:Vl) (b:Ty):Option Bool :=
 (B1 b.elem 0).bind fun g =>
 (rec g h).bind fun q =>
 some (!q)
theorem Zck (w0:World) (rec:Ty→Vl→Option Bool) (ih:∀ (B:Am) (Rw:Aq) (L:Ar) (a0:Ty) (a1:Vl) (r:Bool) (h:rec a0 a1=some r),ACalls Tryz.prog w0 201 [.agg (a0.cs),.agg (a1.cs)] ⟨B,Rw,L⟩ fun x st=>x = .val (.bool r)∧st=⟨B,Rw,L⟩) (B:Am) (Rw:Aq) (L:Ar) (a0:Vl) (la1:Nat) (a1:Ty) (hla1:B[la1]? = some (a1.cs)) (r:Bool) (h:MI rec a0 a1=some r) :
  ACalls Tryz.prog w0 269 [.agg (a0.cs),.box la1 0] ⟨B,Rw,L⟩ fun x st=>x = .val (.bool r)∧st=⟨B,Rw,L⟩:=by
 rw [MI] at h
 refine hd [.tmp 3] Tryz.func269 Tryz.ntmps269 fun M0 W0 f e d b i g hs=>?_
 simp only [AG]
 have c:=(Aj.1 hla1).1
 have hs:=Ad (Aw hla1) hs
 exact go (tg (a:=([1,2],[8,3],()))) h hs f e d b g (q1 ih) trivial
def HT (n:Nat)  : Option Int :=
 some ((-1))
def Cb (n:Nat) (g:List (ByteArray × Vl)) (y:(ByteArray × Vl)→Option Bool):Nat→Int→Option Int
 | 0,_=>none
 | m+1,b =>
  if decide (b<(g.length:Int)) then
   (B1 g b).bind fun h =>
   (y h).bind fun q =>
   if q then
    some (b)
   else
    if BM (b+1) then
     (Cb n g y m) (b+1)
    else none
  else
   HT n 
def BW (n:Nat) (g:List (ByteArray × Vl)) (b:(ByteArray × Vl)→Option Bool):Option Int :=
 Cb n g b n 0
theorem Ks (w0:World) (n:Nat) (B:Am) (Rw:Aq) (L:Ar) (a0:List (ByteArray × Vl)) (fa1:FuncId) (ca1:List AV) (a1:(ByteArray × Vl)→Option Bool) (ha1:∀ (x0:ByteArray × Vl) r,a1 x0=some r→∀ B' rows,B <+: B'→Rw <+: rows→ACalls Tryz.prog w0 fa1 ([.agg (.val (.string x0.1)::(x0.2.cs))]++ca1) ⟨B',rows,L⟩ fun v s=>v = .val (.bool r)∧s=⟨B',rows,L⟩) (r:Int) (h:BW n a0 a1=some r) :
  ACalls Tryz.prog w0 199 [.list (a0.map BV) .none,.clo fa1 ca1] ⟨B,Rw,L⟩ fun x st=>x=Ak r∧st=⟨B,Rw,L⟩:=by
 rw [BW] at h
 refine hd [.tmp 4] Tryz.func199 Tryz.ntmps199 fun M0 W0 k g i c l f hs=>?_
 simp only [AG]
 have b:=CV (l (.clo fa1 ca1) (by simp))
 refine rg [0,1] hs ?_
 refine AA (fun e st=>Ck e st B Rw L [] [] [] (HT n  = some r)) ?_ ?_
 ·intro K4 j
  refine rg [0,1,7,8] hs ?_
  apply Ao
  refine AL (fun m e st=>∃ (d:Int),Ck e st B Rw L [(0,true,.list (a0.map BV) .none),(1,true,.clo fa1 ca1),(7,true,Ak (a0.length:Int)),(8,true,Ak d)] [] [] (Cb n a0 a1 m d=some r)) n ⟨0,([]),Rw,ef hs,ef hs,f,h⟩ ?_
  rintro ml6 e st ⟨d,Xl6,Rl6,rfl,rfl,f,h⟩ Ul6 Vl6
  cases ml6 with
  | zero=>cases h
  | succ ml6 =>
  rw [Cb] at h
  refine AY k g i rfl c f (Kq b f) (Kq b f) ?_
  exact go (tg (a:=([0,1,7,8,9],([0,1,7,8],[0,1,5,7,8],[0,1,5,7,8,16],([4],()),[0,1,7,8],[0,1,7,8],()),[],()))) h hs k g i c f (q1 ha1) (q2 j (fun e s=>Vl6 ml6 e s (Nat.lt_succ_self _)))
 ·clear h;rintro e st ⟨Xk3,Rk3,rfl,rfl,f,h⟩
  rw [HT] at h
  refine AY k g i rfl c f (Kq b f) (Kq b f) ?_
  refine rg [4] hs ?_
  exact rt h hs c f
def F7 (g:ByteArray × Vl) (b:ByteArray):Bool :=
 Eb g.1 b
theorem Z2 (w0:World) (B:Am) (Rw:Aq) (L:Ar) (a0:ByteArray × Vl) (la1:Nat) (a1:ByteArray) (hla1:B[la1]? = some ([.val (.string a1)])) (r:Bool) (h:F7 a0 a1=r) :
  ACalls Tryz.prog w0 267 [.agg (.val (.string a0.1)::(a0.2.cs)),.box la1 0] ⟨B,Rw,L⟩ fun x st=>x = .val (.bool r)∧st=⟨B,Rw,L⟩:=by
 rw [F7] at h
 refine hd [.tmp 3] Tryz.func267 Tryz.ntmps267 fun M0 W0 f d c a g e hs=>?_
 simp only [AG]
 have b:=(Aj.1 hla1).1
 have hs:=Ad (Aw hla1) hs
 refine rg [1,2] hs ?_
 refine rg [3] hs ?_
 exact rT h hs a e
theorem X8 (w0:World) (B:Am) (Rw:Aq) (L:Ar) (a0:ByteArray × Vl) (la1:Nat) (a1:ByteArray) (hla1:B[la1]? = some ([.val (.string a1)])) :
  ACalls Tryz.prog w0 267 [.agg (.val (.string a0.1)::(a0.2.cs)),.box la1 0] ⟨B,Rw,L⟩ fun x st=>x = .val (.bool (F7 a0 a1))∧st=⟨B,Rw,L⟩:=Z2 w0 B Rw L a0 la1 a1 hla1 _ rfl
def JF (n:Nat) (q:Vl) (b:ByteArray):Option Int :=
 (BW n q.fields (fun (h:ByteArray × Vl)=>some (F7 h b))).bind fun g =>
 some (g)
theorem WQ (w0:World) (n:Nat) (B:Am) (Rw:Aq) (L:Ar) (a0:Vl) (a1:ByteArray) (r:Int) (h:JF n a0 a1=some r) :
  ACalls Tryz.prog w0 197 [.agg (a0.cs),.val (.string a1)] ⟨B,Rw,L⟩ fun x st=>x=Ak r∧st=⟨B,Rw,L⟩:=by
 rw [JF] at h
 refine hd [.tmp 4] Tryz.func197 Tryz.ntmps197 fun M0 W0 k f e a l g hs=>?_
 simp only [AG]
 refine rg [2,3] hs ?_
 obtain ⟨i,hy3,h⟩:=bind_some h
 refine rc 2 [4] hs ?_;intro K2 b
 refine As _ (Ks w0 n _ _ _ a0.fields 267 [.box (B.length+1) 0] (fun (x0:ByteArray × Vl)=>some (F7 x0 a1)) (fun x0 r hx j c hB' d=>by cases hx;exact X8 w0 _ _ _ x0 _ a1 (ED hB' ev)) _ hy3) (hv hs) ?_
 refine ne hs b ?_
 clear b
 exact rt h hs a g
def I0 (n:Nat) (g:Vl) (q:ByteArray):Option (Vl × Bool) :=
 (JF n g q).bind fun h =>
 if (!(decide (g.kind=9)))||(decide (h<0)) then
  some ((Vl.mk 0 0 0 (⟨#[]⟩:ByteArray) ([]) ([]),false))
 else
  (B1 g.fields h).bind fun y =>
  (Bm n y.2).bind fun b =>
  some ((b,true))
theorem SH (w0:World) (n:Nat) (B:Am) (Rw:Aq) (L:Ar) (a0:Vl) (a1:ByteArray) (r:Vl × Bool) (h:I0 n a0 a1=some r) :
  ACalls Tryz.prog w0 207 [.agg (a0.cs),.val (.string a1)] ⟨B,Rw,L⟩ fun x st=>x = .tup [.agg (r.1.cs),.val (.bool r.2)]∧st=⟨B,Rw,L⟩:=by
 rw [I0] at h
 refine hd [.cell 4 34,.tmp 5] Tryz.func207 Tryz.ntmps207 fun M0 W0 e d c b g f hs=>?_
 simp only [AG]
 exact go (tg (a:=([1,2,4],[2,4,6],[2,4,6,16],([4,5],()),[2,4,6],[4,5],()))) h hs e d c b f (q2 (WQ w0 n) (DO w0 n)) trivial
def MP (n:Nat) (b:Int × ByteArray × Int × Ty × List Vl) (g:Vl):Option Bool :=
 (I0 n g b.2.1).bind fun h =>
 some ((!h.2)&&(!(decide (b.2.2.1=2))))
theorem Zcf (w0:World) (n:Nat) (B:Am) (Rw:Aq) (L:Ar) (a0:Int × ByteArray × Int × Ty × List Vl) (la1:Nat) (a1:Vl) (hla1:B[la1]? = some (a1.cs)) (r:Bool) (h:MP n a0 a1=some r) :
  ACalls Tryz.prog w0 270 [.agg (Ak a0.1::(.val (.string a0.2.1)::(Ak a0.2.2.1::((a0.2.2.2.1.cs)++([.list (a0.2.2.2.2.map Bv) .none]))))),.box la1 0] ⟨B,Rw,L⟩ fun x st=>x = .val (.bool r)∧st=⟨B,Rw,L⟩:=by
 rw [MP] at h
 refine hd [.tmp 3] Tryz.func270 Tryz.ntmps270 fun M0 W0 f e d b i g hs=>?_
 simp only [AG]
 have c:=(Aj.1 hla1).1
 have hs:=Ad (Aw hla1) hs
 exact go (tg (a:=([1,2],[2,5],[3],()))) h hs f e d b g (q1 (SH w0 n)) trivial
def A5 (n:Nat) (h:List (Int × ByteArray × Int × Ty × List Vl)) (b:(Int × ByteArray × Int × Ty × List Vl)→Option Bool):Option Bool :=
 (Bh n h b).bind fun g =>
 some (decide (0≤g))
theorem DN (w0:World) (n:Nat) (B:Am) (Rw:Aq) (L:Ar) (a0:List (Int × ByteArray × Int × Ty × List Vl)) (fa1:FuncId) (ca1:List AV) (a1:(Int × ByteArray × Int × Ty × List Vl)→Option Bool) (ha1:∀ (x0:Int × ByteArray × Int × Ty × List Vl) r,a1 x0=some r→∀ B' rows,B <+: B'→Rw <+: rows→ACalls Tryz.prog w0 fa1 ([.agg (Ak x0.1::(.val (.string x0.2.1)::(Ak x0.2.2.1::((x0.2.2.2.1.cs)++([.list (x0.2.2.2.2.map Bv) .none])))))]++ca1) ⟨B',rows,L⟩ fun v s=>v = .val (.bool r)∧s=⟨B',rows,L⟩) (r:Bool) (h:A5 n a0 a1=some r) :
  ACalls Tryz.prog w0 111 [.list (a0.map ET) .none,.clo fa1 ca1] ⟨B,Rw,L⟩ fun x st=>x = .val (.bool r)∧st=⟨B,Rw,L⟩:=by
 rw [A5] at h
 refine hd [.tmp 4] Tryz.func111 Tryz.ntmps111 fun M0 W0 o l k b i g hs=>?_
 simp only [AG]
 have d:=CV (i (.clo fa1 ca1) (by simp))
 refine rg [0,1] hs ?_
 obtain ⟨m,f,h⟩:=bind_some h
 refine rc 2 [4] hs ?_;intro K2 c
 refine As _ (Ez w0 n _ _ _ a0 fa1 ca1 a1 (fun x0 r j e a q1 q2=>ha1 x0 r j e a (List.IsPrefix.trans px q1) (g.pre.trans q2)) _ f) (hv hs) ?_
 refine ne hs c ?_
 clear c
 exact rt h hs b g
def HV (n:Nat)  : Option Int :=
 some ((-1))
def CX (n:Nat) (g:List Vl) (y:Vl→Option Bool):Nat→Int→Option Int
 | 0,_=>none
 | m+1,b =>
  if decide (b<(g.length:Int)) then
   (B1 g b).bind fun h =>
   (y h).bind fun q =>
   if q then
    some (b)
   else
    if BM (b+1) then
     (CX n g y m) (b+1)
    else none
  else
   HV n 
def Gf (n:Nat) (g:List Vl) (b:Vl→Option Bool):Option Int :=
 CX n g b n 0
theorem Qa (w0:World) (n:Nat) (B:Am) (Rw:Aq) (L:Ar) (a0:List Vl) (fa1:FuncId) (ca1:List AV) (a1:Vl→Option Bool) (ha1:∀ (x0:Vl) r,a1 x0=some r→∀ B' rows,B <+: B'→Rw <+: rows→ACalls Tryz.prog w0 fa1 ([.agg (x0.cs)]++ca1) ⟨B',rows,L⟩ fun v s=>v = .val (.bool r)∧s=⟨B',rows,L⟩) (r:Int) (h:Gf n a0 a1=some r) :
  ACalls Tryz.prog w0 314 [.list (a0.map Bv) .none,.clo fa1 ca1] ⟨B,Rw,L⟩ fun x st=>x=Ak r∧st=⟨B,Rw,L⟩:=by
 rw [Gf] at h
 refine hd [.tmp 4] Tryz.func314 Tryz.ntmps314 fun M0 W0 k g i c l f hs=>?_
 simp only [AG]
 have b:=CV (l (.clo fa1 ca1) (by simp))
 refine rg [0,1] hs ?_
 refine AA (fun e st=>Ck e st B Rw L [] [] [] (HV n  = some r)) ?_ ?_
 ·intro K4 j
  refine rg [0,1,7,8] hs ?_
  apply Ao
  refine AL (fun m e st=>∃ (d:Int),Ck e st B Rw L [(0,true,.list (a0.map Bv) .none),(1,true,.clo fa1 ca1),(7,true,Ak (a0.length:Int)),(8,true,Ak d)] [] [] (CX n a0 a1 m d=some r)) n ⟨0,([]),Rw,ef hs,ef hs,f,h⟩ ?_
  rintro ml6 e st ⟨d,Xl6,Rl6,rfl,rfl,f,h⟩ Ul6 Vl6
  cases ml6 with
  | zero=>cases h
  | succ ml6 =>
  rw [CX] at h
  refine AY k g i rfl c f (Kq b f) (Kq b f) ?_
  exact go (tg (a:=([0,1,7,8,9],([0,1,7,8],[0,1,5,7,8],[0,1,5,7,8,16],([4],()),[0,1,7,8],[0,1,7,8],()),[],()))) h hs k g i c f (q1 ha1) (q2 j (fun e s=>Vl6 ml6 e s (Nat.lt_succ_self _)))
 ·clear h;rintro e st ⟨Xk3,Rk3,rfl,rfl,f,h⟩
  rw [HV] at h
  refine AY k g i rfl c f (Kq b f) (Kq b f) ?_
  refine rg [4] hs ?_
  exact rt h hs c f
def D9 (n:Nat) (h:List Vl) (b:Vl→Option Bool):Option Bool :=
 (Gf n h b).bind fun g =>
 some (decide (0≤g))
theorem Om (w0:World) (n:Nat) (B:Am) (Rw:Aq) (L:Ar) (a0:List Vl) (fa1:FuncId) (ca1:List AV) (a1:Vl→Option Bool) (ha1:∀ (x0:Vl) r,a1 x0=some r→∀ B' rows,B <+: B'→Rw <+: rows→ACalls Tryz.prog w0 fa1 ([.agg (x0.cs)]++ca1) ⟨B',rows,L⟩ fun v s=>v = .val (.bool r)∧s=⟨B',rows,L⟩) (r:Bool) (h:D9 n a0 a1=some r) :
  ACalls Tryz.prog w0 268 [.list (a0.map Bv) .none,.clo fa1 ca1] ⟨B,Rw,L⟩ fun x st=>x = .val (.bool r)∧st=⟨B,Rw,L⟩:=by
 rw [D9] at h
 refine hd [.tmp 4] Tryz.func268 Tryz.ntmps268 fun M0 W0 o l k b i g hs=>?_
 simp only [AG]
 have d:=CV (i (.clo fa1 ca1) (by simp))
 refine rg [0,1] hs ?_
 obtain ⟨m,f,h⟩:=bind_some h
 refine rc 2 [4] hs ?_;intro K2 c
 refine As _ (Qa w0 n _ _ _ a0 fa1 ca1 a1 (fun x0 r j e a q1 q2=>ha1 x0 r j e a (List.IsPrefix.trans px q1) (g.pre.trans q2)) _ f) (hv hs) ?_
 refine ne hs c ?_
 clear c
 exact rt h hs b g
def Jo (n:Nat)  : Option Int :=
 some ((-1))
def DZ (n:Nat) (h:List ByteArray) (q:ByteArray):Nat→Int→Option Int
 | 0,_=>none
 | m+1,b =>
  if decide (b<(h.length:Int)) then
   (B1 h b).bind fun g =>
   if Eb q g then
    some (b)
   else
    if BM (b+1) then
     (DZ n h q m) (b+1)
    else none
  else
   Jo n 
def H4 (n:Nat) (g:List ByteArray) (b:ByteArray):Option Int :=
 DZ n g b n 0
theorem SN (w0:World) (n:Nat) (B:Am) (Rw:Aq) (L:Ar) (a0:List ByteArray) (a1:ByteArray) (r:Int) (h:H4 n a0 a1=some r) :
  ACalls Tryz.prog w0 205 [.list (a0.map V6) .none,.val (.string a1)] ⟨B,Rw,L⟩ fun x st=>x=Ak r∧st=⟨B,Rw,L⟩:=by
 rw [H4] at h
 refine hd [.tmp 4] Tryz.func205 Tryz.ntmps205 fun M0 W0 j f g b k d hs=>?_
 simp only [AG]
 refine rg [0,1] hs ?_
 refine AA (fun e st=>Ck e st B Rw L [] [] [] (Jo n  = some r)) ?_ ?_
 ·intro K4 i
  refine rg [0,1,7,8] hs ?_
  apply Ao
  refine AL (fun m e st=>∃ (c:Int),Ck e st B Rw L [(0,true,.list (a0.map V6) .none),(1,true,.val (.string a1)),(7,true,Ak (a0.length:Int)),(8,true,Ak c)] [] [] (DZ n a0 a1 m c=some r)) n ⟨0,([]),Rw,ef hs,ef hs,d,h⟩ ?_
  rintro ml6 e st ⟨c,Xl6,Rl6,rfl,rfl,d,h⟩ Ul6 Vl6
  cases ml6 with
  | zero=>cases h
  | succ ml6 =>
  rw [DZ] at h
  exact go (tg (a:=([0,1,7,8,9],([0,1,7,8],[0,1,5,7,8],[0,1,5,7,8,16],([4],()),[0,1,7,8],[0,1,7,8],()),[],()))) h hs j f g b d trivial (q2 i (fun e s=>Vl6 ml6 e s (Nat.lt_succ_self _)))
 ·clear h;rintro e st ⟨Xk3,Rk3,rfl,rfl,d,h⟩
  rw [Jo] at h
  refine td j f g b d ?_
  refine rg [4] hs ?_
  exact rt h hs b d
def BX (n:Nat) (h:List ByteArray) (b:ByteArray):Option Bool :=
 (H4 n h b).bind fun g =>
 some (decide (0≤g))
theorem FR (w0:World) (n:Nat) (B:Am) (Rw:Aq) (L:Ar) (a0:List ByteArray) (a1:ByteArray) (r:Bool) (h:BX n a0 a1=some r) :
  ACalls Tryz.prog w0 133 [.list (a0.map V6) .none,.val (.string a1)] ⟨B,Rw,L⟩ fun x st=>x = .val (.bool r)∧st=⟨B,Rw,L⟩:=by
 rw [BX] at h
 refine hd [.tmp 4] Tryz.func133 Tryz.ntmps133 fun M0 W0 e d c b g f hs=>?_
 simp only [AG]
 exact go (tg (a:=([0,1],[4],()))) h hs e d c b f (q1 (SN w0 n)) trivial
def QZ (rec:Ty→Vl→Option Bool) (n:Nat) (q:Ty) (g:Vl):Option Bool :=
 (A5 n q.fields (fun (h:Int × ByteArray × Int × Ty × List Vl)=>MP n h g)).bind fun b =>
 some (!b)
def Ua (rec:Ty→Vl→Option Bool) (n:Nat)  : Option Bool :=
 some (true)
def JC (rec:Ty→Vl→Option Bool) (n:Nat) (a0:Ty) (q:Vl):Nat→Int→Option Bool
 | 0,_=>none
 | m+1,b =>
  if decide (b<(q.fields.length:Int)) then
   (B1 q.fields b).bind fun g =>
   (KL n a0 g.1).bind fun h =>
   if !h.2 then
    some (false)
   else
    (rec h.1.2.2.2.1 g.2).bind fun y =>
    if !y then
     some (false)
    else
     if BM (b+1) then
      (JC rec n a0 q m) (b+1)
     else none
  else
   QZ rec n a0 q 
def D2 (rec:Ty→Vl→Option Bool) (n:Nat) (b:Ty) (g:Vl) (h:Bool):Option Bool :=
 if h then
  some ((decide (b.min≤g.int)&&decide (g.int≤b.max))&&(decide (g.scale=b.scale)))
 else
  if decide (b.kind=4) then
   if decide (0<(b.words.length:Int)) then
    (BX n b.words g.text).bind fun y =>
    some (y)
   else
    some (decide (b.min≤(g.text.size:Int))&&decide ((g.text.size:Int)≤b.max))
  else
   if decide (b.kind=5) then
    some (decide (b.min≤(g.text.size:Int))&&decide ((g.text.size:Int)≤b.max))
   else
    if decide (b.kind=8) then
     if decide (b.min≤(g.list.length:Int))&&decide ((g.list.length:Int)≤b.max) then
      (D9 n g.list (fun (x0:Vl)=>MI rec x0 b)).bind fun y36 =>
      some (!y36)
     else
      some (false)
    else
     if decide (b.kind=10) then
      (KL n b g.text).bind fun q =>
      if q.2 then
       (B1 g.list 0).bind fun x43 =>
       (rec q.1.2.2.2.1 x43).bind fun y44 =>
       some (y44)
      else
       some (false)
     else
      if decide (b.kind=9) then
       JC rec n b g n 0
      else
       Ua rec n 
def VZ (rec:Ty→Vl→Option Bool) (n:Nat) (b:Ty) (g:Vl):Option Bool :=
 if !(decide (g.kind=b.kind)) then
  some (false)
 else
  if decide (b.kind=2) then
   D2 rec n b g true
  else
   if decide (b.kind=6) then
    D2 rec n b g true
   else
    if decide (b.kind=7) then
     D2 rec n b g true
    else
     D2 rec n b g (decide (b.kind=3))
def Lh:Nat→Ty→Vl→Option Bool
 | 0,_,_=>none
 | n+1,g,b=>VZ (Lh n) n g b
def ZH (w0:World) (F:Ty→Vl→Option Bool):Prop:=∀ (B:Am) (Rw:Aq) (L:Ar) (g:Ty) (b:Vl) (r:Bool),F g b=some r→ACalls Tryz.prog w0 201 [.agg (g.cs),.agg (b.cs)] ⟨B,Rw,L⟩ fun x st=>x = .val (.bool r)∧st=⟨B,Rw,L⟩
theorem Zc7 (w0:World) (rec:Ty→Vl→Option Bool) (ih:ZH w0 rec) (n:Nat):ZH w0 (VZ rec n):=by
 intro B Rw L a0 a1 r h
 rw [VZ] at h
 refine hd [.tmp 4] Tryz.func201 Tryz.ntmps201 fun M0 W0 k g f b G i hs=>?_
 simp only [AG]
 refine rg [2,3] hs ?_
 apply An;intro K2 v
 refine rg [2,3,15] hs ?_
 refine BN h hs ?_ ?_<;>intro hs h
 ·refine rg [4] hs ?_
  exact rt h hs b i
 refine sk [2,3] hs v ?_
 clear v
 refine AA (fun e st=>Ck e st B Rw L [] [a0.cs,a1.cs] [] (Ua rec n  = some r)) ?_ ?_
 ·intro K8 z
  refine rg [2,3,17] hs ?_
  apply Ao
  refine AA (fun e st=>∃ (d:Bool),Ck e st B Rw L [(2,true,.box B.length 0),(3,true,.box (B.length+1) 0),(17,true,Ak a0.kind),(18,true,.val (.bool d))] [a0.cs,a1.cs] [] (D2 rec n a0 a1 d=some r)) ?_ ?_
  ·intro K12 x
   exact go (tg (a:=([2,3,17,18],([2,3,17,18],()),[2,3,17,18],([2,3,17,18],()),[2,3,17,18],([2,3,17,18],()),[2,3,17,18],()))) h hs k g f b i trivial (q1 x)
  ·clear h;rintro e st ⟨d,Xk11,Rk11,rfl,rfl,i,h⟩
   rw [D2] at h
   refine td k g f b i ?_
   refine BN h hs ?_ ?_<;>intro hs h
   ·exact go (tg (a:=([4],()))) h hs k g f b i (q1 (TC w0)) trivial
   refine rg [2,3,17,37] hs ?_
   refine BN h hs ?_ ?_<;>intro hs h
   ·exact go (tg (a:=([2,3,42],([4],()),[2,3],[4],()))) h hs k g f b i (q2 (FR w0 n) (TC w0)) trivial
   refine rg [2,3,17,56] hs ?_
   refine BN h hs ?_ ?_<;>intro hs h
   ·exact go (tg (a:=([4],()))) h hs k g f b i (q1 (TC w0)) trivial
   refine rg [2,3,17,66] hs ?_
   refine BN h hs ?_ ?_<;>intro hs h
   ·apply An;intro K34 j
    rcases Bool.eq_false_or_eq_true (decide (a0.min≤(a1.list.length:Int))&&decide ((a1.list.length:Int)≤a0.max)) with hf35 | hf35
    ·replace h:=CP h hf35
     obtain ⟨D,t,h⟩:=bind_some h
     have hs:=Ad hf35 hs
     refine rk 3 [4] hs ?_
     refine As _ (TC w0 _ _ _ (a1.list.length:Int) a0.min a0.max) (hv hs) ?_
     refine nc hs ?_
     refine As _ (Om w0 n _ _ _ a1.list 269 [.box B.length 0] (fun (p:Vl)=>MI rec p a0) (fun p r C F q o y=>by exact Zck w0 rec ih _ _ _ p _ a0 (ED o (ef hs)) _ C) _ t) (hv hs) ?_
     refine ne hs j ?_
     clear j
     exact rt h hs b i
    ·replace h:=CO h hf35
     exact go (tg (a:=([4],()))) h (Ad hf35 hs) k g f b i (q1 (TC w0)) (q1 j)
   refine rg [2,3,17,83] hs ?_
   refine BN h hs ?_ ?_<;>intro hs h
   ·exact go (tg (a:=([3,5,6],([11,4],()),[11,4],()))) h hs k g f b i (q2 (SX w0 n) ih) trivial
   refine rg [2,3,102] hs ?_
   refine BN h hs ?_ ?_<;>intro hs h
   ·refine AA (fun e st=>Ck e st B Rw L [(2,true,.box B.length 0),(3,true,.box (B.length+1) 0)] [a0.cs,a1.cs] [] (QZ rec n a0 a1  = some r)) ?_ ?_
    ·intro K49 w
     refine rg [2,3,105,106,107] hs ?_
     apply Ao
     refine AL (fun m e st=>∃ (c:Int),Ck e st B Rw L [(2,true,.box B.length 0),(3,true,.box (B.length+1) 0),(105,true,.list (a1.fields.map BV) .none),(106,true,Ak (a1.fields.length:Int)),(107,true,Ak c)] [a0.cs,a1.cs] [] (JC rec n a0 a1 m c=some r)) n ⟨0,([]),Rk11,ef hs,ef hs,i,h⟩ ?_
     rintro ml51 e st ⟨c,Xl51,Rl51,rfl,rfl,i,h⟩ Ul51 Vl51
     cases ml51 with
     | zero=>cases h
     | succ ml51 =>
     rw [JC] at h
     exact go (tg (a:=([2,3,105,106,107,108],([2,3,105,106,107],[2,3,8,105,106,107],[2,3,8,9,10,105,106,107],([2,3,105,106,107,127],[4],()),[2,3,105,106,107,127],([4],()),[2,3,105,106,107],[2,3,105,106,107],()),[2,3],()))) h hs k g f b i (q2 (SX w0 n) ih) (q2 w (fun e s=>Vl51 ml51 e s (Nat.lt_succ_self _)))
    ·clear h;rintro e st ⟨Xk48,Rk48,rfl,rfl,i,h⟩
     rw [QZ] at h
     refine td k g f b i ?_
     obtain ⟨E,u,h⟩:=bind_some h
     refine rc 2 [4] hs ?_;intro K68 l
     refine As _ (DN w0 n _ _ _ a0.fields 270 [.box (B.length+1) 0] (fun (p:Int × ByteArray × Int × Ty × List Vl)=>MP n p a1) (fun p r C F q o y=>by exact Zcf w0 n _ _ _ p _ a1 (ED o (ef hs)) _ C) _ u) (hv hs) ?_
     refine ne hs l ?_
     clear l
     exact rt h hs b i
   refine sk [] hs z ?_
   exact ⟨([]),Rk11,ef hs,ef hs,i,h⟩
 ·clear h;rintro e st ⟨Xk7,Rk7,rfl,rfl,i,h⟩
  rw [Ua] at h
  refine td k g f b i ?_
  refine rg [4] hs ?_
  exact rt h hs b i
theorem ZbX (w0:World):∀ n:Nat,ZH w0 (Lh n)
 | 0=>fun _ _ _ _ _ _ h=>(nomatch h)
 | n+1=>Zc7 w0 (Lh n) (ZbX w0 n) n
def JG (n:Nat) (q:Ty) (b:Vl):Option Bool :=
 (GU n b).bind fun g =>
 if decide (g=0) then
  (Lh n q b).bind fun h =>
  some (h)
 else
  some (false)
theorem Ui (w0:World) (hT:Lib.Utf8Tabs 2 3 w0) (n:Nat) (B:Am) (Rw:Aq) (L:Ar) (a0:Ty) (a1:Vl) (r:Bool) (h:JG n a0 a1=some r) :
  ACalls Tryz.prog w0 123 [.agg (a0.cs),.agg (a1.cs)] ⟨B,Rw,L⟩ fun x st=>x = .val (.bool r)∧st=⟨B,Rw,L⟩:=by
 rw [JG] at h
 refine hd [.tmp 4] Tryz.func123 Tryz.ntmps123 fun M0 W0 e d c b g f hs=>?_
 simp only [AG]
 exact go (tg (a:=([2,3],([4],()),[4],()))) h hs e d c b f (q2 (SV w0 hT n) (ZbX w0 n)) trivial
section
variable {P:Program} {w0:World} {n:Nat} {l:List Oper} {ef dn:List Nat} {F:St→Prop} {T:Env→St→Prop} {k:Nat} {ev:Env} {s:St}
theorem gm1 {i:Nat} (_:Tg i) (hr:Zb8 l ef dn=[i]) (hn:(ef.all fun i=>dn.contains i)=false) (hF:F s) (h:∃ o,l[i]? = some o∧o.guard=none∧Nu n o.dst∧∃ Post:AV→St→Prop,Zs P w0 (Eo true l o ev) s o Post∧∀ v s',Post v s'→Ev.Good P w0 n l ef F T k (i::dn) (MV ev o.dst true v) s'):Ev.Good P w0 n l ef F T (k+1) dn ev s :=
 Ev.Good.mk [i] hr hF (fun q=>by rw [hn] at q;cases q) (fun j hj=>by obtain rfl:=List.mem_singleton.1 hj;exact h)
theorem gm0 {L:List Nat} {nb:Nat} {e2:Env} (_:Tg L) (hr:Zb8 l ef dn=[]) (hF:F s) (hT:EY L ev=e2):Ev.Good P w0 n l ef F (fun ev s'=>Conv w0 n nb ev s' e2 s) (k+1) dn ev s :=
 Ev.Good.mk [] hr hF (fun _=>GP L hT) (fun i hi=>by cases hi)
theorem stI {o:Oper} {v:AV} {s':St} (h:KI P w0 ev s o v s'):KI P w0 ev s o v s':=h
theorem kpI {L:List Nat} {e e':Env} (h:EY L e=e'):EY L e=e':=h
end
theorem gd {T F p:Prop} (tL:T) (hs:F) (k:T→F→p:=by
  intro tL hs
  repeat' first
    | ((with_reducible refine gm1 (tgh tL) kr rfl ?_ ?_)<;>replace tL:=tgt tL)
    | (with_reducible apply gm0 tL kr)
    | (apply MJ rfl rfl ev
       case' hs=>((simp +decide only [go_sem,Nat.reduceAdd,KI,hs]);(repeat' apply Ad)<;>first | rfl | exact cl)
       case' hk=>simp +decide only [go_sem,Nat.reduceAdd,hs])
    | ((with_reducible refine stI ?_);simp +decide only [go_sem,Nat.reduceAdd,KI,hs];(repeat' apply Ad)<;>first | rfl | exact cl)
    | ((with_reducible apply kpI);first | (simp +decide only [go_sem,Nat.reduceAdd,hs];done) | (simp +decide only [go_sem,Nat.reduceAdd,hs];rfl) | (simp +decide only [go_sem,Nat.reduceAdd,and_self,imp_self,hs];done) | (simp +decide only [go_sem,Nat.reduceAdd,and_self,imp_self,hs];rfl))
    | exact ⟨[],_,rfl⟩
    | exact ⟨[],_,_,rfl⟩
    | exact ⟨[],_,_,_,rfl⟩
    | exact ⟨_,_,rfl⟩
    | exact ⟨_,_,_,rfl⟩
    | exact ⟨[],_,by simp only [List.append_nil,List.nil_append]⟩
    | exact ⟨[],_,_,by simp only [List.append_nil,List.nil_append]⟩
    | exact ⟨_,_,by simp only [List.append_nil,List.nil_append]⟩):p:=k tL hs
def Fv (g:Int × ByteArray × Int × Ty × List Vl) (b:Int × ByteArray × Int × Ty × List Vl):Bool :=
 (Eb g.2.1 b.2.1)||(decide (g.1=b.1))
theorem ZK (w0:World) (B:Am) (Rw:Aq) (L:Ar) (a0:Int × ByteArray × Int × Ty × List Vl) (la1:Nat) (a1:Int × ByteArray × Int × Ty × List Vl) (hla1:B[la1]? = some (Ak a1.1::(.val (.string a1.2.1)::(Ak a1.2.2.1::((a1.2.2.2.1.cs)++([.list (a1.2.2.2.2.map Bv) .none])))))) (r:Bool) (h:Fv a0 a1=r) :
  ACalls Tryz.prog w0 308 [.agg (Ak a0.1::(.val (.string a0.2.1)::(Ak a0.2.2.1::((a0.2.2.2.1.cs)++([.list (a0.2.2.2.2.map Bv) .none]))))),.box la1 0] ⟨B,Rw,L⟩ fun x st=>x = .val (.bool r)∧st=⟨B,Rw,L⟩:=by
 rw [Fv] at h
 refine hd [.tmp 3] Tryz.func308 Tryz.ntmps308 fun M0 W0 f d c a g e hs=>?_
 simp only [AG]
 have b:=(Aj.1 hla1).1
 have hs:=Ad (Aw hla1) hs
 refine rg [1,2] hs ?_
 refine rg [3] hs ?_
 exact rT h hs a e
theorem Yc (w0:World) (B:Am) (Rw:Aq) (L:Ar) (a0:Int × ByteArray × Int × Ty × List Vl) (la1:Nat) (a1:Int × ByteArray × Int × Ty × List Vl) (hla1:B[la1]? = some (Ak a1.1::(.val (.string a1.2.1)::(Ak a1.2.2.1::((a1.2.2.2.1.cs)++([.list (a1.2.2.2.2.map Bv) .none])))))) :
  ACalls Tryz.prog w0 308 [.agg (Ak a0.1::(.val (.string a0.2.1)::(Ak a0.2.2.1::((a0.2.2.2.1.cs)++([.list (a0.2.2.2.2.map Bv) .none]))))),.box la1 0] ⟨B,Rw,L⟩ fun x st=>x = .val (.bool (Fv a0 a1))∧st=⟨B,Rw,L⟩:=ZK w0 B Rw L a0 la1 a1 hla1 _ rfl
def OY (n:Nat) (h:Ty) (g:Int):Option Int :=
 (B1 h.fields g).bind fun b =>
 if b.2.1.size≤maxLen then
  if !(Ft b.2.1) then
   some (12)
  else
   if !(decide (1≤b.1)&&decide (b.1≤9999)) then
    some (2)
   else
    if 0≤0∧0≤g∧g≤(h.fields.length:Int) then
     (A5 n (h.fields.take g.toNat) (fun (y:Int × ByteArray × Int × Ty × List Vl)=>some (Fv y b))).bind fun q =>
     if q then
      some (7)
     else
      if (!(decide (1≤b.2.2.1)&&decide (b.2.2.1≤3)))||((decide (h.kind=10))&&(!(decide (b.2.2.1=1)))) then
       some (11)
      else
       if (decide (b.2.2.1=3))&&(decide ((b.2.2.2.2.length:Int)=0)) then
        some (4)
       else
        if (decide (1<(b.2.2.2.2.length:Int)))||((!(decide (b.2.2.1=3)))&&(decide (0<(b.2.2.2.2.length:Int)))) then
         some (3)
        else
         some (0)
    else none
 else none
theorem Zcw (w0:World) (n:Nat) (B:Am) (Rw:Aq) (L:Ar) (a0:Ty) (a1:Int) (r:Int) (h:OY n a0 a1=some r) :
  ACalls Tryz.prog w0 255 [.agg (a0.cs),Ak a1] ⟨B,Rw,L⟩ fun x st=>x=Ak r∧st=⟨B,Rw,L⟩:=by
 rw [OY] at h
 refine hd [.tmp 4] Tryz.func255 Tryz.ntmps255 fun M0 W0 v q k b C l hs=>?_
 simp only [AG]
 refine rg [1,2] hs ?_
 obtain ⟨x3,j,h⟩:=bind_some h
 obtain ⟨s,t,c⟩:=B9 j
 have i:=C5 (f:=ET) c
 have hs:=Ad i hs
 refine rg [1,2,5] hs ?_
 apply An;intro K4 p
 apply Ao
 obtain ⟨m,h⟩:=Au h
 refine rc 2 [1,2,5,11] hs ?_;intro K5 e
 refine As _ (Q1 w0 _ _ _ x3.2.1 m) (hv hs) ?_
 refine ne hs e ?_
 clear e
 refine BN h hs ?_ ?_<;>intro hs h
 ·refine rg [4] hs ?_
  exact rt h hs b l
 refine rc 2 [1,2,5,16] hs ?_;intro K9 d
 refine As _ (TC w0 _ _ _ x3.1 1 9999) (hv hs) ?_
 refine ne hs d ?_
 clear d
 refine BN h hs ?_ ?_<;>intro hs h
 ·refine rg [4] hs ?_
  exact rt h hs b l
 obtain ⟨u,h⟩:=Au h
 obtain ⟨w,hy14,h⟩:=bind_some h
 refine rc 2 [2,5,21] hs ?_;intro K12 g
 refine As _ (DN w0 n _ _ _ (a0.fields.take a1.toNat) 308 [.box (B.length+1) 0] (fun (x0:Int × ByteArray × Int × Ty × List Vl)=>some (Fv x0 x3)) (fun x0 r hx z o hB' y=>by cases hx;exact Yc w0 _ _ _ x0 _ x3 (ED hB' (ef hs))) _ hy14) (hv hs) ?_
 exact go (tg (a:=(([4],()),[5,28],([4],()),[5,43],([4],()),[53],([4],()),[],[4],()))) h hs v q k b l (q1 (TC w0)) (q2 g p)
def JA  (b:Bool):Int :=
 if b then
  3
 else
  0
def MQ (b:Ty) (g:Lim):Int :=
 if (!g.bounds)&&((!(decide (b.min=0)))||(!(decide (b.max=0)))) then
  JA  true
 else
  if (!g.scale)&&(!(decide (b.scale=0))) then
   JA  true
  else
   if (!g.text)&&(decide (0<(b.words.length:Int))) then
    JA  true
   else
    if (!g.list)&&(decide (0<(b.elem.length:Int))) then
     JA  true
    else
     JA  ((!g.fields)&&(decide (0<(b.fields.length:Int))))
theorem ZeH (w0:World) (B:Am) (Rw:Aq) (L:Ar) (a0:Ty) (a1:Lim) (r:Int) (h:MQ a0 a1=r) :
  ACalls Tryz.prog w0 253 [.agg (a0.cs),.agg (.val (.string a1.name)::(Ak a1.low::(Ak a1.high::(.val (.bool a1.bounds)::(.val (.bool a1.scale)::(.val (.bool a1.text)::(.val (.bool a1.list)::([.val (.bool a1.fields)]))))))))] ⟨B,Rw,L⟩ fun x st=>x=Ak r∧st=⟨B,Rw,L⟩:=by
 rw [MQ] at h
 refine hd [.tmp 4] Tryz.func253 Tryz.ntmps253 fun M0 W0 k f d c l j hs=>?_
 simp only [AG]
 refine rg [2,3] hs ?_
 apply An;intro K2 i
 apply Ao
 refine AA (fun e st=>∃ (b:Bool),Ck e st B Rw L [(5,true,.val (.bool b))] [a0.cs,.val (.string a1.name)::(Ak a1.low::(Ak a1.high::(.val (.bool a1.bounds)::(.val (.bool a1.scale)::(.val (.bool a1.text)::(.val (.bool a1.list)::([.val (.bool a1.fields)])))))))] [] (JA  b=r)) ?_ ?_
 ·intro K5 g
  exact go (tg (a:=([2,3,5],([5],()),[2,3,5],([5],()),[2,3,5],([5],()),[2,3,5],([5],()),[5],()))) h hs k f d c j trivial (q1 g)
 ·clear h;rintro e st ⟨b,Xk4,Rk4,rfl,rfl,j,h⟩
  rw [JA] at h
  exact go (tg (a:=(([4],()),[],[4],()))) h hs k f d c j trivial (q1 i)
theorem Zcg (w0:World) (B:Am) (Rw:Aq) (L:Ar) (a0:Ty) (a1:Lim) :
  ACalls Tryz.prog w0 253 [.agg (a0.cs),.agg (.val (.string a1.name)::(Ak a1.low::(Ak a1.high::(.val (.bool a1.bounds)::(.val (.bool a1.scale)::(.val (.bool a1.text)::(.val (.bool a1.list)::([.val (.bool a1.fields)]))))))))] ⟨B,Rw,L⟩ fun x st=>x=Ak (MQ a0 a1)∧st=⟨B,Rw,L⟩:=ZeH w0 B Rw L a0 a1 _ rfl
def JO  : ((List Lim)) :=
 [Lim.mk (⟨#[]⟩:ByteArray) 0 0 false false false false false,Lim.mk ((⟨#[98,111,111,108]⟩:ByteArray)) 0 0 false false false false false,Lim.mk ((⟨#[105,110,116]⟩:ByteArray)) ((-999999999999999)) 999999999999999 true false false false false,Lim.mk ((⟨#[100,101,99,105,109,97,108]⟩:ByteArray)) ((-999999999999999)) 999999999999999 true true false false false,Lim.mk ((⟨#[116,101,120,116]⟩:ByteArray)) 0 1024 true false true false false,Lim.mk ((⟨#[98,121,116,101,115]⟩:ByteArray)) 0 1024 true false false false false,Lim.mk ((⟨#[100,97,116,101]⟩:ByteArray)) ((-719162)) 2932896 true false false false false,Lim.mk ((⟨#[116,105,109,101]⟩:ByteArray)) ((-62135596800000)) 253402300799999 true false false false false,Lim.mk ((⟨#[108,105,115,116]⟩:ByteArray)) 0 256 true false false true false,Lim.mk ((⟨#[114,101,99,111,114,100]⟩:ByteArray)) 0 0 false false false false true,Lim.mk ((⟨#[118,97,114,105,97,110,116]⟩:ByteArray)) 0 0 false false false false true]
theorem Zdd (w0:World) (B:Am) (Rw:Aq) (L:Ar)  (r:(List Lim)) (h:JO  = r) :
  ACalls Tryz.prog w0 252 [] ⟨B,Rw,L⟩ fun x st=>x = .agg (r.flatMap fun x=>(Zip x).cells)∧st=⟨B,Rw,L⟩:=by
 rw [JO] at h
 refine hd [.cell 0 259] Tryz.func252 Tryz.ntmps252 fun M0 W0 e c b a f d hs=>?_
 simp only [AG]
 refine rg [0] hs ?_
 refine rg [0] (al hs) ?_
 exact rT h hs a d
theorem ZaX (w0:World) (B:Am) (Rw:Aq) (L:Ar)  :
  ACalls Tryz.prog w0 252 [] ⟨B,Rw,L⟩ fun x st=>x = .agg ((JO ).flatMap fun x=>(Zip x).cells)∧st=⟨B,Rw,L⟩:=Zdd w0 B Rw L  _ rfl
def A4 (b:ByteArray):Vl :=
 Vl.mk 4 0 0 b ([]) ([])
theorem Ze2 (w0:World) (B:Am) (Rw:Aq) (L:Ar) (a0:ByteArray) (r:Vl) (h:A4 a0=r) :
  ACalls Tryz.prog w0 190 [.val (.string a0)] ⟨B,Rw,L⟩ fun x st=>x = .agg (r.cs)∧st=⟨B,Rw,L⟩:=by
 rw [A4] at h
 refine hd [.cell 2 34] Tryz.func190 Tryz.ntmps190 fun M0 W0 e c b a f d hs=>?_
 simp only [AG]
 refine rg [0,2] hs ?_
 refine rg [2] hs ?_
 exact rT h hs a d
theorem KX (w0:World) (B:Am) (Rw:Aq) (L:Ar) (a0:ByteArray) :
  ACalls Tryz.prog w0 190 [.val (.string a0)] ⟨B,Rw,L⟩ fun x st=>x = .agg ((A4 a0).cs)∧st=⟨B,Rw,L⟩:=Ze2 w0 B Rw L a0 _ rfl
def Ob (n:Nat)  : Option Int :=
 some (0)
def GX (n:Nat) (q:Ty):Nat→Int→Option Int
 | 0,_=>none
 | m+1,b =>
  if decide (b<(q.words.length:Int)) then
   (B1 q.words b).bind fun g =>
   (GU n (A4 g)).bind fun y =>
   if !(decide (y=0)) then
    some (y)
   else
    if decide (0<b) then
     if BM (b-1) then
      (B1 q.words (b-1)).bind fun h =>
      if Eb g h then
       some (7)
      else
       if BM (b-1) then
        if X7 g h then
         some (24)
        else
         if BM (b+1) then
          (GX n q m) (b+1)
         else none
       else none
     else none
    else
     if BM (b+1) then
      (GX n q m) (b+1)
     else none
  else
   Ob n 
def OK (n:Nat) (b:Ty):Option Int :=
 if (!(decide (b.min=0)))||(!(decide (b.max=0))) then
  some (3)
 else
  if decide (64<(b.words.length:Int)) then
   some (9)
  else
   GX n b n 0
theorem Zde (w0:World) (hT:Lib.Utf8Tabs 2 3 w0) (n:Nat) (B:Am) (Rw:Aq) (L:Ar) (a0:Ty) (r:Int) (h:OK n a0=some r) :
  ACalls Tryz.prog w0 254 [.agg (a0.cs)] ⟨B,Rw,L⟩ fun x st=>x=Ak r∧st=⟨B,Rw,L⟩:=by
 rw [OK] at h
 refine hd [.tmp 2] Tryz.func254 Tryz.ntmps254 fun M0 W0 k i g b l d hs=>?_
 simp only [AG]
 refine rg [1] hs ?_
 apply An;intro K2 j
 apply Ao
 refine rg [1,6] hs ?_
 refine BN h hs ?_ ?_<;>intro hs h
 ·refine rg [2] hs ?_
  exact rt h hs b d
 refine rg [1,15] hs ?_
 refine BN h hs ?_ ?_<;>intro hs h
 ·refine rg [2] hs ?_
  exact rt h hs b d
 refine sk [1] hs j ?_
 clear j
 refine AA (fun e st=>Ck e st B Rw L [] [a0.cs] [] (Ob n  = some r)) ?_ ?_
 ·intro K11 f
  refine rg [1,21,22,23] hs ?_
  apply Ao
  refine AL (fun m e st=>∃ (c:Int),Ck e st B Rw L [(1,true,.box B.length 0),(21,true,.list (a0.words.map V6) .none),(22,true,Ak (a0.words.length:Int)),(23,true,Ak c)] [a0.cs] [] (GX n a0 m c=some r)) n ⟨0,([]),Rw,ef hs,ef hs,d,h⟩ ?_
  rintro ml13 e st ⟨c,Xl13,Rl13,rfl,rfl,d,h⟩ Ul13 Vl13
  cases ml13 with
  | zero=>cases h
  | succ ml13 =>
  rw [GX] at h
  exact go (tg (a:=([1,21,22,23,24],([1,21,22,23],[1,3,4,21,22,23],[1,3,4,5,21,22,23],[1,3,4,5,21,22,23,32],([2],()),[1,3,4,21,22,23],([1,3,4,21,22,23,45],([2],()),[1,3,4,21,22,23],[1,21,22,23,57],([2],()),[1,21,22,23],[1,21,22,23],()),[1,3,4,21,22,23,45],[1,3,4,21,22,23],[1,21,22,23,57],[1,21,22,23],[1,21,22,23],()),[],()))) h hs k i g b d (q2 (KX w0) (SV w0 hT n)) (q2 f (fun e s=>Vl13 ml13 e s (Nat.lt_succ_self _)))
 ·clear h;rintro e st ⟨Xk10,Rk10,rfl,rfl,d,h⟩
  rw [Ob] at h
  refine td k i g b d ?_
  refine rg [2] hs ?_
  exact rt h hs b d
def Uz (n:Nat)  : Option Int :=
 some (0)
def JH (n:Nat) (h:Ty):Nat→Int→Option Int
 | 0,_=>none
 | m+1,b =>
  if decide (b<(h.fields.length:Int)) then
   (OY n h b).bind fun g =>
   if !(decide (g=0)) then
    some (g)
   else
    if BM (b+1) then
     (JH n h m) (b+1)
    else none
  else
   Uz n 
def Jy (n:Nat) (g:Ty) (b:Bool):Option Int :=
 if b then
  some (4)
 else
  if (decide (g.kind=8))&&(decide (1<(g.elem.length:Int))) then
   some (3)
  else
   if decide (64<(g.fields.length:Int)) then
    some (9)
   else
    JH n g n 0
def MO (n:Nat) (b:Ty):Option Int :=
 if (decide (b.kind=8))&&(decide ((b.elem.length:Int)=0)) then
  Jy n b true
 else
  Jy n b ((decide (b.kind=10))&&(decide ((b.fields.length:Int)=0)))
def Oq (n:Nat) (g:Ty) (b:Bool):Option Int :=
 if b then
  some (2)
 else
  MO n g 
def S5 (n:Nat) (b:Ty):Option Int :=
 if !(decide (1≤b.kind)&&decide (b.kind≤10)) then
  some (11)
 else
  (B1 (JO ) b.kind).bind fun g =>
  if !(decide ((MQ b g)=0)) then
   some (MQ b g)
  else
   if (decide (b.kind=4))&&(decide (0<(b.words.length:Int))) then
    (OK n b).bind fun h =>
    if !(decide (h=0)) then
     some (h)
    else
     MO n b 
   else
    if g.bounds&&(((decide (b.max<b.min))||(decide (b.min<g.low)))||(decide (g.high<b.max))) then
     Oq n b true
    else
     Oq n b (g.scale&&(!(decide (0≤b.scale)&&decide (b.scale≤12))))
theorem ZgQ (w0:World) (hT:Lib.Utf8Tabs 2 3 w0) (n:Nat) (B:Am) (Rw:Aq) (L:Ar) (a0:Ty) (r:Int) (h:S5 n a0=some r) :
  ACalls Tryz.prog w0 172 [.agg (a0.cs)] ⟨B,Rw,L⟩ fun x st=>x=Ak r∧st=⟨B,Rw,L⟩:=by
 rw [S5] at h
 refine hd [.tmp 2] Tryz.func172 Tryz.ntmps172 fun M0 W0 q o l b O k hs=>?_
 simp only [AG]
 refine rg [1] hs ?_
 apply An;intro K2 H
 refine rc 2 [1,11] hs ?_;intro K3 z
 refine As _ (TC w0 _ _ _ a0.kind 1 10) (hv hs) ?_
 refine ne hs z ?_
 clear z
 refine BN h hs ?_ ?_<;>intro hs h
 ·have p:=hs.1
  refine rg [2] hs ?_
  exact rt h hs b k
 have p:=hs.1
 refine sk [1] hs H ?_
 clear H
 apply An;intro K6 D
 obtain ⟨c,K,h⟩:=bind_some h
 obtain ⟨N,w,E⟩:=B9 K
 have g:=Fo (f:=fun x=>(Zip x).cells) 8 (fun _=>rfl) E
 have F:(JO ).length=11:=rfl
 first | rw [F] at w | simp only [List.length_cons,List.length_nil,Nat.reduceAdd,Nat.zero_add] at w
 simp only [Hg,G6,He,Hz,Ha,GK,Fh,Fa,G2,Eg,Eh,Fp,Fq,E9,Ep] at g
 apply G5 Oo [4,5] [1,3] kr (fun s=>∃ (X:Am) (rows:Aq),s=⟨B++([a0.cs]++X),rows,L⟩) 3 (B.length+1)
 ·simp +decide only [go_sem,Nat.reduceAdd]
 ·rintro s ⟨X,rows,rfl⟩
  refine ⟨2,?_⟩
  rw [Ap];simp +decide only [go_sem,Nat.reduceAdd,EI,p,g]
  have hs:=Ad g hs
  (repeat' apply Ad)<;>first | refine As _ (ZaX w0 _ _ _ ) (hv hs) ?_ | exact cl
  rw [Ap];simp +decide only [go_sem,Nat.reduceAdd,p,g]
  (repeat' apply Ad)<;>first | rfl | exact cl
 ·exact gd (tg (a:=(4,5,[1,3]))) (Ad g hs)
 simp +decide only [go_sem,Nat.reduceAdd,p,g]
 (repeat' apply Ad)<;>first | refine D _ _ ?_ | exact cl
 clear D
 apply An;intro K8 J
 have hs:=Ad g hs
 refine rc 2 [1,3,4] hs ?_;intro K9 G
 refine As _ (Zcg w0 _ _ _ a0 c) (hv hs) ?_
 refine ne hs G ?_
 clear G
 refine rg [1,3,4,20] hs ?_
 refine BN h hs ?_ ?_<;>intro hs h
 ·refine rg [2] hs ?_
  exact rt h hs b k
 refine sk [1,3] hs J ?_
 clear J
 refine AA (fun e st=>Ck e st B Rw L [(1,true,.box B.length 0)] [a0.cs,.val (.string c.name)::(Ak c.low::(Ak c.high::(.val (.bool c.bounds)::(.val (.bool c.scale)::(.val (.bool c.text)::(.val (.bool c.list)::([.val (.bool c.fields)])))))))] [] (MO n a0  = some r)) ?_ ?_
 ·intro K15 u
  apply Ao
  refine rg [1,3,22] hs ?_
  refine BN h hs ?_ ?_<;>intro hs h
  ·exact go (tg (a:=([1,5],[1,5,35],([2],()),[1],()))) h hs q o l b k (q1 (Zde w0 hT n)) (q1 u)
  refine AA (fun e st=>∃ (i:Bool),Ck e st B Rw L [(1,true,.box B.length 0),(37,true,.val (.bool i))] [a0.cs,.val (.string c.name)::(Ak c.low::(Ak c.high::(.val (.bool c.bounds)::(.val (.bool c.scale)::(.val (.bool c.text)::(.val (.bool c.list)::([.val (.bool c.fields)])))))))] [] (Oq n a0 i=some r)) ?_ ?_
  ·intro K25 t
   refine rg [1,3,37] hs ?_
   refine BN h hs ?_ ?_<;>intro hs h
   ·refine sk [1,37] hs t ?_
    exact ⟨true,([]),Rw,ef hs,ef hs,k,h⟩
   refine rk 2 [1,37] hs ?_
   refine EF _ (fun _=>TC w0 _ _ _ a0.scale 0 12) (hv hs) ?_
   exact go (tg (a:=((),()))) h hs q o l b k trivial (q1 t)
  ·clear h;rintro e st ⟨i,Xk24,Rk24,rfl,rfl,k,h⟩
   rw [Oq] at h
   exact go (tg (a:=(([2],()),[1],()))) h hs q o l b k trivial (q1 u)
 ·clear h;rintro e st ⟨Xk14,Rk14,rfl,rfl,k,h⟩
  rw [MO] at h
  refine td q o l b k ?_
  apply An;intro K30 v
  apply Ao
  refine AA (fun e st=>∃ (j:Bool),Ck e st B Rw L [(1,true,.box B.length 0),(69,true,.val (.bool j))] [a0.cs,.val (.string c.name)::(Ak c.low::(Ak c.high::(.val (.bool c.bounds)::(.val (.bool c.scale)::(.val (.bool c.text)::(.val (.bool c.list)::([.val (.bool c.fields)])))))))] [] (Jy n a0 j=some r)) ?_ ?_
  ·intro K33 C
   exact go (tg (a:=([1,69],([1,69],()),[1,69],()))) h hs q o l b k trivial (q1 C)
  ·clear h;rintro e st ⟨j,Xk32,Rk32,rfl,rfl,k,h⟩
   rw [Jy] at h
   refine td q o l b k ?_
   refine BN h hs ?_ ?_<;>intro hs h
   ·refine rg [2] hs ?_
    exact rt h hs b k
   refine rg [1,88] hs ?_
   refine BN h hs ?_ ?_<;>intro hs h
   ·refine rg [2] hs ?_
    exact rt h hs b k
   refine rg [1,98] hs ?_
   refine BN h hs ?_ ?_<;>intro hs h
   ·refine rg [2] hs ?_
    exact rt h hs b k
   refine sk [1] hs v ?_
   clear v
   refine AA (fun e st=>Ck e st B Rw L [] [a0.cs,.val (.string c.name)::(Ak c.low::(Ak c.high::(.val (.bool c.bounds)::(.val (.bool c.scale)::(.val (.bool c.text)::(.val (.bool c.list)::([.val (.bool c.fields)])))))))] [] (Uz n  = some r)) ?_ ?_
   ·intro K46 y
    refine rg [1,105,106] hs ?_
    apply Ao
    refine AL (fun m e st=>∃ (d:Int),Ck e st B Rw L [(1,true,.box B.length 0),(105,true,Ak (a0.fields.length:Int)),(106,true,Ak d)] [a0.cs,.val (.string c.name)::(Ak c.low::(Ak c.high::(.val (.bool c.bounds)::(.val (.bool c.scale)::(.val (.bool c.text)::(.val (.bool c.list)::([.val (.bool c.fields)])))))))] [] (JH n a0 m d=some r)) n ⟨0,([]),Rk32,ef hs,ef hs,k,h⟩ ?_
    rintro ml48 e st ⟨d,Xl48,Rl48,rfl,rfl,k,h⟩ Ul48 Vl48
    cases ml48 with
    | zero=>cases h
    | succ ml48 =>
    rw [JH] at h
    exact go (tg (a:=([1,105,106,107],([1,105,106],[1,6,105,106],[1,7,105,106],[1,7,105,106,113],([2],()),[1,105,106],[1,105,106],()),[],()))) h hs q o l b k (q1 (Zcw w0 n)) (q2 y (fun e s=>Vl48 ml48 e s (Nat.lt_succ_self _)))
   ·clear h;rintro e st ⟨Xk45,Rk45,rfl,rfl,k,h⟩
    rw [Uz] at h
    refine td q o l b k ?_
    refine rg [2] hs ?_
    exact rt h hs b k
def JD (rec:Ty→Int→Int→Option (Int × Int)) (n:Nat)  (pla2_k18:Int):Option (Int × Int) :=
 some ((0,pla2_k18))
def BP (rec:Ty→Int→Int→Option (Int × Int)) (n:Nat) (a0:Ty) (q:Int) (h:(List Ty)):Nat→Int→Int→Option (Int × Int)
 | 0,_,_=>none
 | m+1,b,pla2_l22 =>
  if decide (b<(h.length:Int)) then
   (B1 h b).bind fun y =>
   if BM (q+1) then
    (rec y (q+1) pla2_l22).bind fun g =>
    if !(decide (g.1=0)) then
     some ((g.1,g.2))
    else
     if decide (a0.kind=9) then
      (B1 a0.fields b).bind fun x38 =>
      if decide (x38.2.2.1=3) then
       (B1 x38.2.2.2.2 0).bind fun x40 =>
       (JG n y x40).bind fun y41 =>
       if !y41 then
        some ((18,g.2))
       else
        if BM (b+1) then
         (BP rec n a0 q h m) (b+1) g.2
        else none
      else
       if BM (b+1) then
        (BP rec n a0 q h m) (b+1) g.2
       else none
     else
      if BM (b+1) then
       (BP rec n a0 q h m) (b+1) g.2
      else none
   else none
  else
   JD rec n pla2_l22
def OL (rec:Ty→Int→Int→Option (Int × Int)) (n:Nat) (q:Ty) (y:Int) (b:Int):Option (Int × Int) :=
 if decide (b=0) then
  some ((9,b))
 else
  if decide (8<y) then
   some ((23,b))
  else
   if BM (b-1) then
    (S5 n q).bind fun g =>
    if !(decide (g=0)) then
     some ((g,b-1))
    else
     (OP n q).bind fun h =>
     BP rec n q y h n 0 (b-1)
   else none
def HN:Nat→Ty→Int→Int→Option (Int × Int)
 | 0,_,_,_=>none
 | n+1,h,b,g=>OL (HN n) n h b g
def UX (w0:World) (F:Ty→Int→Int→Option (Int × Int)):Prop:=∀ (B:Am) (Rw:Aq) (L:Ar) (h:Ty) (b:Int) (la2:Nat) (g:Int) (hla2:B[la2]? = some ([Ak g])) (r:Int × Int),F h b g=some r→ACalls Tryz.prog w0 82 [.agg (h.cs),Ak b,.box la2 0] ⟨B,Rw,L⟩ fun x st=>x=Ak r.1∧st=⟨(B.set la2 [Ak r.2]),Rw,L⟩
theorem Zz (w0:World) (hT:Lib.Utf8Tabs 2 3 w0) (rec:Ty→Int→Int→Option (Int × Int)) (ih:UX w0 rec) (n:Nat):UX w0 (OL rec n):=by
 intro B Rw L a0 a1 l a2 u r h
 rw [OL] at h
 refine hd [.tmp 6] Tryz.func82 Tryz.ntmps82 fun M0 W0 C k i c hu j hs=>?_
 simp only [AG]
 have Q:=(Aj.1 u).1
 have hs:=Ad (Aw u) hs
 refine rg [1,2,3] hs ?_
 apply An;intro K2 J
 apply Ao
 refine rg [1,2,3,11] hs ?_
 refine BN h hs ?_ ?_<;>intro hs h
 ·have U:=hs.1
  refine rg [6] hs ?_
  exact rt h hs c j
 have U:=hs.1
 refine rg [1,2,3,16] hs ?_
 refine BN h hs ?_ ?_<;>intro hs h
 ·have Z:=hs.1
  refine rg [6] hs ?_
  exact rt h hs c j
 have Z:=hs.1
 refine sk [1,2,3] hs J ?_
 clear J
 obtain ⟨ad,h⟩:=Au h
 refine rg [1,2,3] hs ?_
 apply An;intro K11 o
 obtain ⟨af,F,h⟩:=bind_some h
 refine rc 2 [1,2,3,7] hs ?_;intro K12 v
 refine As _ (ZgQ w0 hT n _ _ _ a0 _ F) (hv hs) ?_
 refine ne hs v ?_
 clear v
 refine rg [1,2,3,7,27] hs ?_
 refine BN h hs ?_ ?_<;>intro hs h
 ·have N:=hs.1
  exact go (tg (a:=([6],()))) h hs C k i c j trivial trivial
 have N:=hs.1
 refine sk [1,2,3] hs o ?_
 clear o
 refine AA (fun e st=>∃ (d:Int) (Xk18:Am) (Rk18:Aq),e=[]∧st=⟨(B.set l ([Ak d]))++([a0.cs]++Xk18),Rk18,L⟩∧Owns Rw Rk18 []∧JD rec n d=some r) ?_ ?_
 ·intro K19 E
  obtain ⟨y,D,h⟩:=bind_some h
  refine rc 2 [1,2,3,30,31,32] hs ?_;intro K20 t
  refine As _ (Zcc w0 n _ _ _ a0 _ D) (hv hs) ?_
  refine ne hs t ?_
  clear t
  apply Ao
  refine AL (fun m e st=>∃ (g:Int) (b:Int) (Xl22:Am) (Rl22:Aq),e=[(1,true,Ak a1),(2,true,.box l 0),(3,true,.box B.length 0),(30,true,.list (y.map Ny) .none),(31,true,Ak (y.length:Int)),(32,true,Ak g)]∧st=⟨(B.set l ([Ak b]))++([a0.cs]++Xl22),Rl22,L⟩∧Owns Rw Rl22 []∧BP rec n a0 a1 y m g b=some r) n ⟨0,(a2-1),([]),Rw,ef hs,ef hs,j,h⟩ ?_
  rintro ml22 e st ⟨g,b,Xl22,Rl22,rfl,rfl,j,h⟩ Ul22 Vl22
  cases ml22 with
  | zero=>cases h
  | succ ml22 =>
  rw [BP] at h
  refine AY C k i Lj (Az c ev) j ow ow ?_
  refine rg [1,2,3,30,31,32,33] hs ?_
  apply An;intro K24 p
  refine BN h hs ?_ ?_<;>intro hs h
  rotate_left
  ·have z:=hs.1
   refine sx [] hs E ?_
   exact ⟨b,([]),Rl22,ef hs,ef hs,j,h⟩
  have z:=hs.1
  refine sk [1,2,3,30,31,32] hs p ?_
  clear p
  apply An;intro K26 O
  apply Ao
  obtain ⟨aa,G,h⟩:=bind_some h
  obtain ⟨V,Y,w⟩:=B9 G
  have x:=C5 (f:=Ny) w
  have hs:=Ad x hs
  refine rg [1,2,3,8,9,30,31,32] hs ?_
  apply An;intro K29 K
  obtain ⟨ab,h⟩:=Au h
  obtain ⟨ae,H,h⟩:=bind_some h
  refine rc 2 [1,2,3,8,9,10,30,31,32] hs ?_;intro K30 q
  refine BF _ (ih _ _ _ aa (a1+1) l b (ef hs) _ H) (hv hs) ?_;rintro _ _ ⟨rfl,rfl⟩
  refine ne hs q ?_
  clear q
  exact go (tg (a:=([1,2,3,8,9,10,30,31,32,43],([6],()),[1,2,3,8,9,30,31,32],(([25,1,2,3,30,31,32,69],([6],()),[1,2,3,30,31,32],[1,2,3,30,31,32],()),[25,1,2,3,30,31,32,69],[1,2,3,30,31,32],[1,2,3,30,31,32],()),[25,1,2,3,30,31,32,69],[1,2,3,30,31,32],[1,2,3,30,31,32],()))) h hs C k i c j (q1 (Ui w0 hT n)) (q3 K O (fun e s=>Vl22 ml22 e s (Nat.lt_succ_self _)))
 ·clear h;rintro e st ⟨d,Xk18,Rk18,rfl,rfl,j,h⟩
  rw [JD] at h
  refine AY C k i Lj (Az c ev) j ow ow ?_
  exact go (tg (a:=([6],()))) h hs C k i c j trivial trivial
theorem XM (w0:World) (hT:Lib.Utf8Tabs 2 3 w0):∀ n:Nat,UX w0 (HN n)
 | 0=>fun _ _ _ _ _ _ _ _ _ h=>(nomatch h)
 | n+1=>Zz w0 hT (HN n) (XM w0 hT n) n
def JJ  : List (Nat × Vl)→Int→Option Int
 | [],b1_r6 =>
  some (b1_r6)
 | p_r6::rest,b1_r6 =>
  if BM (b1_r6+1) then
   (JJ  rest) (b1_r6+1)
  else none
def Nl (b:Vl):Option Int :=
 if b.depth<4611686018427387904∧b.wide=true then
  JJ  (F8 1 b) 0
 else none
theorem Zt (w0:World) (B:Am) (Rw:Aq) (L:Ar) (a0:Vl) (r:Int) (h:Nl a0=some r) :
  ACalls Tryz.prog w0 195 [.agg (a0.cs)] ⟨B,Rw,L⟩ fun x st=>x=Ak r∧st=⟨B,Rw,L⟩:=by
 rw [Nl] at h
 refine hd [.tmp 2] Tryz.func195 Tryz.ntmps195 fun M0 W0 y q k b J c hs=>?_
 simp only [AG]
 refine rg [1] hs ?_
 refine rg [1,3] hs ?_
 apply An;intro K3 d
 refine rc 2 [3,5] hs ?_;intro K4 f
 refine BF _ (VD w0 _ _ _ a0) (hv hs) ?_;rintro _ _ ⟨rfl,rfl⟩
 refine ne hs f ?_
 clear f
 apply Ao
 obtain ⟨n,h⟩:=Au h
 refine YJ (LV a0) (fun st=>st.boxes[(B.length+2)]? = some a0.cs) (fun i st=>∃ (a:Int) (Rr6:Aq),st=⟨B++([a0.cs,[Ak a],a0.cs]),Rr6,L⟩∧Owns Rw Rr6 []∧JJ  ((F8 1 a0).drop i) a=some r) (fun _ _=>False) ev ev (RJ w0 a0 n _) (fun x p=>XI a0 x p) (by decide) ?_ ⟨0,Rw,ef hs,c,h⟩ (fun _ _ h=>h.elim) ?_ ?_ ?_
 ·rintro i st o ⟨a,Rr6,rfl,c,h⟩ _ _;simp +decide [St.push]
 ·rintro i E ⟨XB,XR,XL⟩ x M1 W1 l o w hX C j g p D K v
  obtain ⟨u,m,rfl,H⟩:=WZ a0 i x p
  (try simp only at hX)
  subst hX
  obtain ⟨a,Rr6,rfl,c,h⟩:=C
  rw [ZbH m,JJ] at h
  have e:=c
  simp only [St.ext,St.push,List.append_assoc,List.append_nil]
  refine Jf (EY [3] _) ?_ (Dx _ _)
  apply Dj;simp +decide only [go_sem,Nat.reduceAdd]
  (repeat' apply Ad)<;>first | refine v _ _ (by simp [St.ext,St.push]) (fun G t=>?_) | exact cl
  clear v
  dsimp only [St.ext,St.push]
  apply Ao
  obtain ⟨z,h⟩:=Au h
  apply Ax 1 [3]
  rw [Ap];simp +decide only [go_sem,Nat.reduceAdd]
  (repeat' apply Ad)<;>first | refine t _ _ _ ⟨⟨B++[a0.cs,[Ak (a+1)],a0.cs],Rr6,L⟩,[],by first | rfl | (simp only [List.append_assoc,List.append_nil,List.cons_append,List.nil_append];done),⟨by simp,by first | exact Nat.le_refl _ | (have:=c.len;simp;omega),rfl⟩,rfl,⟨(a+1),Rr6,ef hs,c,h⟩,?_⟩ | exact cl
  exact .inl rfl
 ·rintro s o ⟨XB,XR,XL⟩ hXR ⟨a,Rr6,rfl,c,h⟩ _ _
  simp only at hXR
  subst hXR
  rw [List.drop_eq_nil_of_le (by rw [RN];exact Nat.le_refl _),JJ] at h
  simp only [St.ext,St.push,List.append_assoc,List.append_nil]
  (repeat' apply Ad)<;>first | refine d _ _ ?_ | exact cl
  clear d
  refine Y1 (bs:=[a0.cs,[Ak a],a0.cs]) y q k rfl b c ow ow ?_
  refine rg [2] hs ?_
  exact rt h hs b c
 ·rintro F s o X hX h;exact h.elim
def Cf (rec:Ty→Option Int) (n:Nat) (g:Int→Int→Option Int) (b:Int) (h:Int):Option Int :=
 if BM (b+1) then
  g h (b+1)
 else none
def CQ (rec:Ty→Option Int) (n:Nat)  (b:Int):Option Int :=
 some ((if 4097<b then 4097 else b))
def Be (rec:Ty→Option Int) (n:Nat) (a0:Ty):Nat→Int→Int→Option Int
 | 0,_,_=>none
 | m+1,g,b =>
  if decide (b<(a0.fields.length:Int)) then
   (B1 a0.fields b).bind fun h =>
   if decide (h.2.2.1=1) then
    (rec h.2.2.2.1).bind fun y =>
    if BM (g+y) then
     Cf rec n (Be rec n a0 m) b (g+y)
    else none
   else
    if decide (h.2.2.1=3) then
     (B1 h.2.2.2.2 0).bind fun x39 =>
     (Nl x39).bind fun q =>
     if BM (g+q) then
      Cf rec n (Be rec n a0 m) b (g+q)
     else none
    else
     Cf rec n (Be rec n a0 m) b g
  else
   CQ rec n g
def EJ (rec:Ty→Option Int) (n:Nat) (b:Ty):Option Int :=
 if decide (b.kind=8) then
  if decide (0<b.min) then
   (B1 b.elem 0).bind fun q =>
   (rec q).bind fun g =>
   if BM (b.min*g) then
    if BM (1+(b.min*g)) then
     CQ rec n (1+(b.min*g))
    else none
   else none
  else
   CQ rec n 1
 else
  if decide (b.kind=10) then
   (B1 b.fields 0).bind fun y =>
   (rec y.2.2.2.1).bind fun h =>
   if BM (1+h) then
    CQ rec n (1+h)
   else none
  else
   if decide (b.kind=9) then
    Be rec n b n 1 0
   else
    CQ rec n 1
def AP:Nat→Ty→Option Int
 | 0,_=>none
 | n+1,b=>EJ (AP n) n b
def Oj (w0:World) (F:Ty→Option Int):Prop:=∀ (B:Am) (Rw:Aq) (L:Ar) (b:Ty) (r:Int),F b=some r→ACalls Tryz.prog w0 173 [.agg (b.cs)] ⟨B,Rw,L⟩ fun x st=>x=Ak r∧st=⟨B,Rw,L⟩
theorem U8 (w0:World) (rec:Ty→Option Int) (ih:Oj w0 rec) (n:Nat):Oj w0 (EJ rec n):=by
 intro B Rw L a0 r h
 rw [EJ] at h
 refine hd [.tmp 2] Tryz.func173 Tryz.ntmps173 fun M0 W0 p i j c t k hs=>?_
 simp only [AG]
 refine rg [1] hs ?_
 refine rg [1,3] hs ?_
 refine AA (fun e st=>∃ (g:Int),Ck e st B Rw L [(3,true,Ak g)] [a0.cs] [] (CQ rec n g=some r)) ?_ ?_
 ·intro K5 l
  refine rg [1,3,7] hs ?_
  apply Ao
  refine rg [1,3,7,8] hs ?_
  refine BN h hs ?_ ?_<;>intro hs h
  ·exact go (tg (a:=([1,3,12],([10,3],()),[3],()))) h hs p i j c k (q1 ih) (q1 l)
  refine rg [1,3,7,23] hs ?_
  refine BN h hs ?_ ?_<;>intro hs h
  ·exact go (tg (a:=([3],()))) h hs p i j c k (q1 ih) (q1 l)
  refine rg [1,3,33] hs ?_
  refine BN h hs ?_ ?_<;>intro hs h
  ·refine rg [3,36,37,38] hs ?_
   apply Ao
   refine AL (fun m e st=>∃ (d:Int) (b:Int),Ck e st B Rw L [(3,true,Ak d),(36,true,.list (a0.fields.map ET) .none),(37,true,Ak (a0.fields.length:Int)),(38,true,Ak b)] [a0.cs] [] (Be rec n a0 m d b=some r)) n ⟨1,0,([]),Rw,ef hs,ef hs,k,h⟩ ?_
   rintro ml23 e st ⟨d,b,Xl23,Rl23,rfl,rfl,k,h⟩ Ul23 Vl23
   cases ml23 with
   | zero=>cases h
   | succ ml23 =>
   rw [Be] at h
   refine td p i j c k ?_
   refine rg [3,36,37,38,39] hs ?_
   apply An;intro K25 o
   refine BN h hs ?_ ?_<;>intro hs h
   rotate_left
   ·refine sx [3] hs l ?_
    exact ⟨d,([]),Rl23,ef hs,ef hs,k,h⟩
   refine sk [3,36,37,38] hs o ?_
   clear o
   refine AA (fun e st=>∃ (f:Int),Ck e st B Rw L [(3,true,Ak f),(36,true,.list (a0.fields.map ET) .none),(37,true,Ak (a0.fields.length:Int)),(38,true,Ak b)] [a0.cs] [] (Cf rec n (Be rec n a0 ml23) b f=some r)) ?_ ?_
   ·intro K29 q
    exact go (tg (a:=([3,5,36,37,38],[3,5,36,37,38,43],[3,5,36,37,38,43,44],([3,36,37,38],()),[3,5,36,37,38,51],([3,36,37,38],()),[3,36,37,38],()))) h hs p i j c k (q2 ih (Zt w0)) (q1 q)
   ·clear h;rintro e st ⟨f,Xk28,Rk28,rfl,rfl,k,h⟩
    rw [Cf] at h
    exact go (tg (a:=([3,36,37,38],()))) h hs p i j c k trivial (q1 (fun e s=>Vl23 ml23 e s (Nat.lt_succ_self _)))
  refine sk [3] hs l ?_
  exact ⟨1,([]),Rw,ef hs,ef hs,k,h⟩
 ·clear h;rintro e st ⟨g,Xk4,Rk4,rfl,rfl,k,h⟩
  rw [CQ] at h
  refine td p i j c k ?_
  refine rg [2] hs ?_
  exact rt h hs c k
theorem QS (w0:World):∀ n:Nat,Oj w0 (AP n)
 | 0=>fun _ _ _ _ _ h=>(nomatch h)
 | n+1=>U8 w0 (AP n) (QS w0 n) n
def Ju (rec:Ty→Option Int) (n:Nat)  (b:Int):Option Int :=
 some (b)
def BA (rec:Ty→Option Int) (n:Nat) (y:Ty):Nat→Int→Int→Option Int
 | 0,_,_=>none
 | m+1,g,b =>
  if decide (b<(y.fields.length:Int)) then
   (B1 y.fields b).bind fun q =>
   (rec q.2.2.2.1).bind fun h =>
   if BM (b+1) then
    (BA rec n y m) ((if g<h then h else g)) (b+1)
   else none
  else
   Ju rec n g
def HZ (rec:Ty→Option Int) (n:Nat) (g:Ty) (b:Int):Option Int :=
 BA rec n g n b 0
def BL (rec:Ty→Option Int) (n:Nat) (q:Ty):Nat→Int→Int→Option Int
 | 0,_,_=>none
 | m+1,g,b =>
  if decide (b<(q.elem.length:Int)) then
   (B1 q.elem b).bind fun y =>
   (rec y).bind fun h =>
   if BM (b+1) then
    (BL rec n q m) ((if g<h then h else g)) (b+1)
   else none
  else
   HZ rec n q g
def FA (rec:Ty→Option Int) (n:Nat) (b:Ty):Option Int :=
 (AP n b).bind fun g =>
 BL rec n b n g 0
def BJ:Nat→Ty→Option Int
 | 0,_=>none
 | n+1,b=>FA (BJ n) n b
def KD (w0:World) (F:Ty→Option Int):Prop:=∀ (B:Am) (Rw:Aq) (L:Ar) (b:Ty) (r:Int),F b=some r→ACalls Tryz.prog w0 83 [.agg (b.cs)] ⟨B,Rw,L⟩ fun x st=>x=Ak r∧st=⟨B,Rw,L⟩
theorem Rz (w0:World) (rec:Ty→Option Int) (ih:KD w0 rec) (n:Nat):KD w0 (FA rec n):=by
 intro B Rw L a0 r h
 rw [FA] at h
 refine hd [.tmp 2] Tryz.func83 Tryz.ntmps83 fun M0 W0 t o l b x k hs=>?_
 simp only [AG]
 refine rg [1] hs ?_
 obtain ⟨w,v,h⟩:=bind_some h
 refine rc 2 [1,3] hs ?_;intro K2 q
 refine As _ (QS w0 n _ _ _ a0 _ v) (hv hs) ?_
 refine ne hs q ?_
 clear q
 refine AA (fun e st=>∃ (g:Int),Ck e st B Rw L [(1,true,.box B.length 0),(3,true,Ak g)] [a0.cs] [] (HZ rec n a0 g=some r)) ?_ ?_
 ·intro K6 u
  refine rg [1,3,11,12,13] hs ?_
  apply Ao
  refine AL (fun m e st=>∃ (j:Int) (i:Int),Ck e st B Rw L [(1,true,.box B.length 0),(3,true,Ak j),(11,true,.list (a0.elem.map Ny) .none),(12,true,Ak (a0.elem.length:Int)),(13,true,Ak i)] [a0.cs] [] (BL rec n a0 m j i=some r)) n ⟨w,0,([]),Rw,ef hs,ef hs,k,h⟩ ?_
  rintro ml8 e st ⟨j,i,Xl8,Rl8,rfl,rfl,k,h⟩ Ul8 Vl8
  cases ml8 with
  | zero=>cases h
  | succ ml8 =>
  rw [BL] at h
  exact go (tg (a:=([1,3,11,12,13,14],([1,3,11,12,13],[1,3,5,11,12,13],[1,3,11,12,13],[1,3,11,12,13],()),[1,3],()))) h hs t o l b k (q1 ih) (q2 u (fun e s=>Vl8 ml8 e s (Nat.lt_succ_self _)))
 ·clear h;rintro e st ⟨g,Xk5,Rk5,rfl,rfl,k,h⟩
  rw [HZ] at h
  refine td t o l b k ?_
  refine AA (fun e st=>∃ (d:Int),Ck e st B Rw L [(3,true,Ak d)] [a0.cs] [] (Ju rec n d=some r)) ?_ ?_
  ·intro K19 p
   refine rg [3,23,24,25] hs ?_
   apply Ao
   refine AL (fun m e st=>∃ (f:Int) (c:Int),Ck e st B Rw L [(3,true,Ak f),(23,true,.list (a0.fields.map ET) .none),(24,true,Ak (a0.fields.length:Int)),(25,true,Ak c)] [a0.cs] [] (BA rec n a0 m f c=some r)) n ⟨g,0,([]),Rk5,ef hs,ef hs,k,h⟩ ?_
   rintro ml21 e st ⟨f,c,Xl21,Rl21,rfl,rfl,k,h⟩ Ul21 Vl21
   cases ml21 with
   | zero=>cases h
   | succ ml21 =>
   rw [BA] at h
   exact go (tg (a:=([3,23,24,25,26],([3,23,24,25],[3,7,23,24,25],[3,23,24,25],[3,23,24,25],()),[3],()))) h hs t o l b k (q1 ih) (q2 p (fun e s=>Vl21 ml21 e s (Nat.lt_succ_self _)))
  ·clear h;rintro e st ⟨d,Xk18,Rk18,rfl,rfl,k,h⟩
   rw [Ju] at h
   refine td t o l b k ?_
   refine rg [2] hs ?_
   exact rt h hs b k
theorem N9 (w0:World):∀ n:Nat,KD w0 (BJ n)
 | 0=>fun _ _ _ _ _ h=>(nomatch h)
 | n+1=>Rz w0 (BJ n) (N9 w0 n) n
def Bz (n:Nat) (h:Ty):Option Int :=
 (HN n h 1 4096).bind fun g =>
 if !(decide (g.1=0)) then
  some (g.1)
 else
  (BJ n h).bind fun b =>
  if decide (4096<b) then
   some (9)
  else
   some (0)
theorem PQ (w0:World) (hT:Lib.Utf8Tabs 2 3 w0) (n:Nat) (B:Am) (Rw:Aq) (L:Ar) (a0:Ty) (r:Int) (h:Bz n a0=some r) :
  ACalls Tryz.prog w0 29 [.agg (a0.cs)] ⟨B,Rw,L⟩ fun x st=>x=Ak r∧st=⟨B,Rw,L⟩:=by
 rw [Bz] at h
 refine hd [.tmp 2] Tryz.func29 Tryz.ntmps29 fun M0 W0 i f e b l j hs=>?_
 simp only [AG]
 refine rg [1] hs ?_
 refine rg [1,3] hs ?_
 apply An;intro K3 d
 obtain ⟨k,g,h⟩:=bind_some h
 refine rc 2 [1,4] hs ?_;intro K4 c
 refine BF _ (XM w0 hT n _ _ _ a0 1 (B.length+1) 4096 ev _ g) (hv hs) ?_;rintro _ _ ⟨rfl,rfl⟩
 exact go (tg (a:=([1,4,8],([2],()),[1],[12],([2],()),[],[2],()))) h hs i f e b j (q1 (N9 w0 n)) (q2 c d)
def Qm (x:ByteArray):Int:=OR (Vl.mk 4 0 0 x [] [])
def QH:Option ByteArray→List ByteArray→Int
 | _,[]=>0
 | none,x::r=>if Qm x=0 then QH (some x) r else Qm x
 | some p,x::r=>if Qm x=0 then (if Eb x p=true then 7 else if X7 x p=true then 24 else QH (some x) r) else Qm x
def ZcQ (l:List ByteArray):Nat→Option ByteArray
 | 0=>none
 | i+1=>l[i]?
theorem ZiG (x:ByteArray) (h:x.size≤1048576):(Vl.mk 4 0 0 x [] []).ok∧(Vl.mk 4 0 0 x [] []).size=1:=⟨by simp [Vl.ok,ZcG,ZcV,h],by simp [Vl.size,CJ,Bi]⟩
theorem ZkZ (n:Nat) (hn:4≤n) (x:ByteArray) (h:x.size≤1048576):GU n (A4 x)=some (Qm x):=by
 obtain ⟨b,a⟩:=ZiG x h
 have e:A4 x=Vl.mk 4 0 0 x [] []:=rfl
 rw [e]
 exact Zi n _ (by rw [a];omega) (by rw [a];omega) b
theorem Zgs (n:Nat) (hn:4≤n) (t:Ty) (hl:t.words.length≤1000000000) (hz:∀ x∈t.words,x.size≤1048576):∀ (k m i:Nat),i+k=t.words.length→k<m→GX n t m i=some (QH (ZcQ t.words i) (t.words.drop i))
 | k,0,i,_,h=>absurd h (Nat.not_lt_zero _)
 | 0,m+1,i,hi,_=>by
  rw [GX,AC,Ac]
  simp only [Bool.false_eq_true,if_false,Ob]
  rw [List.drop_eq_nil_of_le (by omega)]
  cases ZcQ t.words i<;>rfl
 | k+1,m+1,i,hi,hm=>by
  have a:i<t.words.length:=by omega
  have ih:=Zgs n hn t hl hz k m (i+1) (by omega) (by omega)
  rw [GX,AC,Ag a]
  simp only [if_true,AM a,Ae]
  rw [ZkZ n hn _ (hz _ (List.getElem_mem a)),List.drop_eq_getElem_cons a]
  simp only [Ae]
  have e:ZcQ t.words (i+1)=some t.words[i]:=by simp only [ZcQ,List.getElem?_eq_getElem a]
  rw [e] at ih
  cases i with
  | zero =>
   simp only [ZcQ,QH]
   by_cases hb:Qm t.words[0]=0
   ·rw [Ah hb,Ag hb]
    simp only [Bool.not_true,Bool.false_eq_true,if_false]
    rw [Ai (by decide),Ah (AK (by omega))]
    exact ih
   ·rw [Ai hb,Af hb];rfl
  | succ j =>
   have b:j<t.words.length:=by omega
   have d:ZcQ t.words (j+1)=some t.words[j]:=by simp only [ZcQ,List.getElem?_eq_getElem b]
   rw [d]
   simp only [QH]
   by_cases hb:Qm t.words[j+1]=0
   ·rw [Ah hb,Ag hb]
    simp only [Bool.not_true,Bool.false_eq_true,if_false,ZdY,if_true,Za1]
    have c:BM (j:Int):=Zd2 (by omega)
    simp only [Ah c,AM b,Ae]
    by_cases h1:Eb t.words[j+1] t.words[j]=true
    ·rw [Ah h1,Ah h1]
    ·rw [Ai h1,Ai h1]
     by_cases h2:X7 t.words[j+1] t.words[j]=true
     ·rw [Ah h2,Ah h2]
     ·rw [Ai h2,Ai h2,Ah (AK (by omega))]
      exact ih
   ·rw [Ai hb,Af hb];rfl
def Qh (t:Ty):Int:=if t.min≠0∨t.max≠0 then 3 else if 64<t.words.length then 9 else QH none t.words
theorem Ze5 (n:Nat) (hn:4≤n) (t:Ty) (hw:t.words.length<n) (hl:t.words.length≤1000000000) (hz:∀ x∈t.words,x.size≤1048576):OK n t=some (Qh t):=by
 have e:=Zgs n hn t hl hz t.words.length n 0 (by omega) hw
 rw [List.drop_zero] at e
 rw [OK,Qh]
 by_cases h:t.min≠0∨t.max≠0
 ·rw [Ah h,Ah (by simpa using h)]
 ·rw [Ai h,Ai (by simpa using h)]
  by_cases h2:64<t.words.length
  ·rw [Ah h2,Ah (Ag (by omega))]
  ·rw [Ai h2,Ai (by rw [decide_eq_true_eq];omega)]
   exact e
theorem ZbK (n:Nat) (l:List TF) (p:TF→Bool) (hl:l.length≤1000000000) (hn:l.length<n):A5 n l (fun x=>some (p x))=some (l.any p):=by
 have e:=U1 n l p hl l.length n 0 (by omega) hn
 have a:Bh n l (fun x=>some (p x))=some (O0 p l 0):=e
 rw [A5,a,Ae]
 congr 1
 have := @List.findIdx_lt_length _ p l
 unfold O0
 rw [List.drop_zero]
 by_cases h:l.findIdx p<l.length
 ·rw [Ah h,Ag (by omega),List.any_eq_true.2 (this.1 h)]
 ·rw [Ai h,Ac]
  exact (Bool.eq_false_iff.2 fun q=>h (this.2 (List.any_eq_true.1 q))).symm
def N2 (k:Int) (b:List TF) (x:TF):Int :=
 if Ft x.2.1=true then
  if ¬ (1≤x.1∧x.1≤9999) then 2
  else if (b.any fun q=>Fv q x)=true then 7
  else if ¬ (1≤x.2.2.1∧x.2.2.1≤3)∨(k=10∧x.2.2.1≠1) then 11
  else if x.2.2.1=3∧x.2.2.2.2.length=0 then 4
  else if 1<x.2.2.2.2.length∨(x.2.2.1≠3∧0<x.2.2.2.2.length) then 3
  else 0
 else 12
def J8 (k:Int):List TF→List TF→Int
 | _,[]=>0
 | b,x::r=>if N2 k b x=0 then J8 k (b++[x]) r else N2 k b x
theorem ZU {α:Type} (l:List α) (i:Nat) (h:i<l.length):l.take i++[l[i]]=l.take (i+1):=by rw [List.take_succ_eq_append_getElem h]
theorem ZeT (n:Nat) (t:Ty) (i:Nat) (h:i<t.fields.length) (hl:t.fields.length≤1000000000) (hn:t.fields.length<n) (hz:∀ p∈t.fields,p.2.1.size≤1048576):OY n t i=some (N2 t.kind (t.fields.take i) t.fields[i]):=by
 rw [OY,AM h]
 simp only [Ae]
 rw [Ah (Xu (by have:=hz _ (List.getElem_mem h);omega)),N2,Int.toNat_natCast,ZbK n _ _ (by rw [List.length_take];omega) (by rw [List.length_take];omega)]
 simp only [Ae]
 by_cases h1:Ft t.fields[i].2.1=true
 rotate_left
 ·rw [Ai h1,Bool.eq_false_iff.2 h1];rfl
 rw [Ah h1,h1]
 simp only [Bool.not_true,Bool.false_eq_true,if_false]
 by_cases h2:1≤t.fields[i].1∧t.fields[i].1≤9999
 rotate_left
 ·rw [Ah (show (!(decide (1≤t.fields[i].1)&&decide (t.fields[i].1≤9999)))=true by simp;omega),Ah h2]
 rw [Ai (show ¬ (!(decide (1≤t.fields[i].1)&&decide (t.fields[i].1≤9999)))=true by simp;omega),Ai (fun q:¬ _=>q h2),Ab]
 by_cases h3:((t.fields.take i).any fun q=>Fv q t.fields[i])=true
 ·rw [Ah h3,Ah h3]
 rw [Ai h3,Ai h3]
 by_cases h4:¬ (1≤t.fields[i].2.2.1∧t.fields[i].2.2.1≤3)∨(t.kind=10∧t.fields[i].2.2.1≠1)
 ·rw [Ah h4,Ah (by simp;omega)]
 rw [Ai h4,Ai (by simp;omega)]
 by_cases h5:t.fields[i].2.2.1=3∧t.fields[i].2.2.2.2.length=0
 ·rw [Ah h5,Ah (by simp;exact ⟨h5.1,List.length_eq_zero_iff.1 h5.2⟩)]
 rw [Ai h5,Ai (by simp;intro a b;exact h5 ⟨a,by rw [b];rfl⟩)]
 by_cases h6:1<t.fields[i].2.2.2.2.length∨(t.fields[i].2.2.1≠3∧0<t.fields[i].2.2.2.2.length)
 ·rw [Ah h6,Ah (by simp only [Bool.or_eq_true,Bool.and_eq_true,decide_eq_true_eq,Bool.not_eq_true',decide_eq_false_iff_not];omega)]
 ·rw [Ai h6,Ai (by simp only [Bool.or_eq_true,Bool.and_eq_true,decide_eq_true_eq,Bool.not_eq_true',decide_eq_false_iff_not];omega)]
theorem ZaZ (n:Nat) (t:Ty) (hl:t.fields.length≤1000000000) (hn:t.fields.length<n) (hz:∀ p∈t.fields,p.2.1.size≤1048576):∀ (k m i:Nat),i+k=t.fields.length→k<m→JH n t m i=some (J8 t.kind (t.fields.take i) (t.fields.drop i))
 | k,0,i,_,h=>absurd h (Nat.not_lt_zero _)
 | 0,m+1,i,hi,_=>by
  rw [JH,AC,Ac]
  rw [List.drop_eq_nil_of_le (by omega)];rfl
 | k+1,m+1,i,hi,hm=>by
  have a:i<t.fields.length:=by omega
  rw [JH,AC,Ag a,ZeT n t i a hl hn hz,List.drop_eq_getElem_cons a,J8]
  simp only [if_true,Ae]
  by_cases h:N2 t.kind (t.fields.take i) t.fields[i]=0
  ·rw [Ag h,Ah h]
   simp only [Bool.not_true,Bool.false_eq_true,if_false]
   rw [Ah (AK (by omega)),ZU _ _ a]
   exact ZaZ n t hl hn hz k m (i+1) (by omega) (by omega)
  ·rw [Af h,Ai h];rfl
def Tm (t:Ty):Int :=
 if t.kind<1∨10<t.kind then 11
 else if Cc t=true then 3
 else if t.kind=4∧0<t.words.length then Qh t
 else if ((2≤t.kind∧t.kind≤8)∧Dn t (AH t.kind).1 (AH t.kind).2=false)∨¬ (0≤t.scale∧t.scale≤12) then 2
 else if (t.kind=8∧t.elem.length=0)∨(t.kind=10∧t.fields.length=0) then 4
 else if 1<t.elem.length then 3
 else if 64<t.fields.length then 9
 else J8 t.kind [] t.fields
def Ty.fit (t:Ty) (n:Nat):Prop:=4≤n∧t.words.length<n∧t.fields.length<n∧t.words.length≤1000000000∧t.fields.length≤1000000000∧t.elem.length≤1000000000∧(∀ x∈t.words,x.size≤1048576)∧∀ p∈t.fields,p.2.1.size≤1048576
def Xl (k:Int):Lim:=(JO[k.toNat]?).getD (Lim.mk ⟨#[]⟩ 0 0 false false false false false)
theorem Zio (k:Int) (h:¬ (k<1∨10<k)):B1 JO k=some (Xl k):=by
 rcases Gs h with hk | hk | hk | hk | hk | hk | hk | hk | hk | hk<;>subst hk<;>rfl
theorem Zia (t:Ty) (h:¬ (t.kind<1∨10<t.kind)):MQ t (Xl t.kind)=if Cc t=true then 3 else 0:=by
 have a:∀ x:Nat,decide (0<(x:Int)) = !decide ((x:Int)=0):=fun x=>by
  by_cases h:x=0
  ·subst h;rfl
  ·rw [Ag (show 0<(x:Int) by omega),Af (show ¬ (x:Int)=0 by omega)];rfl
 have b:decide (t.min=0)=true∨decide (t.min=0)=false:=by cases decide (t.min=0)<;>simp
 rw [MQ,Cc]
 simp only [a,JA]
 generalize decide (t.min=0)=b1
 generalize decide (t.max=0)=b2
 generalize decide (t.scale=0)=b3
 generalize decide ((t.words.length:Int)=0)=b4
 generalize decide ((t.elem.length:Int)=0)=b5
 generalize decide ((t.fields.length:Int)=0)=b6
 clear b a
 rcases Gs h with hk | hk | hk | hk | hk | hk | hk | hk | hk | hk<;>simp only [hk]<;>cases b1<;>cases b2<;>cases b3<;>cases b4<;>cases b5<;>cases b6<;>rfl
theorem ZdB (n:Nat) (t:Ty) (h:t.fit n):S5 n t=some (Tm t):=by
 obtain ⟨s,o,k,D,E,F,r,u⟩:=h
 have p:=Ze5 n s t o D r
 have m:=ZaZ n t E k u t.fields.length n 0 (by omega) k
 rw [List.drop_zero,List.take_zero] at m
 have j:JH n t n 0=some (J8 t.kind [] t.fields):=m
 have v:Jy n t false=some (if 1<t.elem.length∧t.kind=8 then 3 else if 64<t.fields.length then 9 else J8 t.kind [] t.fields):=by
  rw [Jy,Ai (by decide)]
  by_cases q:1<t.elem.length∧t.kind=8
  ·rw [Ah q,Ah (by simp only [Bool.and_eq_true,decide_eq_true_eq];omega)]
  ·rw [Ai q,Ai (by simp only [Bool.and_eq_true,decide_eq_true_eq];omega)]
   by_cases q2:64<t.fields.length
   ·rw [Ah q2,Ah (Ag (by omega))]
   ·rw [Ai q2,Ai (by rw [decide_eq_true_eq];omega),j]
 have l:Jy n t true=some 4:=by rw [Jy,Ah rfl]
 have i:¬ Cc t=true→MO n t=some (if (t.kind=8∧t.elem.length=0)∨(t.kind=10∧t.fields.length=0) then 4 else if 1<t.elem.length then 3 else if 64<t.fields.length then 9 else J8 t.kind [] t.fields):=fun C=>by
  have w:1<t.elem.length→t.kind=8:=fun q=>by
   by_cases k8:t.kind=8
   ·exact k8
   ·exfalso;apply C;rw [Cc,Af k8,Ag (show 0<(t.elem.length:Int) by omega)];simp
  rw [MO]
  by_cases q1:t.kind=8∧t.elem.length=0
  ·rw [Ah (by simp only [Bool.and_eq_true,decide_eq_true_eq];omega),l,Ah (.inl q1)]
  rw [Ai (by simp only [Bool.and_eq_true,decide_eq_true_eq];omega)]
  by_cases q2:t.kind=10∧t.fields.length=0
  ·rw [Ag q2.1,Ag (show (t.fields.length:Int)=0 by omega),show (true&&true)=true from rfl,l,Ah (.inr q2)]
  ·have e:(decide (t.kind=10)&&decide ((t.fields.length:Int)=0))=false:=by
    rw [Bool.eq_false_iff];simp only [ne_eq,Bool.and_eq_true,decide_eq_true_eq];omega
   rw [e,v,Ai (show ¬ ((t.kind=8∧t.elem.length=0)∨(t.kind=10∧t.fields.length=0)) by omega)]
   by_cases q3:1<t.elem.length
   ·rw [Ah ⟨q3,w q3⟩,Ah q3]
   ·rw [Ai (fun q=>q3 q.1),Ai q3]
 rw [S5,Tm]
 by_cases q1:t.kind<1∨10<t.kind
 ·rw [Ah q1,Ah (by simp;omega)]
 rw [Ai q1,Ai (by simp;omega),Zio _ q1]
 simp only [Ae]
 rw [Zia t q1]
 by_cases q2:Cc t=true
 ·rw [Ah q2,Ah q2];rfl
 rw [Ai q2,Ai q2,Ai (by decide)]
 have d:=i q2
 by_cases q3:t.kind=4∧0<t.words.length
 ·rw [Ah q3,Ah (by simp only [Bool.and_eq_true,decide_eq_true_eq];omega),p]
  simp only [Ae]
  by_cases z:Qh t=0
  ·rw [Ag z,z,Ai (by decide),d]
   have G:t.elem.length=0:=by
    rcases Nat.eq_zero_or_pos t.elem.length with e | e
    ·exact e
    ·exfalso;apply q2;rw [Cc,Af (show ¬ t.kind=8 by omega),Ag (show 0<(t.elem.length:Int) by omega)];simp
   have y:t.fields.length=0:=by
    rcases Nat.eq_zero_or_pos t.fields.length with e | e
    ·exact e
    ·exfalso;apply q2;rw [Cc,Af (show ¬ t.kind=9 by omega),Af (show ¬ t.kind=10 by omega),Ag (show 0<(t.fields.length:Int) by omega)];simp
   rw [Aa,Aa,Aa,List.length_eq_zero_iff.1 y];rfl
  ·rw [Af z];rfl
 rw [Ai q3,Ai (by simp only [Bool.and_eq_true,decide_eq_true_eq];omega)]
 have f:t.kind≠3→t.scale=0:=fun c=>by
  by_cases z:t.scale=0
  ·exact z
  ·exfalso;apply q2;rw [Cc,Af c,Af z];simp
 have x:((Xl t.kind).bounds&&(((decide (t.max<t.min))||(decide (t.min<(Xl t.kind).low)))||(decide ((Xl t.kind).high<t.max))))=((decide (2≤t.kind∧t.kind≤8)) && !(Dn t (AH t.kind).1 (AH t.kind).2)):=by
  have g1:∀ a b:Int,decide (a<b) = !decide (b≤a):=fun a b=>by
   by_cases q:a<b
   ·rw [Ag q,Ac];rfl
   ·rw [Af q,Ag (by omega)];rfl
  simp only [g1,Dn]
  rcases Gs q1 with hk | hk | hk | hk | hk | hk | hk | hk | hk | hk<;>simp only [hk] <;>
   simp [Xl,JO,AH,O7,Ol,Bool.or_comm,Bool.or_left_comm,Bool.or_assoc]
 have hs:(Xl t.kind).scale=decide (t.kind=3):=by
  rcases Gs q1 with hk | hk | hk | hk | hk | hk | hk | hk | hk | hk<;>simp only [hk]<;>rfl
 rw [x,hs]
 by_cases q4:(2≤t.kind∧t.kind≤8)∧Dn t (AH t.kind).1 (AH t.kind).2=false
 ·rw [Ag q4.1,Ah (Or.inl q4),q4.2];rfl
 have g:(decide (2≤t.kind∧t.kind≤8) && !(Dn t (AH t.kind).1 (AH t.kind).2))=false:=by
  rw [Bool.eq_false_iff];simp only [ne_eq,Bool.and_eq_true,decide_eq_true_eq,Bool.not_eq_true'];exact q4
 rw [g,Ai (by decide)]
 by_cases q5:¬ (0≤t.scale∧t.scale≤12)
 ·have c:t.kind=3:=by
   by_cases c:t.kind=3
   ·exact c
   ·exact absurd (f c) (by omega)
  have e:(decide (t.kind=3) && !(decide (0≤t.scale)&&decide (t.scale≤12)))=true:=by simp [c];omega
  rw [Ah (Or.inr q5),e];rfl
 ·have e:(decide (t.kind=3) && !(decide (0≤t.scale)&&decide (t.scale≤12)))=false:=by
   rw [Bool.eq_false_iff];simp;omega
  rw [Ai (fun q:_∨_=>q.elim q4 q5),e,Oq,Ai (by decide),d]
inductive Ty.Good:Ty→Prop
 | mk (t:Ty) (h:Tm t=0) (he:∀ x∈t.elem,Ty.Good x) (hf:∀ p∈t.fields,Ty.Good p.2.2.2.1):Ty.Good t
inductive Vl.Good:Vl→Prop
 | mk (v:Vl) (h:Ee v=0) (hp:∀ x∈Bn v,Vl.Good x):Vl.Good v
theorem ZaN:∀ (l:List (Nat × Vl)) (c:Int),VQ l c=0→∀ p∈l,Ee p.2=0
 | [],_,_,p,hp=>by simp at hp
 | q::r,c,h,p,hp=>by
  rw [VQ] at h
  split at h
  ·cases h
  ·split at h
   ·cases h
   ·split at h
    ·rename_i h0
     rcases List.mem_cons.1 hp with rfl | hp
     ·exact h0
     ·exact ZaN r (c+1) h p hp
    ·rename_i h0;exact absurd h h0
theorem VJ:∀ (k:Nat) (v:Vl) (lv:Nat),v.size≤k→(∀ p∈F8 lv v,Ee p.2=0)→v.Good
 | 0,v,lv,h,_=>absurd h (by have:=v.size_eq;omega)
 | k+1,v,lv,h,hp=>by
  rw [NB] at hp
  refine .mk v (hp (lv,v) (List.mem_cons_self ..)) fun x a=>?_
  have:=Jh a
  exact VJ k x (lv+1) (by omega) fun p b=>hp p (List.mem_cons_of_mem _ (List.mem_flatMap.2 ⟨x,a,b⟩))
theorem Gg {v:Vl} (h:OR v=0):v.Good:=VJ v.size v 1 (Nat.le_refl _) (ZaN _ _ h)
theorem KY {v:Vl} (h:Ee v=0):¬ (v.kind<1∨10<v.kind)∧¬ AO v=true:=by
 rw [Ee] at h
 by_cases h1:A3 v=true
 ·rw [Ah h1] at h;exact absurd h (by decide)
 rw [Ai h1] at h
 by_cases h2:v.kind<1∨10<v.kind
 ·rw [Ah h2] at h;exact absurd h (by decide)
 rw [Ai h2] at h
 by_cases h3:AO v=true
 ·rw [Ah h3] at h;exact absurd h (by decide)
 exact ⟨h2,h3⟩
theorem Uy {t:Ty} (h:Tm t=0):¬ (t.kind<1∨10<t.kind)∧¬ Cc t=true∧¬ ((t.kind=8∧t.elem.length=0)∨(t.kind=10∧t.fields.length=0)):=by
 rw [Tm] at h
 by_cases h1:t.kind<1∨10<t.kind
 ·rw [Ah h1] at h;exact absurd h (by decide)
 rw [Ai h1] at h
 by_cases h2:Cc t=true
 ·rw [Ah h2] at h;exact absurd h (by decide)
 rw [Ai h2] at h
 refine ⟨h1,h2,?_⟩
 by_cases h3:t.kind=4∧0<t.words.length
 ·omega
 rw [Ai h3] at h
 by_cases h4:((2≤t.kind∧t.kind≤8)∧Dn t (AH t.kind).1 (AH t.kind).2=false)∨¬ (0≤t.scale∧t.scale≤12)
 ·rw [Ah h4] at h;exact absurd h (by decide)
 rw [Ai h4] at h
 by_cases h5:(t.kind=8∧t.elem.length=0)∨(t.kind=10∧t.fields.length=0)
 ·rw [Ah h5] at h;exact absurd h (by decide)
 exact h5
theorem Ty.scale0 {t:Ty} (h:¬ Cc t=true) (k:t.kind≠3):t.scale=0:=by
 by_cases z:t.scale=0
 ·exact z
 ·exfalso;apply h;rw [Cc,Af k,Af z];simp
theorem Vl.scale0 {v:Vl} (h:¬ AO v=true) (k:v.kind≠3):v.scale=0:=by
 by_cases z:v.scale=0
 ·exact z
 ·exfalso;apply h;rw [AO,Af k,Af z];simp
theorem L1 {α:Type} (p:α→Bool) (l:List α):decide (0≤O0 p l 0)=l.any p:=by
 have := @List.findIdx_lt_length _ p l
 unfold O0
 rw [List.drop_zero]
 by_cases h:l.findIdx p<l.length
 ·rw [Ah h,Ag (by omega),List.any_eq_true.2 (this.1 h)]
 ·rw [Ai h,Ac]
  exact (Bool.eq_false_iff.2 fun q=>h (this.2 (List.any_eq_true.1 q))).symm
theorem Zan {α:Type} (p:α→Bool) (l:List α):decide (O0 p l 0<0) = !l.any p:=by
 rw [←L1]
 by_cases h:0≤O0 p l 0
 ·rw [Ag h,Ac];rfl
 ·rw [Af h,Ag (by omega)];rfl
theorem Zf8 (n:Nat) (l:List (Vl)) (f:Vl→Option Bool) (p:Vl→Bool) (hf:∀ x∈l,f x=some (p x)) (hl:l.length≤1000000000):∀ (k m i:Nat),i+k=l.length→k<m→CX n l f m i=some (O0 p l i)
 | k,0,i,_,h=>absurd h (Nat.not_lt_zero _)
 | 0,m+1,i,hi,_=>by
  rw [CX,AC,Ac,MD p l i (by omega)]
  rfl
 | k+1,m+1,i,hi,hm=>by
  have a:i<l.length:=by omega
  rw [CX,AC,Ag a,J1 p l i a]
  simp only [if_true,AM a,Ae,hf _ (List.getElem_mem a)]
  by_cases h:p l[i]=true
  ·rw [Ah h,Ah h]
  ·rw [Ai h,Ai h,Ah (AK (by omega))]
   exact Zf8 n l f p hf hl k m (i+1) (by omega) (by omega)
theorem UE (n:Nat) (l:List (ByteArray × Vl)) (f:ByteArray × Vl→Option Bool) (p:ByteArray × Vl→Bool) (hf:∀ x∈l,f x=some (p x)) (hl:l.length≤1000000000):∀ (k m i:Nat),i+k=l.length→k<m→Cb n l f m i=some (O0 p l i)
 | k,0,i,_,h=>absurd h (Nat.not_lt_zero _)
 | 0,m+1,i,hi,_=>by
  rw [Cb,AC,Ac,MD p l i (by omega)]
  rfl
 | k+1,m+1,i,hi,hm=>by
  have a:i<l.length:=by omega
  rw [Cb,AC,Ag a,J1 p l i a]
  simp only [if_true,AM a,Ae,hf _ (List.getElem_mem a)]
  by_cases h:p l[i]=true
  ·rw [Ah h,Ah h]
  ·rw [Ai h,Ai h,Ah (AK (by omega))]
   exact UE n l f p hf hl k m (i+1) (by omega) (by omega)
theorem Zcv (n:Nat) (l:List (TF)) (f:TF→Option Bool) (p:TF→Bool) (hf:∀ x∈l,f x=some (p x)) (hl:l.length≤1000000000):∀ (k m i:Nat),i+k=l.length→k<m→Bc n l f m i=some (O0 p l i)
 | k,0,i,_,h=>absurd h (Nat.not_lt_zero _)
 | 0,m+1,i,hi,_=>by
  rw [Bc,AC,Ac,MD p l i (by omega)]
  rfl
 | k+1,m+1,i,hi,hm=>by
  have a:i<l.length:=by omega
  rw [Bc,AC,Ag a,J1 p l i a]
  simp only [if_true,AM a,Ae,hf _ (List.getElem_mem a)]
  by_cases h:p l[i]=true
  ·rw [Ah h,Ah h]
  ·rw [Ai h,Ai h,Ah (AK (by omega))]
   exact Zcv n l f p hf hl k m (i+1) (by omega) (by omega)
theorem Zf4 (n:Nat) (l:List ByteArray) (w:ByteArray) (hl:(l).length≤1000000000):∀ (k m i:Nat),i+k=(l).length→k<m→DZ n l w m i=some (O0 (fun x=>Eb w x) (l) i)
 | k,0,i,_,h=>absurd h (Nat.not_lt_zero _)
 | 0,m+1,i,hi,_=>by
  rw [DZ,AC,Ac,MD _ (l) i (by omega)]
  rfl
 | k+1,m+1,i,hi,hm=>by
  have a:i<(l).length:=by omega
  rw [DZ,AC,Ag a,J1 _ (l) i a]
  simp only [if_true,AM a,Ae]
  by_cases h:(fun x=>Eb w x) (l)[i]=true
  ·rw [Ah h,Ah h]
  ·rw [Ai h,Ai h,Ah (AK (by omega))]
   exact Zf4 n l w hl k m (i+1) (by omega) (by omega)
theorem Tn (n:Nat) (l:List ByteArray) (w:ByteArray) (hl:l.length≤1000000000) (hn:l.length<n):BX n l w=some (l.any fun x=>Eb w x):=by
 have e:H4 n l w=some (O0 (fun x=>Eb w x) l 0):=Zf4 n l w hl l.length n 0 (by omega) hn
 rw [BX,e,Ae,L1]
theorem Zx (n:Nat) (l:List Vl) (f:Vl→Option Bool) (p:Vl→Bool) (hf:∀ x∈l,f x=some (p x)) (hl:l.length≤1000000000) (hn:l.length<n):D9 n l f=some (l.any p):=by
 have e:Gf n l f=some (O0 p l 0):=Zf8 n l f p hf hl l.length n 0 (by omega) hn
 rw [D9,e,Ae,L1]
theorem Pz (n:Nat) (l:List TF) (f:TF→Option Bool) (p:TF→Bool) (hf:∀ x∈l,f x=some (p x)) (hl:l.length≤1000000000) (hn:l.length<n):A5 n l f=some (l.any p):=by
 have e:Bh n l f=some (O0 p l 0):=Zcv n l f p hf hl l.length n 0 (by omega) hn
 rw [A5,e,Ae,L1]
def Qf (v:Vl) (w:ByteArray):Bool:=v.fields.any fun x=>Eb x.1 w
theorem Zee (n:Nat) (v:Vl) (w:ByteArray) (hk:v.kind=9) (hs:v.size≤1000000000) (hn:v.size<n):∃ u,I0 n v w=some (u,Qf v w):=by
 have a:=ML v
 have e:BW n v.fields (fun x=>some (F7 x w))=some (O0 (fun x:ByteArray × Vl=>Eb x.1 w) v.fields 0):=UE n v.fields _ _ (fun x _=>rfl) (by omega) v.fields.length n 0 (by omega) (by omega)
 rw [I0,JF,e]
 simp only [Ae]
 rw [Ag hk,Zan]
 cases h:Qf v w with
 | false =>
  unfold Qf at h
  rw [h]
  exact ⟨_,rfl⟩
 | true =>
  unfold Qf at h
  rw [h]
  simp only [Bool.not_true,Bool.or_self,Bool.false_eq_true,if_false]
  rcases Ot (fun x:ByteArray × Vl=>Eb x.1 w) v.fields v.fields.length 0 (by omega) with q | ⟨i,hi,q,_⟩
  ·have:=L1 (fun x:ByteArray × Vl=>Eb x.1 w) v.fields
   rw [q,h] at this
   cases this
  ·rw [q,AM hi]
   simp only [Ae]
   have:=v.field_size _ (List.getElem_mem hi)
   rw [FZ n _ (by omega) (by omega)]
   exact ⟨_,rfl⟩
theorem Zep (a b:ByteArray):Eb a b=Eb b a:=by rw [Bool.eq_iff_iff,Db,Db];exact eq_comm
def RS (t:Ty) (k:Nat):Bool:=decide (t.min≤(k:Int))&&decide ((k:Int)≤t.max)
def Zg (v:Vl) (x:TF):Bool:=(!Qf v x.2.1)&&(!(decide (x.2.2.1=2)))
theorem Ty.small_elem {t x:Ty} (h:t.small) (hx:x∈t.elem):x.small:=by
 obtain ⟨f,g,e⟩:=h
 have a:=t.elem_size x hx
 have b:=t.depth_eq
 have c:=(PK t.elem (EX t.elem)).1 (Nat.le_refl _) x hx
 have d:EX t.elem≤Max.max (EX t.elem) (D7 t.fields):=Nat.le_max_left _ _
 exact ⟨by omega,by omega,(t.ok_eq.1 e).2.2.1 x hx⟩
theorem Ty.small_field {t:Ty} {p:TF} (h:t.small) (hx:p∈t.fields):p.2.2.2.1.small:=by
 obtain ⟨f,g,e⟩:=h
 have a:=t.field_size p hx
 have b:=t.depth_eq
 have c:=(NF t.fields (D7 t.fields)).1 (Nat.le_refl _) p hx
 have d:D7 t.fields≤Max.max (EX t.elem) (D7 t.fields):=Nat.le_max_right _ _
 exact ⟨by omega,by omega,((t.ok_eq.1 e).2.2.2 p hx).2.1⟩
theorem Ea {t x:Ty} (h:t.Good) (hx:x∈t.elem):x.Good:=by cases h with | mk _ a b c=>exact b x hx
theorem A9 {t:Ty} {p:TF} (h:t.Good) (hx:p∈t.fields):p.2.2.2.1.Good:=by cases h with | mk _ a b c=>exact c p hx
theorem OZ {t:Ty} (h:t.Good):Tm t=0:=by cases h with | mk _ a b c=>exact a
theorem GR {v:Vl} (h:v.Good):Ee v=0:=by cases h with | mk _ a b=>exact a
theorem E4 {v x:Vl} (h:v.Good) (hx:x∈Bn v):x.Good:=by cases h with | mk _ a b=>exact b x hx
def Us (k:Int) (x:TF):Prop:=(1≤x.2.2.1∧x.2.2.1≤3)∧(k=10→x.2.2.1=1)∧(x.2.2.1=3→x.2.2.2.2.length=1)∧(x.2.2.1≠3→x.2.2.2.2.length=0)
theorem ZcA {k:Int} {b:List TF} {x:TF} (h:N2 k b x=0):Us k x:=by
 rw [N2] at h
 by_cases h1:Ft x.2.1=true
 rotate_left
 ·rw [Ai h1] at h;exact absurd h (by decide)
 rw [Ah h1] at h
 by_cases h2:¬ (1≤x.1∧x.1≤9999)
 ·rw [Ah h2] at h;exact absurd h (by decide)
 rw [Ai h2] at h
 by_cases h3:(b.any fun q=>Fv q x)=true
 ·rw [Ah h3] at h;exact absurd h (by decide)
 rw [Ai h3] at h
 by_cases h4:¬ (1≤x.2.2.1∧x.2.2.1≤3)∨(k=10∧x.2.2.1≠1)
 ·rw [Ah h4] at h;exact absurd h (by decide)
 rw [Ai h4] at h
 by_cases h5:x.2.2.1=3∧x.2.2.2.2.length=0
 ·rw [Ah h5] at h;exact absurd h (by decide)
 rw [Ai h5] at h
 by_cases h6:1<x.2.2.2.2.length∨(x.2.2.1≠3∧0<x.2.2.2.2.length)
 ·rw [Ah h6] at h;exact absurd h (by decide)
 unfold Us
 omega
theorem Vo {k:Int}:∀ (l b:List TF),J8 k b l=0→∀ x∈l,Us k x
 | [],_,_,x,hx=>by simp at hx
 | y::r,b,h,x,hx=>by
  rw [J8] at h
  by_cases q:N2 k b y=0
  ·rw [Ah q] at h
   rcases List.mem_cons.1 hx with rfl | hx
   ·exact ZcA q
   ·exact Vo r _ h x hx
  ·rw [Ai q] at h;exact absurd h q
theorem Zcz {t:Ty} (h:¬ Cc t=true):(t.kind≠8→t.elem.length=0)∧(t.kind≠9→t.kind≠10→t.fields.length=0):=by
 refine ⟨fun k=>?_,fun a b=>?_⟩
 ·rcases Nat.eq_zero_or_pos t.elem.length with e | e
  ·exact e
  ·exfalso;apply h;rw [Cc,Af k,Ag (show 0<(t.elem.length:Int) by omega)];simp
 ·rcases Nat.eq_zero_or_pos t.fields.length with e | e
  ·exact e
  ·exfalso;apply h;rw [Cc,Af a,Af b,Ag (show 0<(t.fields.length:Int) by omega)];simp
theorem KV {t:Ty} (h:Tm t=0):¬ (t.kind<1∨10<t.kind)∧(t.kind≠8→t.elem.length=0)∧(t.kind=8→t.elem.length=1∧0≤t.min∧t.min≤256)∧(t.kind≠9→t.kind≠10→t.fields.length=0)∧(t.kind=10→0<t.fields.length)∧∀ x∈t.fields,Us t.kind x:=by
 obtain ⟨a,c,e⟩:=Uy h
 obtain ⟨n1,n2⟩:=Zcz c
 rw [Tm,Ai a,Ai c] at h
 by_cases h3:t.kind=4∧0<t.words.length
 ·have:=n2 (by omega) (by omega)
  have d:t.fields=[]:=List.length_eq_zero_iff.1 this
  exact ⟨a,n1,by omega,n2,by omega,by rw [d];simp⟩
 rw [Ai h3] at h
 by_cases h4:((2≤t.kind∧t.kind≤8)∧Dn t (AH t.kind).1 (AH t.kind).2=false)∨¬ (0≤t.scale∧t.scale≤12)
 ·rw [Ah h4] at h;exact absurd h (by decide)
 rw [Ai h4,Ai e] at h
 by_cases h6:1<t.elem.length
 ·rw [Ah h6] at h;exact absurd h (by decide)
 rw [Ai h6] at h
 by_cases h7:64<t.fields.length
 ·rw [Ah h7] at h;exact absurd h (by decide)
 rw [Ai h7] at h
 refine ⟨a,n1,fun g=>?_,n2,by omega,Vo _ _ h⟩
 have b:Dn t (AH t.kind).1 (AH t.kind).2=true:=by
  cases q:Dn t (AH t.kind).1 (AH t.kind).2
  ·exact absurd (Or.inl ⟨by omega,q⟩) h4
  ·rfl
 have f:(AH t.kind)=(0,256):=by rw [g];rfl
 rw [f,Dn] at b
 simp only [Bool.and_eq_true,decide_eq_true_eq] at b
 omega
theorem Ty.fit_of {t:Ty} {n:Nat} (ht:t.small) (hn:t.size+2600000≤n):t.fit n:=by
 have g:=t.lens
 obtain ⟨h,_,c⟩:=ht
 obtain ⟨e,b,f,a⟩:=t.ok_eq.1 c
 exact ⟨by omega,by omega,by omega,by omega,by omega,by omega,b,fun p d=>(a p d).1⟩
theorem Nh:∀ (k:Nat) (v:Vl) (lv:Nat),v.size≤k→(F8 lv v).length≤v.size
 | 0,v,lv,h=>absurd h (by have:=v.size_eq;omega)
 | k+1,v,lv,h=>by
  have c:=ZeU v
  rw [NB,List.length_cons,List.length_flatMap]
  have:((Bn v).map fun x=>(F8 (lv+1) x).length).sum≤((Bn v).map Vl.size).sum:=by
   have hall:∀ x∈Bn v,(F8 (lv+1) x).length≤x.size:=fun x b=>Nh k x (lv+1) (by have:=Jh b;omega)
   clear c
   generalize Bn v=l at hall
   induction l with
   | nil=>simp
   | cons a r ih =>
    have:=hall a (List.mem_cons_self ..)
    have:=ih fun x b=>hall x (List.mem_cons_of_mem _ b)
    simp only [List.map_cons,List.sum_cons]
    omega
  omega
theorem Zbk:∀ (l:List (Nat × Vl)) (c:Int),0≤c→c+l.length≤1000000000→JJ l c=some (c+l.length)
 | [],c,_,_=>by rw [JJ];simp
 | p::r,c,h1,h2=>by
  rw [List.length_cons] at h2
  rw [JJ,Ah (by unfold BM;omega),Zbk r (c+1) (by omega) (by omega),List.length_cons]
  congr 1
  omega
theorem S4 (v:Vl) (hs:v.size≤1048576):Nl v=some ((F8 1 v).length:Int):=by
 have:=Nh v.size v 1 (Nat.le_refl _)
 rw [Nl,Ah ⟨by have:=v.depth_size;omega,J3 _ v (Nat.le_refl _) (by omega)⟩,Zbk _ 0 (by omega) (by omega)]
 congr 1
 omega
theorem Qg {s:ByteArray} (h:Ft s=true):s.size≤32:=by
 unfold Ft Zdy at h
 simp only [Bool.and_eq_true,decide_eq_true_eq] at h
 have:s.size=s.data.toList.length:=by simp
 omega
theorem ZeE {s:ByteArray} (h:Eb s ⟨#[]⟩=true):s.size=0:=by
 rw [Zd1] at h;exact of_decide_eq_true h
theorem Zdz (k:Int):∀ (l b:List TF),J8 k b l=0→∀ x∈l,∃ b',N2 k b' x=0
 | [],_,_,x,hx=>absurd hx (by simp)
 | y::r,b,h,x,hx=>by
  rw [J8] at h
  by_cases q:N2 k b y=0
  ·rw [Ah q] at h
   rcases List.mem_cons.1 hx with rfl | hx
   ·exact ⟨b,q⟩
   ·exact Zdz k r _ h x hx
  ·rw [Ai q] at h;exact absurd h q
theorem ZbU {k:Int} {b:List TF} {x:TF} (h:N2 k b x=0):Ft x.2.1=true∧(1≤x.1∧x.1≤9999)∧(1≤x.2.2.1∧x.2.2.1≤3)∧(k=10→x.2.2.1=1)∧(x.2.2.1=3→x.2.2.2.2.length=1)∧(x.2.2.1≠3→x.2.2.2.2=[]):=by
 unfold N2 at h
 by_cases h1:Ft x.2.1=true
 ·rw [Ah h1] at h
  by_cases h2:¬ (1≤x.1∧x.1≤9999)
  ·rw [Ah h2] at h;exact absurd h (by decide)
  rw [Ai h2] at h
  by_cases h3:(b.any fun q=>Fv q x)=true
  ·rw [Ah h3] at h;exact absurd h (by decide)
  rw [Ai h3] at h
  by_cases h4:¬ (1≤x.2.2.1∧x.2.2.1≤3)∨(k=10∧x.2.2.1≠1)
  ·rw [Ah h4] at h;exact absurd h (by decide)
  rw [Ai h4] at h
  by_cases h5:x.2.2.1=3∧x.2.2.2.2.length=0
  ·rw [Ah h5] at h;exact absurd h (by decide)
  rw [Ai h5] at h
  by_cases h6:1<x.2.2.2.2.length∨(x.2.2.1≠3∧0<x.2.2.2.2.length)
  ·rw [Ah h6] at h;exact absurd h (by decide)
  refine ⟨h1,by omega,by omega,by omega,by omega,fun q=>?_⟩
  have:x.2.2.2.2.length=0:=by omega
  exact List.length_eq_zero_iff.1 this
 ·rw [Ai h1] at h;exact absurd h (by decide)
structure Ty.Own (t:Ty):Prop where
 kind:1≤t.kind∧t.kind≤10
 words:t.kind=4→0<t.words.length→t.min=0∧t.max=0∧t.words.length≤64∧QH none t.words=0
 nowords:t.kind≠4→t.words=[]
 noelem:t.kind≠8→t.elem=[]
 nofields:t.kind≠9→t.kind≠10→t.fields=[]
 noscale:t.kind≠3→t.scale=0
 nobounds:¬ (2≤t.kind∧t.kind≤8)→t.min=0∧t.max=0
 scale:0≤t.scale∧t.scale≤12
 bounds:(2≤t.kind∧t.kind≤8)→¬ (t.kind=4∧0<t.words.length)→(AH t.kind).1≤t.min∧t.max≤(AH t.kind).2∧t.min≤t.max
 elem:t.kind=8→∃ e,t.elem=[e]
 cases:t.kind=10→0<t.fields.length
 fields:t.fields.length≤64
 each:∀ x∈t.fields,Ft x.2.1=true∧(1≤x.1∧x.1≤9999)∧(1≤x.2.2.1∧x.2.2.1≤3)∧(t.kind=10→x.2.2.1=1)∧(x.2.2.1=3→x.2.2.2.2.length=1)∧(x.2.2.1≠3→x.2.2.2.2=[])
 apart:J8 t.kind [] t.fields=0
theorem Ty.own_of {t:Ty} (h:Tm t=0):t.Own:=by
 have r:=Uy h
 obtain ⟨p,k,v⟩:=r
 simp only [Cc,Bool.or_eq_true,Bool.and_eq_true,Bool.not_eq_true',Bool.and_eq_false_iff,decide_eq_false_iff_not,decide_eq_true_eq,not_or,not_and] at k
 obtain ⟨⟨⟨⟨j,n⟩,m⟩,f⟩,l⟩:=k
 have g:t.kind≠4→t.words=[]:=fun q=>List.length_eq_zero_iff.1 (by have:=m q;omega)
 have ne:t.kind≠8→t.elem=[]:=fun q=>List.length_eq_zero_iff.1 (by have:=f q;omega)
 have c:t.kind≠9→t.kind≠10→t.fields=[]:=fun q o=>List.length_eq_zero_iff.1 (by have:=l ⟨q,o⟩;omega)
 have d:t.kind≠3→t.scale=0:=fun q=>by
  have:=n q
  by_cases z:t.scale=0
  ·exact z
  ·exact absurd z this
 have i:¬ (2≤t.kind∧t.kind≤8)→t.min=0∧t.max=0:=fun q=>by
  have:=j (by omega)
  omega
 have u:=h
 rw [Tm,Ai p,Ai (by
  intro q
  simp only [Cc,Bool.or_eq_true,Bool.and_eq_true,Bool.not_eq_true',Bool.and_eq_false_iff,decide_eq_false_iff_not,decide_eq_true_eq] at q
  rcases q with (((q | q) | q) | q) | q
  ·have:=j q.1;have:=q.2;omega
  ·exact n q.1 q.2
  ·exact m q.1 q.2
  ·exact f q.1 q.2
  ·exact l q.1 q.2)] at h
 by_cases h3:t.kind=4∧0<t.words.length
 ·rw [Ah h3,Qh] at h
  by_cases w1:t.min≠0∨t.max≠0
  ·rw [Ah w1] at h;exact absurd h (by decide)
  rw [Ai w1] at h
  by_cases w2:64<t.words.length
  ·rw [Ah w2] at h;exact absurd h (by decide)
  rw [Ai w2] at h
  have ef:t.fields=[]:=c (by omega) (by omega)
  exact { kind:=by omega,words:=fun _ _=>⟨by omega,by omega,by omega,h⟩,nowords:=g,noelem:=ne,nofields:=c,noscale:=d,nobounds:=i,scale:=by have:=d (by omega);omega,bounds:=fun _ q=>absurd h3 q,elem:=fun q=>by omega,cases:=fun q=>by omega,fields:=by rw [ef];simp,each:=fun x hx=>by rw [ef] at hx;simp at hx,apart:=by rw [ef];rfl }
 rw [Ai h3] at h
 by_cases h4:((2≤t.kind∧t.kind≤8)∧Dn t (AH t.kind).1 (AH t.kind).2=false)∨¬ (0≤t.scale∧t.scale≤12)
 ·rw [Ah h4] at h;exact absurd h (by decide)
 rw [Ai h4] at h
 by_cases h5:(t.kind=8∧t.elem.length=0)∨(t.kind=10∧t.fields.length=0)
 ·rw [Ah h5] at h;exact absurd h (by decide)
 rw [Ai h5] at h
 by_cases h6:1<t.elem.length
 ·rw [Ah h6] at h;exact absurd h (by decide)
 rw [Ai h6] at h
 by_cases h7:64<t.fields.length
 ·rw [Ah h7] at h;exact absurd h (by decide)
 rw [Ai h7] at h
 refine { kind:=by omega,words:=fun a b=>absurd ⟨a,b⟩ h3,nowords:=g,noelem:=ne,nofields:=c,noscale:=d,nobounds:=i,scale:=by omega,bounds:=fun q _=>?_,elem:=fun q=>?_,cases:=fun q=>by omega,fields:=by omega,each:=fun x hx=>?_,apart:=h }
 ·have hb:Dn t (AH t.kind).1 (AH t.kind).2=true:=by
   cases hb:Dn t (AH t.kind).1 (AH t.kind).2 with
   | true=>rfl
   | false=>exact absurd (Or.inl ⟨q,hb⟩) h4
  unfold Dn at hb
  simp only [Bool.and_eq_true,decide_eq_true_eq] at hb
  exact ⟨hb.1.1,hb.1.2,hb.2⟩
 ·match he:t.elem with
  | []=>exact absurd (Or.inl ⟨q,by rw [he];rfl⟩) h5
  | [e]=>exact ⟨e,rfl⟩
  | _::_::_=>rw [he] at h6;simp at h6
 ·obtain ⟨s,hb⟩:=Zdz _ _ _ h x hx
  exact ZbU hb
theorem Ty.Good.own {t:Ty} (h:t.Good):t.Own:=Ty.own_of (OZ h)
theorem Zj9:AH 8=(0,256):=by decide
theorem Tf {α:Type} (p:α→Bool) (l:List α):∀ (k j:Nat),j+k=l.length→(l.drop j).find? p=B1 l (O0 p l j)
 | 0,j,h=>by rw [MD p l j (by omega),List.drop_eq_nil_of_le (by omega)];rfl
 | k+1,j,h=>by
  have a:j<l.length:=by omega
  rw [J1 p l j a,List.drop_eq_getElem_cons a,List.find?_cons]
  cases hp:p l[j] with
  | true=>rw [Ah rfl,AM a]
  | false=>rw [Ai (by decide)];exact Tf p l k (j+1) (by omega)
theorem WM {α:Type} (p:α→Bool) (l:List α):l.find? p=B1 l (O0 p l 0):=Tf p l l.length 0 (by omega)
def A7 (t:Ty) (w:ByteArray):Option TF:=t.fields.find? fun x=>Eb x.2.1 w
theorem BC {t:Ty} {w:ByteArray} {p:TF} (h:A7 t w=some p):p∈t.fields∧p.2.1=w:=⟨List.mem_of_find?_eq_some h,(Db _ _).1 (List.find?_some (p:=fun x:TF=>Eb x.2.1 w) h)⟩
def FB:Nat→Ty→Vl→Bool
 | 0,_,_=>false
 | d+1,t,v =>
  if t.kind≠v.kind then false
  else if t.kind=2∨t.kind=6∨t.kind=7 then decide (t.min≤v.int)&&decide (v.int≤t.max)
  else if t.kind=3 then decide (v.scale=t.scale)&&(decide (t.min≤v.int)&&decide (v.int≤t.max))
  else if t.kind=4 then (t.words.any fun x=>Eb x v.text)||(decide ((t.words.length:Int)=0)&&RS t v.text.size)
  else if t.kind=5 then RS t v.text.size
  else if t.kind=8 then (v.list.all fun x=>t.elem.all fun e=>FB d e x)&&RS t v.list.length
  else if t.kind=10 then match A7 t v.text with
   | some p=>v.list.all fun x=>FB d p.2.2.2.1 x
   | none=>false
  else if t.kind=9 then (v.fields.all fun q=>match A7 t q.1 with
   | some p=>FB d p.2.2.2.1 q.2
   | none=>false) && !(t.fields.any (Zg v))
  else true
theorem Ty.depth_elem {t x:Ty} (hx:x∈t.elem):x.depth<t.depth:=by
 have:=t.depth_eq
 have:=(PK t.elem (EX t.elem)).1 (Nat.le_refl _) x hx
 omega
theorem Ty.depth_field {t:Ty} {p:TF} (hx:p∈t.fields):p.2.2.2.1.depth<t.depth:=by
 have:=t.depth_eq
 have:=(NF t.fields (D7 t.fields)).1 (Nat.le_refl _) p hx
 omega
theorem UV {v:Vl} (gv:v.Good) (vk:v.kind=10):∃ x,v.list=[x]:=by
 obtain ⟨_,a⟩:=KY (GR gv)
 have q:=GR gv
 rw [Ee] at q
 by_cases p1:A3 v=true
 ·rw [Ah p1] at q;exact absurd q (by decide)
 rw [Ai p1,Aa,Ai a,Aa,Aa,Aa,Aa,Aa,Aa,Aa,Aa,Aa] at q
 by_cases p2:Ft v.text=true
 ·rw [Ah p2] at q
  by_cases p3:v.list.length=0
  ·rw [Ah p3] at q;exact absurd q (by decide)
  rw [Ai p3] at q
  by_cases p4:1<v.list.length
  ·rw [Ah p4] at q;exact absurd q (by decide)
  exact List.length_eq_one_iff.1 (by omega)
 ·rw [Ai p2] at q;exact absurd q (by decide)
def ZfF (d:Nat) (t:Ty) (q:ByteArray × Vl):Bool:=match A7 t q.1 with
 | some p=>FB d p.2.2.2.1 q.2
 | none=>false
theorem Xi:∀ (d e:Nat) (t:Ty) (v:Vl),t.depth≤d→t.depth≤e→FB d t v=FB e t v
 | 0,_,t,_,h,_=>by have:=t.depth_eq;omega
 | _+1,0,t,_,_,h=>by have:=t.depth_eq;omega
 | d+1,e+1,t,v,h1,h2=>by
  have f:∀ (y:Ty),y.depth<t.depth→∀ x,FB d y x=FB e y x:=fun y g x=>Xi d e y x (by omega) (by omega)
  have a:∀ x,(t.elem.all fun y=>FB d y x)=t.elem.all fun y=>FB e y x:=fun x=>Bool.eq_iff_iff.2 (by
   simp only [List.all_eq_true]
   exact ⟨fun q y g=>f y (Ty.depth_elem g) x▸q y g,fun q y g=>(f y (Ty.depth_elem g) x).symm▸q y g⟩)
  have b:∀ q,ZfF d t q=ZfF e t q:=fun q=>by
   unfold ZfF
   cases c:A7 t q.1 with
   | none=>rfl
   | some p=>exact f _ (Ty.depth_field (BC c).1) _
  rw [FB,FB]
  have j:(v.fields.all fun q=>match A7 t q.1 with | some p=>FB d p.2.2.2.1 q.2 | none=>false)=v.fields.all fun q=>match A7 t q.1 with | some p=>FB e p.2.2.2.1 q.2 | none=>false:=congrArg (v.fields.all ·) (funext b)
  have i:(match A7 t v.text with | some p=>v.list.all fun x=>FB d p.2.2.2.1 x | none=>false)=(match A7 t v.text with | some p=>v.list.all fun x=>FB e p.2.2.2.1 x | none=>false):=by
   cases c:A7 t v.text with
   | none=>rfl
   | some p=>exact congrArg (v.list.all ·) (funext (f _ (Ty.depth_field (BC c).1)))
  simp only [a,j,i]
inductive Ty.Fine:Nat→Ty→Prop
 | mk (d:Nat) (t:Ty) (own:Tm t=0) (he:∀ x∈t.elem,Ty.Fine d x) (hf:∀ p∈t.fields,Ty.Fine d p.2.2.2.1) (hd:∀ p∈t.fields,∀ v∈p.2.2.2.2,OR v=0∧FB 12 p.2.2.2.1 v=true):Ty.Fine (d+1) t
theorem Ty.Fine.depth:∀ (d:Nat) (t:Ty),t.Fine d→t.depth≤d
 | 0,t,h=>by cases h
 | d+1,t,h=>by
  cases h with
  | mk _ _ own he hf hd =>
   have b:=(PK t.elem d).2 fun x a=>Ty.Fine.depth d x (he x a)
   have c:=(NF t.fields d).2 fun x a=>Ty.Fine.depth d _ (hf x a)
   have:=t.depth_eq
   omega
end Go.Proofs.YtmcnjijeocmkgaaGreatDoor
namespace Go.Ev
open Go Go.RowKit
section
variable {o:VO} {n:Nat}
@[go_sem] theorem ZkC:(Ly o n).cells=[Ly o n]:=by cases o<;>rfl
@[go_sem] theorem Zkh:CM (Ly o n)=true:=by cases o<;>rfl
@[go_sem] theorem Q4 (id ver:Nat):Ly (.row id ver) n = .vec id ver 0 n:=rfl
def VO.under:VO→Nat→Prop
 | .nil,_=>True
 | .row id _,k=>id<k
@[go_sem] theorem ZkT {nb nr nl:Nat}:Under nb nr nl (Ly o n)↔o.under nr:=by
 cases o with
 | nil=>exact ⟨fun _=>trivial,fun _ => .list (by simp) trivial⟩
 | row id ver=>exact ⟨fun h=>by cases h;assumption,fun h => .vec h⟩
@[go_sem] theorem ZiX (k:Nat):VO.nil.under k=True:=rfl
@[go_sem] theorem L6 (id ver k:Nat):(VO.row id ver).under k=(id<k):=rfl
end
def RE:VO→List RowA→VO
 | .nil,rows => .row rows.length 0
 | .row id ver,_ => .row id (ver+1)
def Ud:VO→List RowA→Nat→List AV→List RowA
 | .nil,rows,sz,cs=>rows++[.vec 0 sz cs]
 | .row id ver,rows,sz,cs=>rows.set id (.vec (ver+1) sz cs)
section
variable {Rw rows:List RowA} {l:List (Nat × Nat × Own)} {ho:Own} {v:List VE} {o:VO} {sz:Nat} {cs:List AV}
theorem OwnsAt.up {lo:Nat} {x:Nat × Nat × Own} (h:OwnsAt lo ho rows x) (r:Aq):OwnsAt lo ho (rows++r) x:=by
 rcases h with h | ⟨id,h1,h2,h3⟩
 ·exact .inl h
 ·exact .inr ⟨id,h1,h2,by rw [List.getElem?_append_left (Aj.1 h3).1];exact h3⟩
theorem OwnsAt.set {lo:Nat} {x:Nat × Nat × Own} (h:OwnsAt lo ho rows x) {i:Nat} {a s:Nat} {c:List AV} (hi:rows[i]? = some (.vec a s c)) (r:RowA):OwnsAt lo ho (rows.set i r) x:=by
 rcases h with h | ⟨id,h1,h2,h3⟩
 ·exact .inl h
 ·refine .inr ⟨id,h1,h2,?_⟩
  rw [List.getElem?_set_ne (fun e=>by rw [e,h3] at hi;cases hi)]
  exact h3
theorem VAt.lt {lo:Nat} {x:VE} (h:VAt lo rows x):x.1.under rows.length:=by
 rcases h with h | ⟨id,ver,h1,h2,h3⟩
 ·rw [h.1];trivial
 ·rw [h1];exact (Aj.1 h3).1
theorem Owns.nilV (h:Owns Rw rows l ho v) (sz:Nat):Owns Rw rows l ho ((.nil,sz,[])::v) :=
 ⟨h.len,h.keep,fun i r b q a=>h.calm i r b q fun x hx=>a x (List.mem_cons_of_mem _ hx),h.each,h.apart,fun x hx=>by
  rcases List.mem_cons.1 hx with rfl | hx
  ·exact .inl ⟨rfl,rfl⟩
  ·exact h.veach x hx,List.pairwise_cons.2 ⟨fun _ _ _ _ _ q=>(nomatch q),h.vapart⟩⟩
theorem Owns.newV (h:Owns Rw rows l ho v) (sz:Nat) (cs:List AV):Owns Rw (rows++[.vec 0 sz cs]) l ho ((.row rows.length 0,sz,cs)::v):=by
 have j:=h.len
 refine ⟨by simp;omega,fun i d m=>?_,fun i r c q f=>?_,fun x hx=>(h.each x hx).up _,h.apart,fun x hx=>?_,List.pairwise_cons.2 ⟨fun y g id a b q k=>?_,h.vapart⟩⟩
 ·rw [List.getElem?_append_left (by omega)];exact h.keep i d m
 ·by_cases d:i<rows.length
  ·rw [List.getElem?_append_left d] at c
   exact h.calm i r c q fun x hx=>f x (List.mem_cons_of_mem _ hx)
  ·have e:i=rows.length:=by
    have:=(Aj.1 c).1
    simp at this;omega
   exact absurd (by rw [e]) (f _ (List.mem_cons_self ..) 0)
 ·rcases List.mem_cons.1 hx with rfl | hx
  ·exact .inr ⟨_,_,rfl,j,by simp⟩
  ·exact (h.veach x hx).up _
 ·cases q
  have:=(h.veach y g).lt
  rw [k] at this
  exact Nat.lt_irrefl _ this
theorem Owns.setV {id ver:Nat} (h:Owns Rw rows l ho ((.row id ver,sz,cs)::v)) (ver':Nat) (cs':List AV):Owns Rw (rows.set id (.vec ver' sz cs')) l ho ((.row id ver',sz,cs')::v):=by
 obtain ⟨t,s,m,n,u,j,p⟩:=h
 obtain ⟨hid,hrow⟩:Rw.length≤id∧rows[id]? = some (.vec ver sz cs):=by
  rcases j _ (List.mem_cons_self ..) with q | ⟨c,ver',q1,q2,q3⟩
  ·cases q.1
  ·cases q1;exact ⟨q2,q3⟩
 have d:=(Aj.1 hrow).1
 obtain ⟨p1,p2⟩:=List.pairwise_cons.1 p
 refine ⟨by simpa using t,fun i w o=>?_,fun i r f q g=>?_,fun x hx=>(n x hx).set hrow _,u,fun x hx=>?_,List.pairwise_cons.2 ⟨fun y hy c a b q=>by cases q;exact p1 y hy id ver b rfl,p2⟩⟩
 ·rw [List.getElem?_set_ne (by omega)];exact s i w o
 ·by_cases e:id=i
  ·exact absurd (by rw [e]) (g _ (List.mem_cons_self ..) ver')
  ·rw [List.getElem?_set_ne e] at f
   refine m i r f q fun x hx=>?_
   rcases List.mem_cons.1 hx with rfl | hx
   ·intro a k;cases k;exact e rfl
   ·exact g x (List.mem_cons_of_mem _ hx)
 ·rcases List.mem_cons.1 hx with rfl | hx
  ·exact .inr ⟨id,ver',rfl,hid,by simp [d]⟩
  ·exact (j x (List.mem_cons_of_mem _ hx)).set (fun a k=>p1 x hx id ver a rfl k) _
theorem Owns.storeV {id ver:Nat} (h:Owns Rw rows l ho ((.row id ver,sz,cs)::v)) (cs':List AV):∃ rows',Owns Rw rows' l ho ((.row id ver,sz,cs')::v)∧rows.set id (.vec ver sz cs')=rows':=⟨_,h.setV ver cs',rfl⟩
theorem Owns.bump (h:Owns Rw rows l ho ((o,sz,cs)::v)) (cs':List AV):Owns Rw (Ud o rows sz cs') l ho ((RE o rows,sz,cs')::v):=by
 cases o with
 | nil =>
  have d:Owns Rw rows l ho v:=⟨h.len,h.keep,fun i r c q b=>h.calm i r c q fun x hx=>by
   rcases List.mem_cons.1 hx with rfl | hx
   ·intro a k;cases k
   ·exact b x hx,h.each,h.apart,fun x hx=>h.veach x (List.mem_cons_of_mem _ hx),(List.pairwise_cons.1 h.vapart).2⟩
  exact d.newV sz cs'
 | row id ver=>exact h.setV (ver+1) cs'
theorem Owns.eqV {v':List VE} (h:Owns Rw rows l ho v) (he:v=v'):Owns Rw rows l ho v':=he▸h
theorem Owns.rowV (h:Owns Rw rows l ho ((o,sz,cs)::v)) (hne:0<cs.length):∃ id ver,o = .row id ver∧id<rows.length∧IH rows id ver=some (sz,cs):=by
 rcases h.veach _ (List.mem_cons_self ..) with q | ⟨id,ver,q1,q2,q3⟩
 ·have q2:cs=[]:=q.2
  rw [q2] at hne;simp at hne
 ·refine ⟨id,ver,q1,(Aj.1 q3).1,?_⟩
  simp only [IH,q3,if_true]
theorem Owns.nilZ (h:Owns Rw rows l ho ((o,sz,cs)::v)) (hs:0<sz) {n:Nat} (hn:cs.length=n*sz):o = .nil→n=0:=fun e=>by
 rcases h.veach _ (List.mem_cons_self ..) with q | ⟨id,ver,q1,q2,q3⟩
 ·have q2:cs=[]:=q.2
  rw [q2] at hn
  rcases Nat.eq_zero_or_pos n with w | w
  ·exact w
  ·have:=Nat.mul_pos w hs
   simp at hn;omega
 ·rw [e] at q1;cases q1
theorem Owns.lenV (h:Owns Rw rows l ho ((o,sz,cs)::v)) (hs:0<sz) {n:Nat} (hn:cs.length=n*sz) (P:Program) (t:TypeId):Vb P t (Ly o n)=((OV P t).isSome=true,Ak n):=by
 cases o with
 | nil=>rw [h.nilZ hs hn rfl];rfl
 | row id ver=>rfl
theorem Owns.underV (h:Owns Rw rows l ho v):∀ x∈v,x.1.under rows.length:=fun x a=>(h.veach x a).lt
theorem Owns.appendV {P:Program} {t el:TypeId} {by8 n m:Nat} {ag:Bool} (h:Owns Rw rows l ho ((o,sz,cs)::v)) (he:OV P t=some (el,sz,ag,by8)) (hz:(EW P el).isSome=true) (hs:0<sz) (hn:cs.length=n*sz) (hm:0<m)
  (hb:(n+m)*by8≤140737488355328) (hb2:n+m≤4611686018427387904) (ys:List AV) (hy:ys.length=m) (cs':List AV) (hc:cs++ys.flatMap (fun y=>y.pub.cells)=cs') :
  ∃ o' rows',Owns Rw rows' l ho ((o',sz,cs')::v)∧∀ (B:Am) (L:Ar) (o2:Own),B2 P ⟨B,rows,L⟩ t (Ly o n) (.list ys o2)=((∀ y∈ys,y.cells.length=sz∧CM y=true),Ly o' (n+m),⟨B,rows',L⟩):=by
 subst hc
 refine ⟨_,_,h.bump _,fun B L o2=>?_⟩
 cases o with
 | nil =>
  have e0:=h.nilZ hs hn rfl
  subst e0
  have ec:cs=[]:=List.length_eq_zero_iff.1 (by simpa using hn)
  subst ec
  simp only [Ly,B2,he,Bj,C6,D1,hs,hz,hy,hm,RE,Ud,List.length_nil,List.nil_append,Nat.zero_add,true_and,and_true,Prod.mk.injEq,eq_iff_iff,and_self]
  rw [Nat.zero_add] at hb hb2
  exact ⟨fun q=>q.2.2,fun q=>⟨hb,hb2,q⟩⟩
 | row id ver =>
  obtain ⟨id',ver',e,hlt,hv⟩:∃ id' ver',VO.row id ver = .row id' ver'∧id'<rows.length∧IH rows id' ver'=some (sz,cs):=by
   rcases h.veach _ (List.mem_cons_self ..) with q | ⟨id,ver,q1,q2,q3⟩
   ·cases q.1
   ·refine ⟨id,ver,q1,(Aj.1 q3).1,?_⟩
    simp only [IH,q3,if_true]
  cases e
  have a:cs.take (n*sz)=cs:=List.take_of_length_le (by omega)
  have b:=hb
  simp only [Ly,B2,he,hv,Bj,C6,D1,hs,hz,hy,RE,Ud,a,Nat.le_of_eq hn.symm,true_and,and_true,Prod.mk.injEq,eq_iff_iff]
  exact ⟨fun q=>q.2.2,fun q=>⟨hb,hb2,q⟩⟩
theorem Owns.callV {rows':List RowA} {v':List VE} (h:Owns Rw rows l ho v) (hc:Owns rows rows' [] .none v'):Owns Rw rows' l ho (v'++v):=by
 have t:=h.len
 have s:=hc.len
 have keep:∀ i,i<rows.length→rows'[i]? = rows[i]? := fun i g=>hc.keep i g (fun q=>by cases q)
 have d:∀ x∈v,x.1.under rows.length:=h.underV
 have new:∀ x∈v',∀ id c,x.1 = .row id c→rows.length≤id:=fun x hx id c e=>by
  rcases hc.veach x hx with q | ⟨id',ver',q1,q2,q3⟩
  ·rw [q.1] at e;cases e
  ·rw [q1] at e;cases e;exact q2
 refine ⟨by omega,fun i g o=>?_,fun i r f q m=>?_,fun x hx=>?_,h.apart,fun x hx=>?_,List.pairwise_append.2 ⟨hc.vapart,h.vapart,fun x hx y n id a b e k=>?_⟩⟩
 ·rw [keep i (by omega)];exact h.keep i g o
 ·by_cases e:rows.length≤i
  ·exact hc.calm i r f (.inl e) fun x hx=>m x (List.mem_append_left _ hx)
  ·rw [keep i (by omega)] at f
   exact h.calm i r f q fun x hx=>m x (List.mem_append_right _ hx)
 ·rcases h.each x hx with q | ⟨id,q1,q2,q3⟩
  ·exact .inl q
  ·exact .inr ⟨id,q1,q2,by rw [keep id (Aj.1 q3).1];exact q3⟩
 ·rcases List.mem_append.1 hx with hx | hx
  ·rcases hc.veach x hx with q | ⟨id,c,q1,q2,q3⟩
   ·exact .inl q
   ·exact .inr ⟨id,c,q1,by omega,q3⟩
  ·rcases h.veach x hx with q | ⟨id,c,q1,q2,q3⟩
   ·exact .inl q
   ·exact .inr ⟨id,c,q1,q2,by rw [keep id (Aj.1 q3).1];exact q3⟩
 ·have p:=new x hx id a e
  have j:=d y n
  rw [k] at j
  exact absurd j (by simp only [VO.under];omega)
theorem Owns.dropV {x:VE} (h:Owns Rw rows l ho ((.nil,sz,cs)::v)):Owns Rw rows l ho v :=
 ⟨h.len,h.keep,fun i r c q b=>h.calm i r c q fun x hx=>by
  rcases List.mem_cons.1 hx with rfl | hx
  ·intro a k;cases k
  ·exact b x hx,h.each,h.apart,fun x hx=>h.veach x (List.mem_cons_of_mem _ hx),(List.pairwise_cons.1 h.vapart).2⟩
theorem Owns.deadV {id ver:Nat} (h:Owns Rw rows l ho ((.row id ver,sz,cs)::v)):Owns Rw (rows.set id (.dead (ver+1))) l ho v:=by
 obtain ⟨o,n,d,f,t,c,j⟩:=h
 obtain ⟨hid,hrow⟩:Rw.length≤id∧rows[id]? = some (.vec ver sz cs):=by
  rcases c _ (List.mem_cons_self ..) with q | ⟨id',ver',q1,q2,q3⟩
  ·cases q.1
  ·cases q1;exact ⟨q2,q3⟩
 have b:=(Aj.1 hrow).1
 obtain ⟨s,m⟩:=List.pairwise_cons.1 j
 refine ⟨by simpa using o,fun i u g=>?_,fun i r hr q p=>?_,fun x hx=>(f x hx).set hrow _,t,fun x hx=>?_,m⟩
 ·rw [List.getElem?_set_ne (by omega)];exact n i u g
 ·by_cases e:id=i
  ·subst e
   rw [List.getElem?_set_self b] at hr
   cases hr;rfl
  ·rw [List.getElem?_set_ne e] at hr
   refine d i r hr q fun x hx=>?_
   rcases List.mem_cons.1 hx with rfl | hx
   ·intro a k;cases k;exact e rfl
   ·exact p x hx
 ·exact (c x (List.mem_cons_of_mem _ hx)).set (fun a k=>s x hx id ver a rfl k) _
end
section
variable {P:Program} {w0:World} {n:Nat} {e:Env} {st:St} {M0:Mem} {W0:World} {ro:Option Nat} {Q:AQ} {c:Code}
variable {Rw:List RowA} {lw:List (Nat × Nat × Own)} {oh:Own} {v:List VE} {o:VO} {sz m:Nat} {cs xs:List AV}
theorem JQ (l i:Nat) {bs:List AV} (hl:st.boxes[l]? = some bs) (hi:bs[i]? = some (Ly o m)) (ho:Owns Rw st.rows lw oh ((o,sz,cs)::v)) (ag:Bool) (hag:ag=true∨sz=1) (hs:0<sz) (hn:cs.length=m*sz) (hx:Ru sz ag cs 0 m=xs)
  (h:∀ rows',Owns Rw rows' lw oh v→F3 P w0 n M0 W0 ro c Q e { st with boxes:=st.boxes.set l (bs.set i (.list xs .none)),rows:=rows' }):F3 P w0 n M0 W0 ro c Q e st:=by
 cases o with
 | nil =>
  have e0:=ho.nilZ hs hn rfl
  subst e0
  have ex:xs=[]:=by rw [←hx];rfl
  subst ex
  exact Vh l i hl hi rfl (h _ (ho.dropV (x:=(.nil,0,[]))))
 | row id ver =>
  rcases ho.veach _ (List.mem_cons_self ..) with q | ⟨id',ver',q1,q2,q3⟩
  ·cases q.1
  ·cases q1
   subst hx
   exact QN l i ag hl hi (by simp only [IH,q3,if_true]) hag (by rw [Nat.zero_add];omega) (h _ ho.deadV)
end
theorem Q7 {α:Type} {f:α→AV} {g:α→List AV} (sz:Nat) (hf:∀ x,f x = .agg (g x)) (hg:∀ x,(g x).length=sz) (xs:List α):Ru sz true (xs.flatMap fun x=>(f x).cells) 0 xs.length=xs.map f:=by
 have b:(xs.flatMap fun x=>(f x).cells)=xs.flatMap g:=by
  congr 1;funext x;rw [hf];rfl
 rw [b]
 refine List.ext_getElem (by simp [Ru]) fun i c a=>?_
 simp only [List.length_map] at a
 simp only [Ru,List.getElem_map,List.getElem_range,Nat.zero_add,RI,if_true]
 rw [Fo sz hg (List.getElem?_eq_getElem a),hf]
theorem CZ {α:Type} {f:α→AV} {sz:Nat} (hf:∀ x,(f x).cells.length=sz) (xs:List α):(xs.flatMap fun x=>(f x).cells).length=xs.length*sz:=by
 induction xs with
 | nil=>simp
 | cons x xs ih=>rw [List.flatMap_cons,List.length_append,ih,hf,List.length_cons,Nat.succ_mul,Nat.add_comm]
theorem QE {α:Type} {f:α→AV} {sz:Nat} (hf:∀ x,(f x).cells.length=sz) {xs:List α} {i:Nat} {x:α} (h:xs[i]? = some x) :
  (∀ j,j<sz→nth (xs.flatMap fun x=>(f x).cells) (i*sz+j)=nth (f x).cells j)∧(∀ j k,j+k≤sz→((xs.flatMap fun x=>(f x).cells).drop (i*sz+j)).take k=((f x).cells.drop j).take k):=by
 have a:=Fo (f:=fun x=>(f x).cells) sz hf h
 have b:∀ j k,j+k≤sz→((xs.flatMap fun x=>(f x).cells).drop (i*sz+j)).take k=((f x).cells.drop j).take k:=fun j k d=>by
  rw [←a,List.drop_take,List.take_take,List.drop_drop,Nat.min_eq_left (by omega)]
 refine ⟨fun j e=>?_,b⟩
 have:=b j 1 (by omega)
 simp only [nth,List.getD_eq_getElem?_getD]
 have c:∀ (l:List AV) (q:Nat),l[q]? = ((l.drop q).take 1)[0]? := fun l q=>by simp [List.getElem?_take_of_lt,List.getElem?_drop]
 rw [c,c (f x).cells,this]
theorem Qz {α:Type} {f:α→AV} {sz:Nat} (hf:∀ x,(f x).cells.length=sz) (y:α):∀ {xs:List α} {i:Nat} {x:α} {k:Nat} {c:List AV},xs[i]? = some x→k+c.length≤sz→(f y).cells=Dh (f x).cells k c→Dh (xs.flatMap fun x=>(f x).cells) (i*sz+k) c=(xs.set i y).flatMap fun x=>(f x).cells
 | [],i,x,k,c,h,_,_=>by simp at h
 | z::zs,0,x,k,c,h,hk,he=>by
  simp only [List.getElem?_cons_zero,Option.some.injEq] at h
  subst h
  have a:=hf z
  simp only [List.flatMap_cons,List.set_cons_zero,he,Dh,Nat.zero_mul,Nat.zero_add]
  rw [List.take_append_of_le_length (by omega),List.drop_append_of_le_length (by omega)]
  simp only [List.append_assoc]
 | z::zs,i+1,x,k,c,h,hk,he=>by
  simp only [List.getElem?_cons_succ] at h
  have ih:=Qz hf y (i:=i) (k:=k) h hk he
  have a:=hf z
  simp only [List.flatMap_cons,List.set_cons_succ,←ih,Dh]
  rw [show (i+1)*sz+k=(f z).cells.length+(i*sz+k) by rw [a,Nat.succ_mul];omega,List.take_append,List.take_of_length_le (by omega),Nat.add_sub_cancel_left,Nat.add_assoc,List.drop_append,List.drop_of_length_le (by omega),Nat.add_sub_cancel_left]
  simp only [List.nil_append,List.append_assoc]
section
variable {P:Program} {w0:World} {f:FuncId} {st:St}
def finV (st:St) (Post:AV→St→Prop) (r:AV) (s:St):Prop :=
 st.boxes.length≤s.boxes.length∧st.rows.length≤s.rows.length∧st.loops.length≤s.loops.length∧Calm st.boxes.length s.rows.length st.loops.length (s.cut st.boxes.length s.rows.length st.loops.length) ∧
  Under st.boxes.length s.rows.length st.loops.length r∧Post r (s.cut st.boxes.length s.rows.length st.loops.length)
theorem ACalls.finV {args:List AV} {Post:AV→St→Prop} (h:ACalls P w0 f args st (finV st Post)):ACalls P w0 f args st Post:=by
 refine ⟨h.1,fun M w c a b=>(h.2 M w c a b).mono ?_⟩
 rintro en m ⟨v,M',r,d,j,⟨l,n,e,i,g,k⟩,h3,h4,h5⟩
 exact ⟨v,M'.cut st.boxes.length d.rows.length st.loops.length,r,_,j,k,h3.cut (by have:=a.N;omega) (by have:=a.NR;omega) (by have:=a.loop.NL;omega) (by rw [h4.loop.NL];exact e),h4.cut l (Nat.le_refl _) e i,h5.cut g⟩
theorem Zlr {B B' X:List (List AV)} {R0 rows:List RowA} {L l:List LoopA} {Post:AV→St→Prop} {r:AV} {ow:List (Nat × Nat × Own)} {v:List VE} (ho:Owns R0 rows ow .none v) (hc:Calm B.length R0.length L.length ⟨B',R0,L⟩) (hB:B'.length=B.length) (hu:Under B.length rows.length L.length r)
  (hv:∀ x∈v,∀ y∈x.2.2,Under B.length rows.length L.length y) (hp:Post r ⟨B',rows,L⟩):Go.Ev.finV ⟨B,R0,L⟩ Post r ⟨B'++X,rows,L++l⟩:=by
 have e:St.cut ⟨B'++X,rows,L++l⟩ B.length rows.length L.length=⟨B',rows,L⟩:=by simp [St.cut,←hB]
 have d:=ho.len
 refine ⟨by simp [hB],d,by simp,?_,hu,by simp only [e];exact hp⟩
 simp only [e]
 exact ⟨ho.rowsCalm (Nat.le_refl _) hc.rows hv,fun cs a x b=>DF (Nat.le_refl _) d (Nat.le_refl _) (hc.boxes cs a x b),fun f a k x b c=>DF (Nat.le_refl _) d (Nat.le_refl _) (hc.loops f a k x b c)⟩
theorem Zai {B B' X:List (List AV)} {R0 rows:List RowA} {L:List LoopA} {Post:AV→St→Prop} {r:AV} {ow:List (Nat × Nat × Own)} {v:List VE} (ho:Owns R0 rows ow .none v) (hc:Calm B.length R0.length L.length ⟨B',R0,L⟩) (hB:B'.length=B.length) (hu:Under B.length rows.length L.length r)
  (hv:∀ x∈v,∀ y∈x.2.2,Under B.length rows.length L.length y) (hp:Post r ⟨B',rows,L⟩):Go.Ev.finV ⟨B,R0,L⟩ Post r ⟨B'++X,rows,L⟩:=by
 have:=Zlr (X:=X) (l:=[]) ho hc hB hu hv hp
 rwa [List.append_nil] at this
end
abbrev VP (Rw:Aq) (o:VO) (sz:Nat) (cs:List AV):Prop:=VAt 0 Rw (o,sz,cs)
theorem Owns.vp {Rw rows:List RowA} {l:List (Nat × Nat × Own)} {ho:Own} {v:List VE} {o:VO} {sz:Nat} {cs:List AV} (h:Owns Rw rows l ho ((o,sz,cs)::v)):VP rows o sz cs:=by
 rcases h.veach _ (List.mem_cons_self ..) with q | ⟨id,ver,q1,q2,q3⟩
 ·exact .inl q
 ·exact .inr ⟨id,ver,q1,Nat.zero_le _,q3⟩
theorem VP.up {Rw rows:List RowA} {o:VO} {sz:Nat} {cs:List AV} {l:List (Nat × Nat × Own)} {v:List VE} (h:VP Rw o sz cs) (ho:Owns Rw rows l .none v):VP rows o sz cs:=by
 rcases h with q | ⟨id,ver,q1,q2,q3⟩
 ·exact .inl q
 ·refine .inr ⟨id,ver,q1,q2,?_⟩
  rw [ho.keep id (Aj.1 q3).1 (fun e=>by cases e)]
  exact q3
theorem VP.row {rows:List RowA} {o:VO} {sz:Nat} {cs:List AV} (h:VP rows o sz cs) (hne:0<cs.length):∃ id ver,o = .row id ver∧id<rows.length∧IH rows id ver=some (sz,cs):=by
 rcases h with q | ⟨id,ver,q1,q2,q3⟩
 ·have q2:cs=[]:=q.2
  rw [q2] at hne;simp at hne
 ·refine ⟨id,ver,q1,(Aj.1 q3).1,?_⟩
  simp only [IH,q3,if_true]
theorem VP.lenV {rows:List RowA} {o:VO} {sz:Nat} {cs:List AV} (h:VP rows o sz cs) (hs:0<sz) {n:Nat} (hn:cs.length=n*sz) (P:Program) (t:TypeId):Vb P t (Ly o n)=((OV P t).isSome=true,Ak n):=by
 cases o with
 | nil =>
  rcases h with q | ⟨id,ver,q1,q2,q3⟩
  ·have q2:cs=[]:=q.2
   rw [q2] at hn
   rcases Nat.eq_zero_or_pos n with w | w
   ·rw [w];rfl
   ·have:=Nat.mul_pos w hs
    simp at hn;omega
  ·cases q1
 | row id ver=>rfl
theorem VP.under {rows:List RowA} {o:VO} {sz:Nat} {cs:List AV} (h:VP rows o sz cs):o.under rows.length:=VAt.lt h
end Go.Ev
namespace Go.Ev
open Go Go.RowKit Go.Shelf Go.Lib Go.Proofs
structure InsLay (P:Program) (ρ:Ren) (nm:String) (sz bytes:Nat) (z:Value):Prop where
 mixed:P.follows .mixedOrders=true
 nmo:nm ≠ "runtime.NumGoroutine"
 f22:P.funcs[ρ.f 22]? = some { Body2.n22 ρ with name:=nm }
 ov:∀ (w:World) (x y:Value),(Extern.SlicesOverlaps.overlaps #[ρ.t 24,ρ.t 24] #[ρ.t 4] #[x,y]).run P w = .ok (.bool false) w→(callFunc (ρ.f 29) #[x,y]).run P w = .ok (.value (.bool false)) w
 t0:P.underlying (ρ.t 0)=some (TypeDesc.tuple #[])
 a0:∀ w,(isAgg (ρ.t 0)).run P w = .ok false w
 z0:∀ w,(Go.sizeOf (ρ.t 0)).run P w = .ok 1 w
 v0:∀ w,(zeroValue (ρ.t 0)).run P w = .ok (Value.tuple #[]) w
 t3:P.underlying (ρ.t 3)=some (TypeDesc.int IntKind.i64)
 a3:∀ w,(isAgg (ρ.t 3)).run P w = .ok false w
 z3:∀ w,(Go.sizeOf (ρ.t 3)).run P w = .ok 1 w
 v3:∀ w,(zeroValue (ρ.t 3)).run P w = .ok (Value.int IntKind.i64 0) w
 t4:P.underlying (ρ.t 4)=some (TypeDesc.bool)
 a4:∀ w,(isAgg (ρ.t 4)).run P w = .ok false w
 z4:∀ w,(Go.sizeOf (ρ.t 4)).run P w = .ok 1 w
 v4:∀ w,(zeroValue (ρ.t 4)).run P w = .ok (Value.bool false) w
 z9:∀ w,(Go.sizeOf (ρ.t 9)).run P w = .ok sz w
 t24:P.underlying (ρ.t 24)=some (TypeDesc.slice (ρ.t 9))
 a24:∀ w,(isAgg (ρ.t 24)).run P w = .ok false w
 z24:∀ w,(Go.sizeOf (ρ.t 24)).run P w = .ok 1 w
 v24:∀ w,(zeroValue (ρ.t 24)).run P w = .ok (Value.slice none 0 0) w
 i9:(P.info? (ρ.t 9)).map (fun i=>(i.zero,i.size,i.bytes))=some (some z,sz,bytes)
theorem US {P:Program} (w:World) (tS tR e:TypeId) (ht:P.underlying tS=some (.slice e)) (size:Nat) (hz:∀ w,(Go.sizeOf e).run P w = .ok size w)
  (a b:Addr) (la ca lb cb:Nat) (hne:a.block≠b.block) (tA tB:TypeId) (kA kB:Nat)
  (hsa:w.shape? a.block=some (tA,kA)) (hsb:w.shape? b.block=some (tB,kB)) (hkA:kA≠0) (hkB:kB≠0)
  (hfb:∀ j,w.frozen? { block:=b.block,off:=j }=false) (hb:b.spot=none) :
  (Extern.SlicesOverlaps.overlaps #[tS,tS] #[tR] #[.slice (some a) la ca,.slice (some b) lb cb]).run P w = .ok (.bool false) w:=by
 have d:(a.block != b.block)=true:=by simpa using hne
 have c:(a.block == b.block)=false:=by simpa using hne
 have g:w.frozen? b=false:=by
  obtain ⟨h,f,i⟩:=b
  cases hb
  exact hfb f
 change Sem.run P (α:=Value) (do
  let some t:=(#[tS,tS]:Array TypeId)[0]? | stuck "slices.overlaps: no parameter types"
  let .slice elem ← underlying t | stuck "slices.overlaps: slice type expected"
  let size ← sizeOf elem
  match (some a:Option Addr),(some b:Option Addr) with
  | some a,some b =>
   if la=0∨lb=0∨size=0 then pure (Value.bool false)
   else if a.block != b.block&&(← frozen a)&&(← frozen b) then unsupported .addressObserved
   else do
    if a.block != b.block then do
     noView a;noView b
     if ← mayBeOne a b then return Value.bool ((← choose (.extern "sameAddr.stringBytes" 2)) == 1)
    pure (Value.bool (a.block == b.block&&a.off<b.off+lb*size&&b.off<a.off+la*size))
  | _,_=>pure (Value.bool false)) w=_
 by_cases h0:la=0∨lb=0∨size=0
 ·simp [run_underlying ht,hz,h0]
 ·cases kB with
  | zero=>exact absurd rfl hkB
  | succ kB =>
  cases kA with
  | zero=>exact absurd rfl hkA
  | succ kA =>
   cases hfa:w.frozen? a<;>cases hfe:w.frozen? { block:=a.block,off:=kA+1 } <;>
    simp [run_underlying ht,hz,h0,d,c,frozen,noView,viewAt,mayBeOne,stringish,shape,Sem.run,hsa,hsb,hfa,hfe,g,hfb]
section
variable {P:Program} {ρ:Ren} {nm:String} {sz bytes:Nat} {z:Value}
theorem NG (w:World) (dT sT ty elem:TypeId) (b o dLen dCap:Nat) (a:Addr) (sLen sCap:Nat) (cs:List Value)
  (hu:P.underlying dT=some (.slice elem)) (hs:(P.info? elem).map (·.size)=some sz) (hn:cs.length=Nat.min sLen dLen*sz)
  (hsrc:∀ j v,cs[j]? = some v→w.cell? (a.add j)=some v) (hc:∀ j,j<cs.length→(w.cell? ⟨b,o+j,none⟩).isSome=true) (hf:∀ j,j<cs.length→w.frozen? ⟨b,o+j,none⟩=false) (h1:∀ v∈cs,v.oneCell'=true) :
  (Builtin.copy_ #[dT,sT] ty #[.slice (some ⟨b,o,none⟩) dLen dCap,.slice (some a) sLen sCap]).run P w = .ok (goInt (Nat.min sLen dLen)) (w.setCells b o cs):=by
 have d:=run_loadCells_list (P:=P) w a cs hsrc
 have c:=run_storeCells_cells (P:=P) b o cs 0 w (by simpa using hc) (by simpa using hf) h1
 rw [Nat.add_zero] at c
 rw [hn] at d
 cases hq:P.info? elem with
 | none=>simp [hq] at hs
 | some i =>
  have e:i.size=sz:=by simpa [hq] using hs
  simp [Builtin.copy_,run_underlying hu,Builtin.lenOf,Builtin.firstCells,sizeOf,typeInfo,hq,e,d,c]
theorem Zef (L:InsLay P ρ nm sz bytes z) (b off n c i vb voff m vc:Nat) (cs vs:List Value) (w:World) (hi:i<n) (hm:0<m) (hroom:n+m≤c) (hc63:c≤9223372036854775807) (hvb:vb≠b)
  (hcl:cs.length=n*sz) (hvl:vs.length=m*sz)
  (hcs:∀ j v,cs[j]? = some v→w.cell? ⟨b,off+j,none⟩=some v) (hsp:∀ j,j<n*sz+m*sz→(w.cell? ⟨b,off+j,none⟩).isSome=true) (hfz:∀ j,j<n*sz+m*sz→w.frozen? ⟨b,off+j,none⟩=false)
  (hvs:∀ j v,vs[j]? = some v→w.cell? ⟨vb,voff+j,none⟩=some v) (h1c:∀ v∈cs,v.oneCell'=true) (h1v:∀ v∈vs,v.oneCell'=true)
  (tA tB:TypeId) (kA kB:Nat) (hsa:w.shape? vb=some (tA,kA)) (hsb:w.shape? b=some (tB,kB)) (hkA:kA≠0) (hkB:kB≠0) (hfb:∀ j,w.frozen? ⟨b,j,none⟩=false) :
  Calls P (ρ.f 22) #[.slice (some ⟨b,off,none⟩) n c,.int .i64 i,.slice (some ⟨vb,voff,none⟩) m vc] w fun e w' =>
   e = .returned (.slice (some ⟨b,off,none⟩) (n+m) c)∧w'=(w.drew.setCells b (off+(i*sz+m*sz)) (cs.drop (i*sz))).setCells b (off+i*sz) vs:=by
 have t0:=L.t0;have a0:=L.a0;have z0:=L.z0;have v0:=L.v0;have t3:=L.t3;have a3:=L.a3;have z3:=L.z3;have v3:=L.v3;have t4:=L.t4;have a4:=L.a4;have z4:=L.z4;have v4:=L.v4;have z9:=L.z9;have aj:=L.t24;have ak:=L.a24;have ae:=L.z24;have aa:=L.v24
 have u0:=run_underlying L.t0;have u3:=run_underlying L.t3;have u4:=run_underlying L.t4;have ai:=run_underlying L.t24
 have ad:¬ ((m:Int)=0):=by omega
 have ag:¬ ((i:Int)=(n:Int)):=by omega
 have q:(P.info? (ρ.t 9)).map (·.size)=some sz:=by
  obtain ⟨i0,K,h0,h1,h2⟩:=info_parts L.i9
  rw [K];simp [h1]
 have H:=L.mixed
 have af:IntKind.i64.wrap ((i:Int)+(m:Int))=(i:Int)+(m:Int):=by rw [IntKind.wrap_i64];omega
 have ab:(0:Int)≤(i:Int)+(m:Int):=by omega
 have C:i≤n:=by omega
 have ah:((i:Int)+(m:Int)).toNat=i+m:=by omega
 have Y:¬ (c=i+m):=by omega
 have Z:(i:Int)≤(n:Int)+(m:Int):=by omega
 have V:¬ (c=i):=by omega
 have N:(i+m)*sz=i*sz+m*sz:=Nat.add_mul ..
 have U:i*sz≤n*sz:=Nat.mul_le_mul_right _ C
 have u:(n-i)*sz=n*sz-i*sz:=Nat.sub_mul ..
 have y:∀ D E,(callFunc (ρ.f 29) #[.slice (some ⟨vb,voff,none⟩) m vc,.slice (some ⟨b,off+(i*sz+m*sz),none⟩) D E]).run P w = .ok (.value (.bool false)) w:=fun D E =>
  L.ov _ _ _ (US w (ρ.t 24) (ρ.t 4) (ρ.t 9) L.t24 sz L.z9 ⟨vb,voff,none⟩ ⟨b,off+(i*sz+m*sz),none⟩ m vc D E hvb tA tB kA kB hsa hsb hkA hkB hfb rfl)
 have F:(cs.drop (i*sz)).length=n*sz-i*sz:=by rw [List.length_drop,hcl]
 have g:∀ l o J,(Builtin.copy_ #[(ρ.t 24),(ρ.t 24)] l #[.slice (some ⟨b,off+(i*sz+m*sz),none⟩) (n+m-(i+m)) o,.slice (some ⟨b,off+i*sz,none⟩) (n+m-i) J]).run P w.drew = .ok (goInt ((n-i:Nat):Int)) (w.drew.setCells b (off+(i*sz+m*sz)) (cs.drop (i*sz))):=fun l o J=>by
  have a:Nat.min (n+m-i) (n+m-(i+m))=n-i:=by simp only [Nat.min_def];split<;>omega
  have:=NG (P:=P) w.drew (ρ.t 24) (ρ.t 24) l (ρ.t 9) b (off+(i*sz+m*sz)) (n+m-(i+m)) o ⟨b,off+i*sz,none⟩ (n+m-i) J (cs.drop (i*sz)) L.t24 q (by rw [F,a,u])
   (fun j v d=>by rw [Addr.add_lit,Nat.add_assoc];exact hcs (i*sz+j) v (by rwa [List.getElem?_drop] at d))
   (fun j d=>by rw [Nat.add_assoc];exact hsp _ (by omega)) (fun j d=>by rw [Nat.add_assoc];exact hfz _ (by omega)) (fun v hv=>h1c v (List.mem_of_mem_drop hv))
  rwa [a] at this
 obtain ⟨W1,hW1⟩:∃ W1,W1=w.drew.setCells b (off+(i*sz+m*sz)) (cs.drop (i*sz)):=⟨_,rfl⟩
 have s:∀ k,k<n*sz+m*sz→(W1.cell? ⟨b,off+k,none⟩).isSome=true:=fun k Q=>by
  rw [hW1]
  exact isSome_setCells b _ _ _ (fun j d=>by rw [Nat.add_assoc];exact hsp _ (by omega)) _ (hsp k Q)
 have p:∀ (W:World),(∀ x,W.cell? x=W1.cell? x)→(∀ x,W.frozen? x=W1.frozen? x)→∀ l o,(Builtin.copy_ #[(ρ.t 24),(ρ.t 24)] l #[.slice (some ⟨b,off+i*sz,none⟩) (n+m-i) o,.slice (some ⟨vb,voff,none⟩) m vc]).run P W = .ok (goInt m) (W.setCells b (off+i*sz) vs):=fun W r G l o=>by
  have a:Nat.min m (n+m-i)=m:=by simp only [Nat.min_def];split<;>omega
  have:=NG (P:=P) W (ρ.t 24) (ρ.t 24) l (ρ.t 9) b (off+i*sz) (n+m-i) o ⟨vb,voff,none⟩ m vc vs L.t24 q (by rw [hvl,a])
   (fun j v d=>by
    rw [Addr.add_lit,r,hW1,World.cell?_setCells_out b _ _ _ _ (fun h _=>absurd h hvb)]
    exact hvs j v d)
   (fun j d=>by rw [r,Nat.add_assoc];exact s _ (by omega)) (fun j d=>by rw [G,hW1,World.frozen?_setCells,Nat.add_assoc];exact hfz _ (by omega)) h1v
  rwa [a] at this
 rw [←hW1] at g
 have O:=L.f22
 go_enter O,Body2.n22_ntmps ρ
 go_wp2_with (simp only [y])
 go_region_law_o (refine step_copy_runI rfl _ _ (ρ.t 24) (ρ.t 24) rfl _ _ (by simp [Act.eval,Act.put]) (by simp [Act.eval,Act.put]) (g _ _ _) ?_)
 go_wp2_with (at_builtin;refine wpList_copy_runI _ rfl _ _ (ρ.t 24) (ρ.t 24) rfl _ _ rfl rfl (p _ (fun _=>rfl) (fun _=>rfl) _ _) ?_)
 go_ret
 first | exact ⟨rfl,rfl⟩ | exact ⟨rfl,by rw [hW1]⟩
theorem Zgr (L:InsLay P ρ nm sz bytes z) (hzc:z.cells.size=sz) (h0:0<sz) (b off n c i vb voff m vc:Nat) (cs vs:List Value) (w:World) (hi:i<n) (hm:0<m) (hnc:n≤c) (hroom:c<n+m) (hbig:(n+m)*bytes≤140737488355328) (hbig2:n+m≤4611686018427387904)
  (hcl:cs.length=n*sz) (hvl:vs.length=m*sz)
  (hcs:∀ j v,cs[j]? = some v→w.cell? ⟨b,off+j,none⟩=some v)
  (hvs:∀ j v,vs[j]? = some v→w.cell? ⟨vb,voff+j,none⟩=some v) (h1c:∀ v∈cs,v.oneCell'=true) (h1v:∀ v∈vs,v.oneCell'=true) :
  Calls P (ρ.f 22) #[.slice (some ⟨b,off,none⟩) n c,.int .i64 i,.slice (some ⟨vb,voff,none⟩) m vc] w fun e w' =>
   e = .returned (.slice (some ⟨w.heap.size,0,none⟩) (n+m) (grownCap w (n+m) c (ρ.t 9))) ∧
   w'=(((w.alloc (.cells ((cs.take (i*sz)).toArray++Builtin.zeroCells z.cells (n+m-i)++Builtin.zeroCells z.cells (grownCap w (n+m) c (ρ.t 9)-(n+m))) (ρ.t 9))).drew.setCells w.heap.size (i*sz) vs).drew).setCells w.heap.size (i*sz+m*sz) (cs.drop (i*sz)):=by
 have t0:=L.t0;have a0:=L.a0;have z0:=L.z0;have v0:=L.v0;have t3:=L.t3;have a3:=L.a3;have z3:=L.z3;have v3:=L.v3;have t4:=L.t4;have a4:=L.a4;have z4:=L.z4;have v4:=L.v4;have z9:=L.z9;have bb:=L.t24;have bc:=L.a24;have a5:=L.z24;have ax:=L.v24
 have u0:=run_underlying L.t0;have u3:=run_underlying L.t3;have u4:=run_underlying L.t4;have ba:=run_underlying L.t24
 have ag:=L.mixed
 obtain ⟨N,K,ae,H,F⟩:=info_parts L.i9
 have a2:¬ ((m:Int)=0):=by omega
 have a8:¬ ((i:Int)=(n:Int)):=by omega
 have ar:(c:Int)<(n:Int)+(m:Int):=by omega
 have E:(P.info? (ρ.t 9)).map (·.size)=some sz:=by rw [K];simp [H]
 have y:(i+m)*sz=i*sz+m*sz:=Nat.add_mul ..
 have au:i*sz≤n*sz:=Nat.mul_le_mul_right _ (by omega)
 have ap:0<m*sz:=Nat.mul_pos hm h0
 have J:(n-i)*sz=n*sz-i*sz:=Nat.sub_mul ..
 have aa:(n+m)*sz=n*sz+m*sz:=Nat.add_mul ..
 have aq:0<n*sz:=Nat.mul_pos (by omega) h0
 have aj:b<w.heap.size:=block_lt_of_cell (hcs 0 _ (List.getElem?_eq_getElem (by omega)))
 have ai:vb<w.heap.size:=block_lt_of_cell (hvs 0 _ (List.getElem?_eq_getElem (by omega)))
 have C:(n:Int)+(m:Int)-(i:Int)=((n+m-i:Nat):Int):=by omega
 have s:i+(n+m-i)=n+m:=by omega
 have o:(Builtin.firstCells N.size i (.slice (some ⟨b,off,none⟩) i c)).run P w.drew = .ok (cs.take (i*sz)).toArray w.drew:=by
  rw [H]
  exact run_firstCells_some w.drew sz i ⟨b,off,none⟩ i c (cs.take (i*sz)) (by rw [List.length_take];omega) (fun j v hj=>by
   rw [Addr.add_lit]
   rw [List.getElem?_take] at hj
   split at hj
   ·exact hcs j v hj
   ·cases hj)
 have p:n+m≤maxLen:=by unfold maxLen;omega
 have l:∀ d,(Builtin.append_ #[(ρ.t 24),(ρ.t 3)] d #[.slice (some ⟨b,off,none⟩) i c,.int .i64 ((n:Int)+(m:Int)-(i:Int))]).run P w =
   .ok (.slice (some ⟨w.heap.size,0,none⟩) (n+m) (grownCap w (n+m) c (ρ.t 9))) (w.drew.alloc (.cells ((cs.take (i*sz)).toArray++Builtin.zeroCells z.cells (n+m-i)++Builtin.zeroCells z.cells (grownCap w (n+m) c (ρ.t 9)-(n+m))) (ρ.t 9))):=fun d=>by
  have V:(n+m-i)*N.bytes≤(n+m)*N.bytes:=Nat.mul_le_mul_right _ (by omega)
  have h:=Lib.run_append_grow_zeros w (ρ.t 24) (ρ.t 3) d (ρ.t 9) N _ .i64 .i64 L.t24 L.t3 K ae (some ⟨b,off,none⟩) i c (cs.take (i*sz)) o (n+m-i) (by omega) (by omega) (by omega) (by omega) (by rw [F] at V ⊢; omega) (by rw [F,s];exact growslice_fits hroom hbig)
  rw [s] at h
  rw [C]
  exact h
 obtain ⟨G,hG⟩:∃ G,G=grownCap w (n+m) c (ρ.t 9):=⟨_,rfl⟩
 have a1:n+m≤G:=by rw [hG];exact grownCap_ge w _ _ _
 have am:G≤9223372036854775807:=by
  have:=grownCap_le_maxLen w (n+m) c (ρ.t 9) p
  rw [←hG] at this
  unfold maxLen at this
  omega
 obtain ⟨ROW,hROW⟩:∃ ROW:Array Value,ROW=(cs.take (i*sz)).toArray++Builtin.zeroCells z.cells (n+m-i)++Builtin.zeroCells z.cells (G-(n+m)):=⟨_,rfl⟩
 rw [←hG] at l ⊢
 rw [←hROW] at l ⊢
 have Z:n*sz+m*sz≤ROW.size:=by
  have e1:(n+m-i)*sz=n*sz+m*sz-i*sz:=by rw [Nat.sub_mul,aa]
  rw [hROW]
  simp only [Array.size_append,List.size_toArray,List.length_take,size_zeroCells,hzc]
  omega
 obtain ⟨W1,hW1⟩:∃ W1,W1=w.drew.alloc (.cells ROW (ρ.t 9)):=⟨_,rfl⟩
 rw [←hW1] at l
 have U:∀ j,j<n*sz+m*sz→(W1.cell? ⟨w.heap.size,j,none⟩).isSome=true:=fun j hj=>by
  rw [hW1,World.cell?_alloc_at (w:=w.drew) ROW _ w.heap.size j rfl,Array.getElem?_eq_getElem (by omega)];rfl
 have D:∀ j,W1.frozen? ⟨w.heap.size,j,none⟩=false:=fun j=>by rw [hW1];exact World.frozen?_alloc_at (w:=w.drew) ROW _ w.heap.size j rfl
 have Y:∀ j v,w.cell? ⟨b,j,none⟩=some v→W1.cell? ⟨b,j,none⟩=some v:=fun j v h=>by rw [hW1,World.cell?_alloc_past (w:=w.drew) _ b j aj];exact h
 have ab:∀ j v,w.cell? ⟨vb,j,none⟩=some v→W1.cell? ⟨vb,j,none⟩=some v:=fun j v h=>by rw [hW1,World.cell?_alloc_past (w:=w.drew) _ vb j ai];exact h
 have u:∀ (W:World),(∀ x,W.cell? x=W1.cell? x)→(∀ x,W.frozen? x=W1.frozen? x)→∀ d q,(Builtin.copy_ #[(ρ.t 24),(ρ.t 24)] d #[.slice (some ⟨w.heap.size,i*sz,none⟩) (n+m-i) q,.slice (some ⟨vb,voff,none⟩) m vc]).run P W = .ok (goInt m) (W.setCells w.heap.size (i*sz) vs):=fun W g r d q=>by
  have a:Nat.min m (n+m-i)=m:=by simp only [Nat.min_def];split<;>omega
  have:=NG (P:=P) W (ρ.t 24) (ρ.t 24) d (ρ.t 9) w.heap.size (i*sz) (n+m-i) q ⟨vb,voff,none⟩ m vc vs L.t24 E (by rw [hvl,a])
   (fun j v hj=>by rw [Addr.add_lit,g];exact ab _ v (hvs j v hj))
   (fun j hj=>by rw [g];exact U _ (by omega)) (fun j hj=>by rw [r];exact D _) h1v
  rwa [a] at this
 have az:¬ (G=i):=by omega
 have ao:¬ (G=i+m):=by omega
 have a7:¬ (c=i):=by omega
 have ah:b≠w.heap.size:=by omega
 have ad:(cs.drop (i*sz)).length=n*sz-i*sz:=by rw [List.length_drop,hcl]
 have k:∀ (W:World),(∀ x,W.cell? x=(W1.setCells w.heap.size (i*sz) vs).cell? x)→(∀ x,W.frozen? x=(W1.setCells w.heap.size (i*sz) vs).frozen? x)→∀ d q sc,(Builtin.copy_ #[(ρ.t 24),(ρ.t 24)] d #[.slice (some ⟨w.heap.size,i*sz+m*sz,none⟩) (n+m-(i+m)) q,.slice (some ⟨b,off+i*sz,none⟩) (n-i) sc]).run P W = .ok (goInt ((n-i:Nat):Int)) (W.setCells w.heap.size (i*sz+m*sz) (cs.drop (i*sz))):=fun W g r d q sc=>by
  have a:Nat.min (n-i) (n+m-(i+m))=n-i:=by simp only [Nat.min_def];split<;>omega
  have:=NG (P:=P) W (ρ.t 24) (ρ.t 24) d (ρ.t 9) w.heap.size (i*sz+m*sz) (n+m-(i+m)) q ⟨b,off+i*sz,none⟩ (n-i) sc (cs.drop (i*sz)) L.t24 E (by rw [ad,a,J])
   (fun j v hj=>by
    rw [Addr.add_lit,g,World.cell?_setCells_out _ _ _ _ _ (fun h _=>absurd h ah),Nat.add_assoc]
    exact Y _ v (hcs (i*sz+j) v (by rwa [List.getElem?_drop] at hj)))
   (fun j hj=>by rw [g];exact isSome_setCells _ _ _ _ (fun t ht=>U _ (by omega)) _ (U _ (by omega)))
   (fun j hj=>by rw [r,World.frozen?_setCells];exact D _) (fun v hv=>h1c v (List.mem_of_mem_drop hv))
  rwa [a] at this
 subst hW1
 have O:∀ x,((w.alloc (.cells ROW (ρ.t 9))).drew).cell? x=(w.drew.alloc (.cells ROW (ρ.t 9))).cell? x:=fun x=>rfl
 have af:∀ x,((w.alloc (.cells ROW (ρ.t 9))).drew).frozen? x=(w.drew.alloc (.cells ROW (ρ.t 9))).frozen? x:=fun x=>rfl
 have ak:∀ x,(((w.alloc (.cells ROW (ρ.t 9))).drew.setCells w.heap.size (i*sz) vs).drew).cell? x=((w.drew.alloc (.cells ROW (ρ.t 9))).setCells w.heap.size (i*sz) vs).cell? x:=fun x=>rfl
 have Q:∀ x,(((w.alloc (.cells ROW (ρ.t 9))).drew.setCells w.heap.size (i*sz) vs).drew).frozen? x=((w.drew.alloc (.cells ROW (ρ.t 9))).setCells w.heap.size (i*sz) vs).frozen? x:=fun x=>rfl
 have a6:IntKind.i64.wrap ((i:Int)+(m:Int))=(i:Int)+(m:Int):=by rw [IntKind.wrap_i64];omega
 have ay:(0:Int)≤(i:Int)+(m:Int):=by omega
 have av:i≤n:=by omega
 have a9:((i:Int)+(m:Int)).toNat=i+m:=by omega
 have aw:(i:Int)≤(n:Int):=by omega
 clear C s o hROW hG Z
 have FG:=L.f22
 rw [←y] at k ⊢
 go_enter FG,Body2.n22_ntmps ρ
 go_wp2_with (first
  | (at_builtin;refine Lib.wpList_append_run _ rfl _ _ _ _ rfl _ _ rfl rfl _ _ (l _) ?_)
  | (at_builtin;refine wpList_copy_runI _ rfl _ _ (ρ.t 24) (ρ.t 24) rfl _ _ rfl rfl (u _ O af _ _) ?_)
  | (at_builtin;refine wpList_copy_runI _ rfl _ _ (ρ.t 24) (ρ.t 24) rfl _ _ rfl rfl (k _ (fun _=>rfl) (fun _=>rfl) _ _ _) ?_))
 go_region_law_o (refine step_copy_runI rfl _ _ (ρ.t 24) (ρ.t 24) rfl (.slice (some ⟨w.heap.size,(i+m)*sz,none⟩) (n+m-(i+m)) (G-(i+m))) (.slice (some ⟨b,off+i*sz,none⟩) (n-i) (c-i)) (by simp [Act.eval,Act.put]) (by simp [Act.eval,Act.put]) (k _ ak Q (ρ.t 3) (G-(i+m)) (c-i)) ?_)
 go_wp2
 go_ret
 exact ⟨rfl,by rw [y]⟩
theorem ZiZ (L:InsLay P ρ nm sz bytes z) (base:Option Addr) (n c:Nat) (va:Addr) (m vc:Nat) (w w1:World) (r:Value) (hm:0<m) (hnc:n≤c) (hbase:base=none→n=0)
  (hrun:∀ ty,(Builtin.append_ #[(ρ.t 24),(ρ.t 24)] ty #[.slice base n c,.slice (some va) m vc]).run P w = .ok r w1) :
  Calls P (ρ.f 22) #[.slice base n c,.int .i64 n,.slice (some va) m vc] w fun e w'=>e = .returned r∧w'=w1:=by
 have u:=L.t0;have a0:=L.a0;have K:=L.z0;have v:=L.v0;have G:=L.t3;have a3:=L.a3;have s:=L.z3;have E:=L.v3;have x:=L.t4;have a4:=L.a4;have y:=L.z4;have J:=L.v4;have q:=L.z9;have l:=L.t24;have o:=L.a24;have j:=L.z24;have h:=L.v24
 have C:=run_underlying L.t0;have F:=run_underlying L.t3;have H:=run_underlying L.t4;have k:=run_underlying L.t24
 have b:=L.mixed
 have i:¬ ((m:Int)=0):=by omega
 have d:=L.f22
 go_enter d,Body2.n22_ntmps ρ
 cases base with
 | none =>
  have h0:=hbase rfl
  subst h0
  go_wp2_with (at_builtin;refine Lib.wpList_append_run _ rfl _ _ _ _ rfl _ _ rfl rfl _ _ (hrun _) ?_)
  go_ret
  exact ⟨rfl,rfl⟩
 | some a =>
  obtain ⟨p,D,g⟩:=a
  go_wp2_with (at_builtin;refine Lib.wpList_append_run _ rfl _ _ _ _ rfl _ _ rfl rfl _ _ (hrun _) ?_)
  all_goals (go_ret;exact ⟨rfl,rfl⟩)
end
end Go.Ev
