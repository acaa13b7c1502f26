/-
  Part 9 of the proof: rules and walks that the claim's last text uses.
-/
import Derived.Test.YtcpmjgdlioggjaaGreatDoorKb1
import Derived.Test.YtcpmjgdlioggjaaGreatDoorKb2
import Derived.Test.YtcpmjgdlioggjaaGreatDoorKb3
import Derived.Test.YtcpmjgdlioggjaaGreatDoorKb4
import Derived.Test.YtcpmjgdlioggjaaGreatDoorKb5
import Derived.Test.YtcpmjgdlioggjaaGreatDoorKb6
import Derived.Test.YtcpmjgdlioggjaaGreatDoorKb7
import Derived.Test.YtcpmjgdlioggjaaGreatDoorKb8
set_option linter.unusedSimpArgs false
set_option linter.unusedVariables false
set_option maxRecDepth 100000
set_option maxHeartbeats 4000000
namespace Go.Proofs.YtcpmjgdlioggjaaGreatDoor
open Go Go.RowKit Go.Ev
structure Chk where
 items:List Msg
 values:Int
def V7 (x:Int × ByteArray × Bool):AV := .agg [Ag x.1,.val (.string x.2.1),.val (.bool x.2.2)]
@[go_sem] theorem ZeT (x:Int × ByteArray × Bool):V7 x = .agg [Ag x.1,.val (.string x.2.1),.val (.bool x.2.2)]:=rfl
@[go_sem] theorem Zhj (l:List (Int × ByteArray × Bool)):(∀ y∈l.map V7,y.cells.length=3)<->True:=iff_true_intro fun y a=>by
 obtain ⟨x,_,rfl⟩:=List.mem_map.1 a
 simp +decide only [go_sem]
@[go_sem] theorem Zkn (l:List (Int × ByteArray × Bool)):(∀ y∈l.map V7,y.cells.length=3/\A9 y=true)<->True:=iff_true_intro fun y a=>by
 obtain ⟨x,_,rfl⟩:=List.mem_map.1 a
 simp +decide only [go_sem]
@[go_sem] theorem Zgp (nb nr nl:Nat) (l:List (Int × ByteArray × Bool)):(∀ y∈l.map V7,Under nb nr nl y)<->True:=iff_true_intro fun y a=>by
 obtain ⟨x,_,rfl⟩:=List.mem_map.1 a
 simp only [ZeT,Db,List.mem_cons,List.mem_append,List.not_mem_nil,or_false,forall_eq_or_imp,or_imp,forall_and,forall_eq,DX,true_and,and_true,Vl.under_mem0 nb nr nl,Ty.under_mem0 nb nr nl];all_goals simp +decide only [go_sem]
@[go_sem] theorem Zjv (l:List (Int × ByteArray × Bool)):(l.map V7).map AV.pub=l.map V7:=by
 rw [List.map_map]
 refine List.map_congr_left fun x _=>?_
 simp +decide only [Function.comp,go_sem]
def I5 (g:Int) (b:Slt):Option Bool :=
 if B1 (2*g) then
  if B1 ((2*g)-2) then
   if B1 (g-1) then
    if (((!(decide ((b.items.length:Int)=1)))||(decide (b.number<0)))||(decide (((2*g)-2)<b.number)))||((!(decide (b.time=0)))&&(decide ((g-1)<=b.number))) then
     Av
    else
     if decide (b.number<g) then
      if B1 (2*b.number) then
       if B1 ((2*b.number)+1) then
        some (!(decide ((b.values.length:Int)=((2*b.number)+1))))
       else none
      else none
     else
      Av
   else none
  else none
 else none
theorem OH (w0:World) (B:Aj) (Rw:Am) (L:An) (a0:Int) (a1:Slt) (r:Bool) (h:I5 a0 a1=some r) :
  ACalls Tryz.prog w0 51 [Ag a0,.agg (Ll a1)] ⟨B,Rw,L⟩ fun x st=>x = .val (.bool r)/\st=⟨B,Rw,L⟩:=by
 rw [I5] at h
 refine hd [.tmp 4] Tryz.func51 Tryz.ntmps51 fun M0 W0 m j k a n i hs=>?_
 simp only [As]
 refine rg [0,3] hs ?_
 refine rg [0,3,5] hs ?_
 apply Ah;intro K3 b
 obtain ⟨f,h⟩:=Ak h
 obtain ⟨l,h⟩:=Ak h
 obtain ⟨g,h⟩:=Ak h
 refine rg [0,3,5,34] hs ?_
 refine BA h hs ?_ ?_<;>intro hs h
 ·exact nS h
 refine sk [0,3,5] hs b ?_
 clear b
 refine rg [0,5,6] hs ?_
 apply Ah;intro K10 d
 refine rg [0,5,6,40] hs ?_
 refine BA h hs ?_ ?_<;>intro hs h
 ·obtain ⟨c,h⟩:=Ak h
  obtain ⟨e,h⟩:=Ak h
  refine rg [4] hs ?_
  exact rt h hs a i
 exact nS h
def Jt (n:Nat) (b:Vl):Option Int :=
 if CS b then
  Av
 else
  if !(decide (b.kind=9)) then
   Av
  else
   (HL n b).bind fun g =>
   some (g)
theorem RA (w0:World) (hT:Lib.Utf8Tabs 1 2 w0) (n:Nat) (B:Aj) (Rw:Am) (L:An) (a0:Vl) (r:Int) (h:Jt n a0=some r) :
  ACalls Tryz.prog w0 178 [.agg (a0.cs)] ⟨B,Rw,L⟩ fun x st=>x=Ag r/\st=⟨B,Rw,L⟩:=by
 rw [Jt] at h
 refine hd [.tmp 2] Tryz.func178 Tryz.ntmps178 fun M0 W0 f c d b g e hs=>?_
 simp only [As]
 exact go (tg (a:=([1],[1,3],((),()),[1,6],((),()),[1],[2],()))) h hs f c d b e (q2 (Dj w0) (JR w0 hT n)) trivial
def Gw (b:Int):Bool :=
 (decide (1<=b))&&(decide (b<=1048576))
theorem QZ (w0:World) (B:Aj) (Rw:Am) (L:An) (a0:Int) (r:Bool) (h:Gw a0=r) :
  ACalls Tryz.prog w0 177 [Ag a0] ⟨B,Rw,L⟩ fun x st=>x = .val (.bool r)/\st=⟨B,Rw,L⟩:=by
 rw [Gw] at h
 refine hd [.tmp 2] Tryz.func177 Tryz.ntmps177 fun M0 W0 e c d a f b hs=>?_
 simp only [As]
 refine rg [0] hs ?_
 refine rg [2] hs ?_
 exact rT h hs a b
theorem PK (w0:World) (B:Aj) (Rw:Am) (L:An) (a0:Int) :
  ACalls Tryz.prog w0 177 [Ag a0] ⟨B,Rw,L⟩ fun x st=>x = .val (.bool (Gw a0))/\st=⟨B,Rw,L⟩:=QZ w0 B Rw L a0 _ rfl
def Gs (b:Int):Bool :=
 (decide (b<0))||(decide (1099511627776<b))
theorem Qr (w0:World) (B:Aj) (Rw:Am) (L:An) (a0:Int) (r:Bool) (h:Gs a0=r) :
  ACalls Tryz.prog w0 176 [Ag a0] ⟨B,Rw,L⟩ fun x st=>x = .val (.bool r)/\st=⟨B,Rw,L⟩:=by
 rw [Gs] at h
 refine hd [.tmp 2] Tryz.func176 Tryz.ntmps176 fun M0 W0 e c d a f b hs=>?_
 simp only [As]
 refine rg [0] hs ?_
 refine rg [2] hs ?_
 exact rT h hs a b
theorem P5 (w0:World) (B:Aj) (Rw:Am) (L:An) (a0:Int) :
  ACalls Tryz.prog w0 176 [Ag a0] ⟨B,Rw,L⟩ fun x st=>x = .val (.bool (Gs a0))/\st=⟨B,Rw,L⟩:=Qr w0 B Rw L a0 _ rfl
def Gi (n:Nat)  : Option Int :=
 some ((-1))
def Eo (n:Nat) (q:List Int) (y:Int->Option Bool):Nat->Int->Option Int
 | 0,_=>none
 | m+1,b =>
  if decide (b<(q.length:Int)) then
   (D1 q b).bind fun g =>
   (y g).bind fun h =>
   if h then
    Av
   else
    if B1 (b+1) then
     (Eo n q y m) (b+1)
    else none
  else
   Gi n 
def GH (n:Nat) (g:List Int) (b:Int->Option Bool):Option Int :=
 Eo n g b n 0
theorem OC (w0:World) (n:Nat) (B:Aj) (Rw:Am) (L:An) (a0:List Int) (fa1:FuncId) (ca1:List AV) (a1:Int->Option Bool) (ha1:∀ (x0:Int) r,a1 x0=some r->∀ B' rows,B <+: B'->Rw <+: rows->ACalls Tryz.prog w0 fa1 ([Ag x0]++ca1) ⟨B',rows,L⟩ fun v s=>v = .val (.bool r)/\s=⟨B',rows,L⟩) (r:Int) (h:GH n a0 a1=some r) :
  ACalls Tryz.prog w0 262 [.list (a0.map CE) .none,.clo fa1 ca1] ⟨B,Rw,L⟩ fun x st=>x=Ag r/\st=⟨B,Rw,L⟩:=by
 rw [GH] at h
 refine hd [.tmp 4] Tryz.func262 Tryz.ntmps262 fun M0 W0 k g i c l f hs=>?_
 simp only [As]
 have b:=BJ (l (.clo fa1 ca1) (by simp))
 refine rg [0,1] hs ?_
 refine AO (fun e st=>Ck e st B Rw L [] [] [] (Gi n  = some r)) ?_ ?_
 ·intro K4 j
  refine rg [0,1,7,8] hs ?_
  apply Ao
  refine AB (fun m e st=>∃ (d:Int),Ck e st B Rw L [(0,true,.list (a0.map CE) .none),(1,true,.clo fa1 ca1),(7,true,Ag (a0.length:Int)),(8,true,Ag d)] [] [] (Eo n a0 a1 m d=some r)) n ⟨0,([]),Rw,ef hs,ef hs,f,h⟩ ?_
  rintro ml6 e st ⟨d,Xl6,Rl6,rfl,rfl,f,h⟩ Ul6 Vl6
  cases ml6 with
  | zero=>cases h
  | succ ml6 =>
  rw [Eo] at h
  refine A8 k g i rfl c f (Hv b f) (Hv b f) ?_
  exact go (tg (a:=([0,1,7,8,9],([0,1,7,8],[0,1,5,7,8],[0,1,5,7,8,16],((),()),[0,1,7,8],[0,1,7,8],()),[],()))) h hs k g i c f (q1 ha1) (q2 j (fun e s=>Vl6 ml6 e s (Nat.lt_succ_self _)))
 ·clear h;rintro e st ⟨Xk3,Rk3,rfl,rfl,f,h⟩
  rw [Gi] at h
  refine A8 k g i rfl c f (Hv b f) (Hv b f) ?_
  refine rg [4] hs ?_
  exact rt h hs c f
def Fj (n:Nat) (g:List Int) (b:Int->Option Bool):Option Bool :=
 (GH n g b).bind fun h =>
 some (decide (0<=h))
theorem LP (w0:World) (n:Nat) (B:Aj) (Rw:Am) (L:An) (a0:List Int) (fa1:FuncId) (ca1:List AV) (a1:Int->Option Bool) (ha1:∀ (x0:Int) r,a1 x0=some r->∀ B' rows,B <+: B'->Rw <+: rows->ACalls Tryz.prog w0 fa1 ([Ag x0]++ca1) ⟨B',rows,L⟩ fun v s=>v = .val (.bool r)/\s=⟨B',rows,L⟩) (r:Bool) (h:Fj n a0 a1=some r) :
  ACalls Tryz.prog w0 217 [.list (a0.map CE) .none,.clo fa1 ca1] ⟨B,Rw,L⟩ fun x st=>x = .val (.bool r)/\st=⟨B,Rw,L⟩:=by
 rw [Fj] at h
 refine hd [.tmp 4] Tryz.func217 Tryz.ntmps217 fun M0 W0 m i k b j g hs=>?_
 simp only [As]
 have f:=BJ (j (.clo fa1 ca1) (by simp))
 refine rg [0,1] hs ?_
 obtain ⟨o,e,h⟩:=bind_some h
 refine rc 2 [4] hs ?_;intro K2 c
 refine Aq _ (OC w0 n _ _ _ a0 fa1 ca1 a1 (fun x0 r l d a q1 q2=>ha1 x0 r l d a (List.IsPrefix.trans px q1) (g.pre.trans q2)) _ e) (hv hs) ?_
 refine ne hs c ?_
 clear c
 exact rt h hs b g
def E6 (b:Int):Bool :=
 (decide (b<0))||(decide (65535<b))
theorem Qw (w0:World) (B:Aj) (Rw:Am) (L:An) (a0:Int) (r:Bool) (h:E6 a0=r) :
  ACalls Tryz.prog w0 218 [Ag a0] ⟨B,Rw,L⟩ fun x st=>x = .val (.bool r)/\st=⟨B,Rw,L⟩:=by
 rw [E6] at h
 refine hd [.tmp 2] Tryz.func218 Tryz.ntmps218 fun M0 W0 e c d a f b hs=>?_
 simp only [As]
 refine rg [0] hs ?_
 refine rg [2] hs ?_
 exact rT h hs a b
theorem Qd (w0:World) (B:Aj) (Rw:Am) (L:An) (a0:Int) :
  ACalls Tryz.prog w0 218 [Ag a0] ⟨B,Rw,L⟩ fun x st=>x = .val (.bool (E6 a0))/\st=⟨B,Rw,L⟩:=Qw w0 B Rw L a0 _ rfl
def KU (n:Nat) (b:Int × List Int):Option Int :=
 if (decide (b.1<1))||(decide (1048576<b.1)) then
  Av
 else
  if decide ((b.2.length:Int)=0) then
   Av
  else
   if decide (512<(b.2.length:Int)) then
    Av
   else
    (Fj n b.2 (fun (q:Int)=>some (E6 q))).bind fun h =>
    if h then
     Av
    else
     (D1 b.2 0).bind fun g =>
     if decide (1<g) then
      Av
     else
      if decide (g=1) then
       some (0)
      else
       Av
theorem SZ (w0:World) (n:Nat) (B:Aj) (Rw:Am) (L:An) (a0:Int × List Int) (r:Int) (h:KU n a0=some r) :
  ACalls Tryz.prog w0 175 [.agg (Ag a0.1::([.list (a0.2.map CE) .none]))] ⟨B,Rw,L⟩ fun x st=>x=Ag r/\st=⟨B,Rw,L⟩:=by
 rw [KU] at h
 refine hd [.tmp 2] Tryz.func175 Tryz.ntmps175 fun M0 W0 j d e b o i hs=>?_
 simp only [As]
 refine rg [1] hs ?_
 apply Ah;intro K2 k
 apply Ao
 refine rg [1,3] hs ?_
 refine BA h hs ?_ ?_<;>intro hs h
 ·exact nS h
 refine rg [1,12] hs ?_
 refine BA h hs ?_ ?_<;>intro hs h
 ·exact nS h
 refine rg [1,17] hs ?_
 refine BA h hs ?_ ?_<;>intro hs h
 ·exact nS h
 obtain ⟨g,hy10,h⟩:=bind_some h
 refine rc 2 [1,22] hs ?_;intro K9 c
 refine Aq _ (LP w0 n _ _ _ a0.2 218 [] (fun (x0:Int)=>some (E6 x0)) (fun x0 r hx m rows' l f=>by cases hx;exact Qd w0 _ _ _ x0) _ hy10) (hv hs) ?_
 exact go (tg (a:=(((),()),[1,26],((),()),[1,32],([2],()),((),())))) h hs j d e b i trivial (q1 c)
def G8 (n:Nat) (g:Msg):Option Int :=
 (Jt n g.body).bind fun b =>
 some (b)
def Ft (n:Nat) (g:Msg):Nat->Int->Option Int
 | 0,_=>none
 | m+1,b =>
  if decide (b<(g.origins.length:Int)) then
   (D1 g.origins b).bind fun h =>
   if !(Gw h) then
    Av
   else
    if decide (0<b) then
     Av
    else
     if B1 (b+1) then
      (Ft n g m) (b+1)
     else none
  else
   G8 n g 
def IX (n:Nat) (b:Msg):Option Int :=
 (KU n b.stamp).bind fun g =>
 if !(decide (g=0)) then
  Av
 else
  if Gs b.mass then
   Av
  else
   if decide ((b.origins.length:Int)=0) then
    Av
   else
    if decide (4096<(b.origins.length:Int)) then
     Av
    else
     Ft n b n 0
theorem Qq (w0:World) (hT:Lib.Utf8Tabs 1 2 w0) (n:Nat) (B:Aj) (Rw:Am) (L:An) (a0:Msg) (r:Int) (h:IX n a0=some r) :
  ACalls Tryz.prog w0 124 [.agg (T8 a0)] ⟨B,Rw,L⟩ fun x st=>x=Ag r/\st=⟨B,Rw,L⟩:=by
 rw [IX] at h
 refine hd [.tmp 2] Tryz.func124 Tryz.ntmps124 fun M0 W0 q i l c t g hs=>?_
 simp only [As]
 refine rg [1] hs ?_
 apply Ah;intro K2 o
 obtain ⟨u,p,h⟩:=bind_some h
 refine rc 2 [1,3] hs ?_;intro K3 k
 refine Aq _ (SZ w0 n _ _ _ a0.stamp _ p) (hv hs) ?_
 refine ne hs k ?_
 clear k
 refine rg [1,3,10] hs ?_
 refine BA h hs ?_ ?_<;>intro hs h
 ·exact nS h
 refine sk [1] hs o ?_
 clear o
 apply Ah;intro K7 j
 apply Ao
 refine rc 2 [1,12] hs ?_;intro K8 d
 refine Aq _ (P5 w0 _ _ _ a0.mass) (hv hs) ?_
 refine ne hs d ?_
 clear d
 refine BA h hs ?_ ?_<;>intro hs h
 ·exact nS h
 refine rg [1,16] hs ?_
 refine BA h hs ?_ ?_<;>intro hs h
 ·exact nS h
 refine rg [1,21] hs ?_
 refine BA h hs ?_ ?_<;>intro hs h
 ·exact nS h
 refine sk [1] hs j ?_
 clear j
 refine AO (fun e st=>Ck e st B Rw L [(1,true,.box B.length 0)] [T8 a0] [] (G8 n a0  = some r)) ?_ ?_
 ·intro K16 f
  refine rg [1,27,28,29] hs ?_
  apply Ao
  refine AB (fun m e st=>∃ (b:Int),Ck e st B Rw L [(1,true,.box B.length 0),(27,true,.list (a0.origins.map CE) .none),(28,true,Ag (a0.origins.length:Int)),(29,true,Ag b)] [T8 a0] [] (Ft n a0 m b=some r)) n ⟨0,([]),Rw,ef hs,ef hs,g,h⟩ ?_
  rintro ml18 e st ⟨b,Xl18,Rl18,rfl,rfl,g,h⟩ Ul18 Vl18
  cases ml18 with
  | zero=>cases h
  | succ ml18 =>
  rw [Ft] at h
  exact go (tg (a:=([1,27,28,29,30],([1,27,28,29],[1,4,5,27,28,29],[1,4,5,27,28,29,34],((),()),((),()),[1,27,28,29,38],[1,27,28,29],[1,27,28,29],()),[1],()))) h hs q i l c g (q1 (PK w0)) (q2 f (fun e s=>Vl18 ml18 e s (Nat.lt_succ_self _)))
 ·clear h;rintro e st ⟨Xk15,Rk15,rfl,rfl,g,h⟩
  rw [G8] at h
  exact go (tg (a:=([2],()))) h hs q i l c g (q1 (RA w0 hT n)) trivial
def EJ (n:Nat)  : Option Int :=
 some ((-1))
def C7 (n:Nat) (q:List Msg) (y:Msg->Option Bool):Nat->Int->Option Int
 | 0,_=>none
 | m+1,b =>
  if decide (b<(q.length:Int)) then
   (D1 q b).bind fun g =>
   (y g).bind fun h =>
   if h then
    Av
   else
    if B1 (b+1) then
     (C7 n q y m) (b+1)
    else none
  else
   EJ n 
def ES (n:Nat) (g:List Msg) (b:Msg->Option Bool):Option Int :=
 C7 n g b n 0
theorem Lx (w0:World) (n:Nat) (B:Aj) (Rw:Am) (L:An) (a0:List Msg) (fa1:FuncId) (ca1:List AV) (a1:Msg->Option Bool) (ha1:∀ (x0:Msg) r,a1 x0=some r->∀ B' rows,B <+: B'->Rw <+: rows->ACalls Tryz.prog w0 fa1 ([.agg (T8 x0)]++ca1) ⟨B',rows,L⟩ fun v s=>v = .val (.bool r)/\s=⟨B',rows,L⟩) (r:Int) (h:ES n a0 a1=some r) :
  ACalls Tryz.prog w0 179 [.list (a0.map Cj) .none,.clo fa1 ca1] ⟨B,Rw,L⟩ fun x st=>x=Ag r/\st=⟨B,Rw,L⟩:=by
 rw [ES] at h
 refine hd [.tmp 4] Tryz.func179 Tryz.ntmps179 fun M0 W0 k g i c l f hs=>?_
 simp only [As]
 have b:=BJ (l (.clo fa1 ca1) (by simp))
 refine rg [0,1] hs ?_
 refine AO (fun e st=>Ck e st B Rw L [] [] [] (EJ n  = some r)) ?_ ?_
 ·intro K4 j
  refine rg [0,1,7,8] hs ?_
  apply Ao
  refine AB (fun m e st=>∃ (d:Int),Ck e st B Rw L [(0,true,.list (a0.map Cj) .none),(1,true,.clo fa1 ca1),(7,true,Ag (a0.length:Int)),(8,true,Ag d)] [] [] (C7 n a0 a1 m d=some r)) n ⟨0,([]),Rw,ef hs,ef hs,f,h⟩ ?_
  rintro ml6 e st ⟨d,Xl6,Rl6,rfl,rfl,f,h⟩ Ul6 Vl6
  cases ml6 with
  | zero=>cases h
  | succ ml6 =>
  rw [C7] at h
  refine A8 k g i rfl c f (Hv b f) (Hv b f) ?_
  exact go (tg (a:=([0,1,7,8,9],([0,1,7,8],[0,1,5,7,8],[0,1,5,7,8,16],((),()),[0,1,7,8],[0,1,7,8],()),[],()))) h hs k g i c f (q1 ha1) (q2 j (fun e s=>Vl6 ml6 e s (Nat.lt_succ_self _)))
 ·clear h;rintro e st ⟨Xk3,Rk3,rfl,rfl,f,h⟩
  rw [EJ] at h
  refine A8 k g i rfl c f (Hv b f) (Hv b f) ?_
  refine rg [4] hs ?_
  exact rt h hs c f
def DV (n:Nat) (g:List Msg) (b:Msg->Option Bool):Option Bool :=
 (ES n g b).bind fun h =>
 some (decide (0<=h))
theorem JM (w0:World) (n:Nat) (B:Aj) (Rw:Am) (L:An) (a0:List Msg) (fa1:FuncId) (ca1:List AV) (a1:Msg->Option Bool) (ha1:∀ (x0:Msg) r,a1 x0=some r->∀ B' rows,B <+: B'->Rw <+: rows->ACalls Tryz.prog w0 fa1 ([.agg (T8 x0)]++ca1) ⟨B',rows,L⟩ fun v s=>v = .val (.bool r)/\s=⟨B',rows,L⟩) (r:Bool) (h:DV n a0 a1=some r) :
  ACalls Tryz.prog w0 125 [.list (a0.map Cj) .none,.clo fa1 ca1] ⟨B,Rw,L⟩ fun x st=>x = .val (.bool r)/\st=⟨B,Rw,L⟩:=by
 rw [DV] at h
 refine hd [.tmp 4] Tryz.func125 Tryz.ntmps125 fun M0 W0 m i k b j g hs=>?_
 simp only [As]
 have f:=BJ (j (.clo fa1 ca1) (by simp))
 refine rg [0,1] hs ?_
 obtain ⟨o,e,h⟩:=bind_some h
 refine rc 2 [4] hs ?_;intro K2 c
 refine Aq _ (Lx w0 n _ _ _ a0 fa1 ca1 a1 (fun x0 r l d a q1 q2=>ha1 x0 r l d a (List.IsPrefix.trans px q1) (g.pre.trans q2)) _ e) (hv hs) ?_
 refine ne hs c ?_
 clear c
 exact rt h hs b g
def Dl (n:Nat) (g:Msg) (b:Msg):Option Bool :=
 (Ih n g.stamp b.stamp).bind fun h =>
 some (h)
theorem LE (w0:World) (n:Nat) (B:Aj) (Rw:Am) (L:An) (a0:Msg) (la1:Nat) (a1:Msg) (hla1:B[la1]? = some (T8 a1)) (r:Bool) (h:Dl n a0 a1=some r) :
  ACalls Tryz.prog w0 126 [.agg (T8 a0),.box la1 0] ⟨B,Rw,L⟩ fun x st=>x = .val (.bool r)/\st=⟨B,Rw,L⟩:=by
 rw [Dl] at h
 refine hd [.tmp 3] Tryz.func126 Tryz.ntmps126 fun M0 W0 g d e b i f hs=>?_
 simp only [As]
 have c:=(Af.1 hla1).1
 have hs:=Ac (AD hla1) hs
 exact go (tg (a:=([1,2],[3],()))) h hs g d e b f (q1 (NZ w0 n)) trivial
def Gx (g:Int) (b:Int):Option Int :=
 if (((decide (g<((-999999999999999))))||(decide (999999999999999<g)))||(decide (b<0)))||(decide (17592186044416<b)) then
  Av
 else
  some (0)
theorem Ly (w0:World) (B:Aj) (Rw:Am) (L:An) (a0:Int) (a1:Int) (r:Int) (h:Gx a0 a1=some r) :
  ACalls Tryz.prog w0 81 [Ag a0,Ag a1] ⟨B,Rw,L⟩ fun x st=>x=Ag r/\st=⟨B,Rw,L⟩:=by
 rw [Gx] at h
 refine hd [.tmp 4] Tryz.func81 Tryz.ntmps81 fun M0 W0 f c d b g e hs=>?_
 simp only [As]
 exact go (tg (a:=([0,1],[18],((),()),[],[4],()))) h hs f c d b e trivial trivial
def E2 (n:Nat)  (pla0_k36_0:List Msg) (pla0_k36_1:Int):Option (Int × Chk) :=
 some ((0,Chk.mk pla0_k36_0 pla0_k36_1))
def Di (n:Nat) (g:Slt):Nat->Int->(List Msg)->Int->Option (Int × Chk)
 | 0,_,_,_=>none
 | m+1,b,pla0_l39_0,pla0_l39_1 =>
  if decide (b<(g.values.length:Int)) then
   (D1 g.values b).bind fun h =>
   if decide (pla0_l39_1=4096) then
    Av
   else
    (HL n h).bind fun q =>
    if !(decide (q=0)) then
     Av
    else
     if B1 (pla0_l39_1+1) then
      if B1 (b+1) then
       (Di n g m) (b+1) pla0_l39_0 (pla0_l39_1+1)
      else none
     else none
  else
   E2 n pla0_l39_0 pla0_l39_1
def Fa (n:Nat) (g:Chk) (b:Slt) (pla0_k8_0:List Msg):Option (Int × Chk) :=
 Di n b n 0 pla0_k8_0 g.values
def Dn (n:Nat) (a0:Chk) (h:Slt):Nat->Int->(List Msg)->Option (Int × Chk)
 | 0,_,_=>none
 | m+1,b,pla0_l11_0 =>
  if decide (b<(h.items.length:Int)) then
   (D1 h.items b).bind fun g =>
   if decide ((pla0_l11_0.length:Int)=256) then
    Av
   else
    (IX n g).bind fun y =>
    if !(decide (y=0)) then
     Av
    else
     (DV n pla0_l11_0 (fun (x0:Msg)=>Dl n x0 g)).bind fun q =>
     if q then
      Av
     else
      if (pla0_l11_0.length+1)*152<=140737488355328/\pla0_l11_0.length+1<=4611686018427387904 then
       if B1 (b+1) then
        (Dn n a0 h m) (b+1) (pla0_l11_0++([g]))
       else none
      else none
  else
   Fa n a0 h pla0_l11_0
def FK (n:Nat) (g:Chk) (b:Slt):Option (Int × Chk) :=
 (Gx b.number b.time).bind fun h =>
 if !(decide (h=0)) then
  Av
 else
  Dn n g b n 0 g.items
theorem MX (w0:World) (hT:Lib.Utf8Tabs 1 2 w0) (n:Nat) (B:Aj) (Rw:Am) (L:An) (la0:Nat) (a0:Chk) (oa0:Ev.Own) (hla0:B[la0]? = some ([.list (a0.items.map Cj) oa0,Ag a0.values])) (hGa0:Owns Rw Rw [(10,a0.items.length,oa0)] oa0) (a1:Slt) (r:Int × Chk) (h:FK n a0 a1=some r) :
  ACalls Tryz.prog w0 84 [.box la0 0,.agg (Ll a1)] ⟨B,Rw,L⟩ fun x st=>x=Ag r.1/\∃ (R1:Am) (o1:Ev.Own),st=⟨(B.set la0 ([.list (r.2.items.map Cj) o1,Ag r.2.values])),R1,L⟩/\Owns Rw R1 [(10,r.2.items.length,o1)] oa0:=by
 rw [FK] at h
 refine ACalls.finG (BN (rs:=[.tmp 4]) Tryz.func84 rfl rfl Tryz.ntmps84 (AU Tryz.func84 rfl (by decide)) (Nat.le_of_ble_eq_true rfl) ?_)
 intro M0 W0 hN K J w hu
 dsimp only at hN K J w hu
 simp only [As]
 have v:=hGa0
 have hs:=Rr
 have a2:=(Af.1 hla0).1
 have hs:=Ac (AD hla0) hs
 refine rg [0,3] hs ?_
 apply Ah;intro K2 ar
 obtain ⟨y4,a8,h⟩:=bind_some h
 refine rc 2 [0,3,5] hs ?_;intro K3 aq
 refine Aq _ (Ly w0 _ _ _ a1.number a1.time _ a8) (hv hs) ?_
 refine ne hs aq ?_
 clear aq
 refine rg [0,3,5,18] hs ?_
 refine BA h hs ?_ ?_<;>intro hs h
 ·have C:=hs.1
  exact nS h
 have C:=hs.1
 refine sk [0,3] hs ar ?_
 clear ar
 refine AO (fun e st=>∃ (k:List Msg) (l:Ev.Own) (Xk8:Aj) (Rk8:Am),e=[(0,true,.box la0 0),(3,true,.box B.length 0)]/\st=⟨(B.set la0 ([.list (k.map Cj) l,Ag a0.values]))++([Ll a1]++Xk8),Rk8,L⟩/\Owns Rw Rk8 [(10,k.length,l)] oa0/\Fa n a0 a1 k=some r) ?_ ?_
 ·intro K9 a7
  refine rg [0,3,21,22,23] hs ?_
  apply Ao
  refine AB (fun m e st=>∃ (t:Int) (b:List Msg) (i:Ev.Own) (Xl11:Aj) (Rl11:Am),e=[(0,true,.box la0 0),(3,true,.box B.length 0),(21,true,.list (a1.items.map Cj) .none),(22,true,Ag (a1.items.length:Int)),(23,true,Ag t)]/\st=⟨(B.set la0 ([.list (b.map Cj) i,Ag a0.values]))++([Ll a1]++Xl11),Rl11,L⟩/\Owns Rw Rl11 [(10,b.length,i)] oa0/\Dn n a0 a1 m t b=some r) n ⟨0,a0.items,oa0,([]),Rw,ef hs,ef hs,Owns.of_eq (v) Fe,h⟩ ?_
  rintro ml11 e st ⟨t,b,i,Xl11,Rl11,rfl,rfl,v,h⟩ Ul11 Vl11
  cases ml11 with
  | zero=>cases h
  | succ ml11 =>
  rw [Dn] at h
  have N:=v.unders
  simp only [List.mem_cons,List.not_mem_nil,or_false,forall_eq_or_imp,forall_eq] at N
  refine DW hN K J GR (AA (DJ w v.len) ow) v ow ow ?_
  refine rg [0,3,21,22,23,24] hs ?_
  apply Ah;intro K13 ae
  refine BA h hs ?_ ?_<;>intro hs h
  rotate_left
  ·have D:=hs.1
   refine sx [0,3] hs a7 ?_
   exact ⟨b,i,([]),Rl11,ef hs,ef hs,Owns.of_eq (v) Fe,h⟩
  have D:=hs.1
  refine sk [0,3,21,22,23] hs ae ?_
  clear ae
  apply Ah;intro K15 Y
  apply Ao
  obtain ⟨H,az,h⟩:=bind_some h
  obtain ⟨a4,a5,ak⟩:=Bo az
  have z:=Bq (f:=Cj) ak
  have hs:=Ac z hs
  refine rg [0,3,7,21,22,23] hs ?_
  apply Ah;intro K18 ab
  refine rg [0,3,7,21,22,23,32] hs ?_
  refine BA h hs ?_ ?_<;>intro hs h
  ·have F:=hs.1
   exact nS h
  have F:=hs.1
  refine sk [0,3,7,21,22,23] hs ab ?_
  clear ab
  apply Ah;intro K21 af
  obtain ⟨bf,av,h⟩:=bind_some h
  refine rc 2 [0,3,7,8,21,22,23] hs ?_;intro K22 ai
  refine Aq _ (Qq w0 hT n _ _ _ H _ av) (hv hs) ?_
  refine ne hs ai ?_
  clear ai
  refine rg [0,3,7,8,21,22,23,36] hs ?_
  refine BA h hs ?_ ?_<;>intro hs h
  ·have G:=hs.1
   exact nS h
  have G:=hs.1
  refine sk [0,3,7,21,22,23] hs af ?_
  clear af
  apply Ah;intro K26 ad
  obtain ⟨bh,aw,h⟩:=bind_some h
  refine rc 2 [0,3,7,21,22,23,43] hs ?_;intro K27 Z
  refine Aq _ (JM w0 n _ _ _ b 126 [.box (B.length+1) 0] (fun (x0:Msg)=>Dl n x0 H) (fun x0 r hx B' rows' a9 be=>by exact LE w0 n _ _ _ x0 _ H (Ej a9 (ef hs)) _ hx) _ aw) (hv hs) ?_
  refine ne hs Z ?_
  clear Z
  refine BA h hs ?_ ?_<;>intro hs h
  ·have E:=hs.1
   exact nS h
  have E:=hs.1
  refine sk [0,3,7,21,22,23] hs ad ?_
  clear ad
  obtain ⟨U,h⟩:=Ak h
  obtain ⟨ba,O,v,j⟩:=v.append (P:=Tryz.prog) XX (by rw [TX];rfl) (by decide) 1 U.1 U.2
  replace j:=fun (ys:List AV) B L o2=>j (b.map Cj) ys B L o2 Fe
  replace j:=fun (y:AV) B L o2=>j [y] B L o2 Fe ev
  try simp only [List.mem_singleton,List.mem_cons,List.not_mem_nil,or_false,forall_eq_or_imp,forall_eq,List.map_append,List.map_cons,List.map_nil,A2,A0,AY,A3,AZ,AX,AN,AG,A1,Ax,Az,AH,AM,AL,A5,AK,A6] at j
  apply IA GP [7,10] [4] [0,3,21,22,23] kr (fun s=>∃ (X:Aj) (rows:Am) (aj:List AV),s=⟨(B.set la0 aj)++([Ll a1,T8 H]++X),rows,L⟩) 3 (B.length+2)
  ·simp +decide only [go_sem,Nat.reduceAdd]
  ·refine ⟨1,?_⟩
   rw [Ai];simp +decide only [go_sem,Nat.reduceAdd,BK,AD hla0,C,D,z,F,G,E,j]
   (repeat' apply Ac)<;>first | rfl | exact cl
  ·rintro s ⟨X,rows,aj,rfl⟩
   refine ⟨1,?_⟩
   rw [Ai];simp +decide only [go_sem,Nat.reduceAdd,BK,List.append_eq,List.cons_append,List.nil_append,AD hla0,C,D,z,F,G,E,j]
   have hs:=Ac j hs
   (repeat' apply Ac)<;>first | rfl | ((repeat (first | exact .nil | refine .cons (ef hs) ?_));done) | exact cl
  ·exact gd (tg (a:=(7,10,[0,3,21,22,23]))) (Ac j (Ac z (Ac (AD hla0) hs)))
  simp +decide only [go_sem,Nat.reduceAdd,AD hla0,C,D,z,F,G,E,j]
  (repeat' apply Ac)<;>first | refine Y _ _ ?_ | exact cl
  clear Y
  obtain ⟨bc,h⟩:=Ak h
  have hs:=Ac j hs
  refine rl [0,3,21,22,23] hs (fun e s=>Vl11 ml11 e s (Nat.lt_succ_self _)) ?_
  exact ⟨(t+1),(b++([H])),ba,([T8 H]),O,ef hs,ef hs,Owns.of_eq (v) Fe,h⟩
 ·clear h;rintro e st ⟨k,l,Xk8,Rk8,rfl,rfl,v,h⟩
  rw [Fa] at h
  have N:=v.unders
  simp only [List.mem_cons,List.not_mem_nil,or_false,forall_eq_or_imp,forall_eq] at N
  refine DW hN K J GR (AA (DJ w v.len) ow) v ow ow ?_
  refine AO (fun e st=>∃ (o:List Msg) (q:Int) (p:Ev.Own) (Xk36:Aj) (Rk36:Am),e=[]/\st=⟨(B.set la0 ([.list (o.map Cj) p,Ag q]))++([Ll a1]++Xk36),Rk36,L⟩/\Owns Rw Rk36 [(10,o.length,p)] oa0/\E2 n o q=some r) ?_ ?_
  ·intro K37 au
   refine rg [0,56,57,58] hs ?_
   apply Ao
   refine AB (fun m e st=>∃ (u:Int) (c:List Msg) (g:Int) (d:Ev.Own) (Xl39:Aj) (Rl39:Am),e=[(0,true,.box la0 0),(56,true,.list (a1.values.map B6) .none),(57,true,Ag (a1.values.length:Int)),(58,true,Ag u)]/\st=⟨(B.set la0 ([.list (c.map Cj) d,Ag g]))++([Ll a1]++Xl39),Rl39,L⟩/\Owns Rw Rl39 [(10,c.length,d)] oa0/\Di n a1 m u c g=some r) n ⟨0,k,a0.values,l,([]),Rk8,ef hs,ef hs,Owns.of_eq (v) Fe,h⟩ ?_
   rintro ml39 e st ⟨u,c,g,d,Xl39,Rl39,rfl,rfl,v,h⟩ Ul39 Vl39
   cases ml39 with
   | zero=>cases h
   | succ ml39 =>
   rw [Di] at h
   have N:=v.unders
   simp only [List.mem_cons,List.not_mem_nil,or_false,forall_eq_or_imp,forall_eq] at N
   refine DW hN K J GR (AA (DJ w v.len) ow) v ow ow ?_
   refine rg [0,56,57,58,59] hs ?_
   apply Ah;intro K41 V
   refine BA h hs ?_ ?_<;>intro hs h
   rotate_left
   ·refine sx [] hs au ?_
    exact ⟨c,g,d,([]),Rl39,ef hs,ef hs,Owns.of_eq (v) Fe,h⟩
   refine sk [0,56,57,58] hs V ?_
   clear V
   apply Ah;intro K43 Q
   apply Ao
   obtain ⟨ax,ap,h⟩:=bind_some h
   obtain ⟨a3,a6,am⟩:=Bo ap
   have ao:=Bq (f:=B6) am
   have hs:=Ac ao hs
   refine rg [0,10,56,57,58] hs ?_
   apply Ah;intro K46 ag
   refine rg [0,10,56,57,58,66] hs ?_
   refine BA h hs ?_ ?_<;>intro hs h
   ·exact nS h
   refine sk [0,10,56,57,58] hs ag ?_
   clear ag
   apply Ah;intro K49 ah
   obtain ⟨bg,ay,h⟩:=bind_some h
   refine rc 2 [0,11,56,57,58] hs ?_;intro K50 aa
   refine Aq _ (JR w0 hT n _ _ _ ax _ ay) (hv hs) ?_
   refine ne hs aa ?_
   clear aa
   refine rg [0,11,56,57,58,70] hs ?_
   refine BA h hs ?_ ?_<;>intro hs h
   ·exact nS h
   refine sk [0,56,57,58] hs ah ?_
   clear ah
   obtain ⟨bd,h⟩:=Ak h
   refine rl [0,56,57,58] hs Q ?_
   clear Q
   obtain ⟨bb,h⟩:=Ak h
   refine rl [0,56,57,58] hs (fun e s=>Vl39 ml39 e s (Nat.lt_succ_self _)) ?_
   exact ⟨(u+1),c,(g+1),d,([ax.cs]),Rl39,ef hs,ef hs,Owns.of_eq (v) Fe,h⟩
  ·clear h;rintro e st ⟨o,q,p,Xk36,Rk36,rfl,rfl,v,h⟩
   rw [E2] at h
   have N:=v.unders
   simp only [List.mem_cons,List.not_mem_nil,or_false,forall_eq_or_imp,forall_eq] at N
   refine DW hN K J GR (AA (DJ w v.len) ow) v ow ow ?_
   refine rg [4] hs ?_
   apply BC;simp +decide only [go_sem,Nat.reduceAdd,AD hla0,C]
   have hgt:=Option.some.inj h;subst hgt
   have N:=v.unders
   simp only [List.mem_cons,List.not_mem_nil,or_false,forall_eq_or_imp,forall_eq] at N
   refine ZaP v (AA (DJ w v.len) ow) GR ev ⟨?_,_,_,?_,(v.sub (List.sublist_append_left [_] _)).len1 Fe⟩
   all_goals first | rfl | (simp +decide only [go_sem,Nat.reduceAdd,AD hla0,C];done) | (simp +decide only [go_sem,Nat.reduceAdd,Vl.cs,Ty.cs,AD hla0,C];done)
def Gv (n:Nat) (g:Int->(List Msg)->Int->Option Int) (b:Int) (b1_l15_1:Int) (q:Slt) (b1_k28_0:List Msg):Option Int :=
 (FK n (Chk.mk b1_k28_0 b1_l15_1) q).bind fun h =>
 if !(decide (h.1=0)) then
  Av
 else
  if B1 (b+1) then
   g (b+1) h.2.items h.2.values
  else none
def IL (n:Nat)  (b1_k12_0:List Msg) (b1_k12_1:Int):Option Int :=
 some (0)
def DZ (n:Nat) (h:Stt):Nat->Int->(List Msg)->Int->Option Int
 | 0,_,_,_=>none
 | m+1,b,b1_l15_0,b1_l15_1 =>
  if decide (b<(h.slots.length:Int)) then
   (D1 h.slots b).bind fun g =>
   (HL n g.key).bind fun y24 =>
   if (!(decide (y24=0)))&&(!(CS g.key)) then
    Av
   else
    if decide (0<b) then
     if B1 (b-1) then
      (D1 h.slots (b-1)).bind fun y =>
      (IF n g.key y.key).bind fun q =>
      if decide (q=0) then
       Av
      else
       if decide (q=((-1))) then
        Av
       else
        Gv n (DZ n h m) b b1_l15_1 g b1_l15_0
     else none
    else
     Gv n (DZ n h m) b b1_l15_1 g b1_l15_0
  else
   IL n b1_l15_0 b1_l15_1
def KL (n:Nat) (b:Stt):Option Int :=
 (Gx b.number b.time).bind fun g =>
 if !(decide (g=0)) then
  Av
 else
  if decide (1024<(b.slots.length:Int)) then
   Av
  else
   DZ n b n 0 ([]) 0
theorem SX (w0:World) (hT:Lib.Utf8Tabs 1 2 w0) (n:Nat) (B:Aj) (Rw:Am) (L:An) (a0:Stt) (r:Int) (h:KL n a0=some r) :
  ACalls Tryz.prog w0 50 [.agg (DR a0)] ⟨B,Rw,L⟩ fun x st=>x=Ag r/\st=⟨B,Rw,L⟩:=by
 rw [KL] at h
 refine hd [.tmp 2] Tryz.func50 Tryz.ntmps50 fun M0 W0 Y u v p hu q hs=>?_
 simp only [As]
 refine rg [1] hs ?_
 apply Ah;intro K2 K
 obtain ⟨y4,aa,h⟩:=bind_some h
 refine rc 2 [1,3] hs ?_;intro K3 J
 refine Aq _ (Ly w0 _ _ _ a0.number a0.time _ aa) (hv hs) ?_
 refine ne hs J ?_
 clear J
 refine rg [1,3,15] hs ?_
 refine BA h hs ?_ ?_<;>intro hs h
 ·exact nS h
 refine sk [1] hs K ?_
 clear K
 apply Ah;intro K7 U
 refine rg [1,20] hs ?_
 refine BA h hs ?_ ?_<;>intro hs h
 ·exact nS h
 refine sk [1] hs U ?_
 clear U
 refine rg [1,4] hs ?_
 refine AO (fun e st=>∃ (k:List Msg) (o:Int) (l:Ev.Own),Ck e st B Rw L [] [DR a0,[.list (k.map Cj) l,Ag o]] [(10,k.length,l)] (IL n k o=some r)) ?_ ?_
 ·intro K13 V
  refine rg [1,4,22,23,24] hs ?_
  apply Ao
  refine AB (fun m e st=>∃ (j:Int) (c:List Msg) (b:Int) (i:Ev.Own),Ck e st B Rw L [(1,true,.box B.length 0),(4,true,.box (B.length+1) 0),(22,true,.list (a0.slots.map Br) .none),(23,true,Ag (a0.slots.length:Int)),(24,true,Ag j)] [DR a0,[.list (c.map Cj) i,Ag b]] [(10,c.length,i)] (DZ n a0 m j c b=some r)) n ⟨0,([]),0,.full,([]),Rw,ef hs,ef hs,Owns.of_eq ((q).full 10 0) Fe,h⟩ ?_
  rintro ml15 e st ⟨j,c,b,i,Xl15,Rl15,rfl,rfl,q,h⟩ Ul15 Vl15
  cases ml15 with
  | zero=>cases h
  | succ ml15 =>
  rw [DZ] at h
  have hU:=q.unders
  simp only [List.mem_cons,List.not_mem_nil,or_false,forall_eq_or_imp,forall_eq] at hU
  refine td Y u v p q ?_
  refine rg [1,4,22,23,24,25] hs ?_
  apply Ah;intro K17 D
  refine BA h hs ?_ ?_<;>intro hs h
  rotate_left
  ·refine sx [] hs V ?_
   exact ⟨c,b,i,([]),Rl15,ef hs,ef hs,Owns.of_eq (q) Fe,h⟩
  refine sk [1,4,22,23,24] hs D ?_
  clear D
  apply Ah;intro K19 N
  apply Ao
  obtain ⟨t,Z,h⟩:=bind_some h
  obtain ⟨ad,ab,E⟩:=Bo Z
  have F:=Bq (f:=Br) E
  have hs:=Ac F hs
  refine rg [1,4,5,6,22,23,24] hs ?_
  apply Ah;intro K22 y
  obtain ⟨ag,Q,h⟩:=bind_some h
  refine rc 2 [1,4,5,6,7,22,23,24] hs ?_;intro K23 C
  refine Aq _ (JR w0 hT n _ _ _ t.key _ Q) (hv hs) ?_
  refine ne hs C ?_
  clear C
  refine rc 2 [1,4,5,6,7,22,23,24,39] hs ?_;intro K25 z
  refine GB _ (fun _=>Dj w0 _ _ _ t.key) (hv hs) ?_
  refine ne hs z ?_
  clear z
  refine BA h hs ?_ ?_<;>intro hs h
  ·exact nS h
  refine sk [1,4,5,6,22,23,24] hs y ?_
  clear y
  refine AO (fun e st=>∃ (d:List Msg) (g:Ev.Own),Ck e st B Rw L [(1,true,.box B.length 0),(4,true,.box (B.length+1) 0),(6,true,.box (B.length+2) 0),(22,true,.list (a0.slots.map Br) .none),(23,true,Ag (a0.slots.length:Int)),(24,true,Ag j)] [DR a0,[.list (d.map Cj) g,Ag b],Ll t] [(10,d.length,g)] (Gv n (DZ n a0 ml15) j b t d=some r)) ?_ ?_
  ·intro K29 H
   exact go (tg (a:=([1,4,5,6,22,23,24,42],([10,1,4,6,22,23,24,52],[1,4,6,22,23,24,52,53],((),()),[1,4,6,22,23,24,55],((),()),[1,4,6,22,23,24],()),[1,4,6,22,23,24],()))) h hs Y u v p q (q1 (MC w0 n)) (q1 H)
  ·clear h;rintro e st ⟨d,g,Xk28,Rk28,rfl,rfl,q,h⟩
   rw [Gv] at h
   have hU:=q.unders
   simp only [List.mem_cons,List.not_mem_nil,or_false,forall_eq_or_imp,forall_eq] at hU
   refine td Y u v p q ?_
   obtain ⟨af,O,h⟩:=bind_some h
   refine rc 2 [1,4,8,22,23,24] hs ?_;intro K40 G
   refine Bm _ (MX w0 hT n _ _ _ (B.length+1) (Chk.mk d b) g (ef hs) q.enter t _ O) (hv hs) ?_;rintro _ _ ⟨rfl,Rg42,ae,rfl,w⟩
   have q:=q.call w
   exact go (tg (a:=([1,4,8,22,23,24,60],((),()),[1,4,22,23,24],[1,4,22,23,24],()))) h hs Y u v p q trivial (q3 G N (fun e s=>Vl15 ml15 e s (Nat.lt_succ_self _)))
 ·clear h;rintro e st ⟨k,o,l,Xk12,Rk12,rfl,rfl,q,h⟩
  rw [IL] at h
  exact go (tg (a:=([2],()))) h hs Y u v p q trivial trivial
def Hi (n:Nat) (g:Int->Option Int) (b:Int) (h:Bool):Option Int :=
 if h then
  Av
 else
  if B1 (b+1) then
   g (b+1)
  else none
def JD (n:Nat)  : Option Int :=
 some (0)
def EL (n:Nat) (h:Nod) (q:Stt):Nat->Int->Option Int
 | 0,_=>none
 | m+1,b =>
  if decide (b<(q.slots.length:Int)) then
   (D1 q.slots b).bind fun g =>
   if B1 (b-1) then
    if (!(decide (g.key.kind=2)))||(decide (g.key.int<1)) then
     Av
    else
     if decide (0<b) then
      (D1 q.slots (b-1)).bind fun y =>
      if B1 (y.key.int+(h.calls.length:Int)) then
       if B1 (q.number-(h.calls.length:Int)) then
        if B1 ((q.number-(h.calls.length:Int))+1) then
         if (decide (g.key.int<(y.key.int+(h.calls.length:Int))))||(decide (((q.number-(h.calls.length:Int))+1)<g.key.int)) then
          Av
         else
          (I5 (h.calls.length:Int) g).bind fun y39 =>
          Hi n (EL n h q m) b y39
        else none
       else none
      else none
     else
      if B1 (q.number-(h.calls.length:Int)) then
       if B1 ((q.number-(h.calls.length:Int))+1) then
        if decide (((q.number-(h.calls.length:Int))+1)<g.key.int) then
         Av
        else
         (I5 (h.calls.length:Int) g).bind fun y43 =>
         Hi n (EL n h q m) b y43
       else none
      else none
   else none
  else
   JD n 
def L9 (n:Nat) (b:Nod) (g:Stt):Option Int :=
 if !(decide (b.kind=10)) then
  Av
 else
  if B1 (2*(b.calls.length:Int)) then
   if ((decide ((b.calls.length:Int)<1))||(decide (16<(b.calls.length:Int))))||(!(decide ((b.types.length:Int)=(2*(b.calls.length:Int))))) then
    Av
   else
    (KL n g).bind fun h =>
    if !(decide (h=0)) then
     Av
    else
     if (decide (g.number<0))||(!(decide (g.time=0))) then
      Av
     else
      EL n b g n 0
  else none
theorem Ux (w0:World) (hT:Lib.Utf8Tabs 1 2 w0) (n:Nat) (B:Aj) (Rw:Am) (L:An) (a0:Nod) (a1:Stt) (r:Int) (h:L9 n a0 a1=some r) :
  ACalls Tryz.prog w0 26 [.agg (Rf a0),.agg (DR a1)] ⟨B,Rw,L⟩ fun x st=>x=Ag r/\st=⟨B,Rw,L⟩:=by
 rw [L9] at h
 refine hd [.tmp 4] Tryz.func26 Tryz.ntmps26 fun M0 W0 J p u c hu g hs=>?_
 simp only [As]
 refine rg [2,3] hs ?_
 refine rg [2,3,5] hs ?_
 apply Ah;intro K3 z
 apply Ao
 refine rg [2,3,5,12] hs ?_
 refine BA h hs ?_ ?_<;>intro hs h
 ·exact nS h
 obtain ⟨af,h⟩:=Ak h
 refine rg [3,5,16] hs ?_
 refine BA h hs ?_ ?_<;>intro hs h
 ·exact nS h
 refine sk [3,5] hs z ?_
 clear z
 apply Ah;intro K9 D
 obtain ⟨ag,y,h⟩:=bind_some h
 refine rc 2 [3,5,6] hs ?_;intro K10 l
 refine Aq _ (SX w0 hT n _ _ _ a1 _ y) (hv hs) ?_
 refine ne hs l ?_
 clear l
 refine rg [3,5,6,34] hs ?_
 refine BA h hs ?_ ?_<;>intro hs h
 ·exact nS h
 refine sk [3,5] hs D ?_
 clear D
 apply Ah;intro K14 j
 refine rg [3,5,43] hs ?_
 refine BA h hs ?_ ?_<;>intro hs h
 ·exact nS h
 refine sk [3,5] hs j ?_
 clear j
 refine AO (fun e st=>Ck e st B Rw L [] [Rf a0,DR a1] [] (JD n  = some r)) ?_ ?_
 ·intro K19 C
  refine rg [3,5,45,46,47] hs ?_
  apply Ao
  refine AB (fun m e st=>∃ (a:Int),Ck e st B Rw L [(3,true,.box (B.length+1) 0),(5,true,Ag (a0.calls.length:Int)),(45,true,.list (a1.slots.map Br) .none),(46,true,Ag (a1.slots.length:Int)),(47,true,Ag a)] [Rf a0,DR a1] [] (EL n a0 a1 m a=some r)) n ⟨0,([]),Rw,ef hs,ef hs,g,h⟩ ?_
  rintro ml21 e st ⟨a,Xl21,Rl21,rfl,rfl,g,h⟩ Ul21 Vl21
  cases ml21 with
  | zero=>cases h
  | succ ml21 =>
  rw [EL] at h
  refine td J p u c g ?_
  refine rg [3,5,45,46,47,48] hs ?_
  apply Ah;intro K23 o
  refine BA h hs ?_ ?_<;>intro hs h
  rotate_left
  ·refine sx [] hs C ?_
   exact ⟨([]),Rl21,ef hs,ef hs,g,h⟩
  refine sk [3,5,45,46,47] hs o ?_
  clear o
  apply Ah;intro K25 k
  apply Ao
  obtain ⟨d,E,h⟩:=bind_some h
  obtain ⟨H,Q,q⟩:=Bo E
  have v:=Bq (f:=Br) q
  have hs:=Ac v hs
  refine rg [3,5,7,8,45,46,47] hs ?_
  refine AO (fun e st=>∃ (b:Bool),Ck e st B Rw L [(3,true,.box (B.length+1) 0),(5,true,Ag (a0.calls.length:Int)),(45,true,.list (a1.slots.map Br) .none),(46,true,Ag (a1.slots.length:Int)),(47,true,Ag a),(97,true,.val (.bool b))] [Rf a0,DR a1,Ll d] [] (Hi n (EL n a0 a1 ml21) a b=some r)) ?_ ?_
  ·intro K30 i
   obtain ⟨ae,h⟩:=Ak h
   rcases Bool.eq_false_or_eq_true ((!(decide (d.key.kind=2)))||(decide (d.key.int<1))) with hf32 | hf32
   ·replace h:=BO h hf32
    exact nS h
   ·replace h:=BP h hf32
    rcases Bool.eq_false_or_eq_true (decide (0<a)) with hf33 | hf33
    ·replace h:=BO h hf33
     obtain ⟨O,U,G,t,h⟩:=ix Br h
     obtain ⟨aa,h⟩:=Ak h
     obtain ⟨Y,h⟩:=Ak h
     obtain ⟨V,h⟩:=Ak h
     rcases Bool.eq_false_or_eq_true ((decide (d.key.int<(O.key.int+(a0.calls.length:Int))))||(decide (((a1.number-(a0.calls.length:Int))+1)<d.key.int))) with hf38 | hf38
     ·replace h:=BO h hf38
      exact nS h
     ·replace h:=BP h hf38
      obtain ⟨K,F,h⟩:=bind_some h
      have hs:=Ac hf32 hs
      have hs:=Ac hf33 hs
      have hs:=Ac t hs
      have hs:=Ac hf38 hs
      refine dk 46 2 1 [3,5,45,46,47,97] (al hs) GP ?_
      refine Aq _ (OH w0 _ _ _ (a0.calls.length:Int) d _ F) (hv (al hs)) ?_
      refine dn (al hs) i ?_
      exact ⟨K,([]),Rl21,ef hs,ef hs,g,h⟩
    ·replace h:=BP h hf33
     obtain ⟨ab,h⟩:=Ak h
     obtain ⟨Z,h⟩:=Ak h
     rcases Bool.eq_false_or_eq_true (decide (((a1.number-(a0.calls.length:Int))+1)<d.key.int)) with hf42 | hf42
     ·replace h:=BO h hf42
      exact nS h
     ·replace h:=BP h hf42
      obtain ⟨N,w,h⟩:=bind_some h
      have hs:=Ac hf32 hs
      have hs:=Ac hf33 hs
      have hs:=Ac hf42 hs
      refine dk 46 2 1 [3,5,45,46,47,97] (al hs) GP ?_
      refine Aq _ (OH w0 _ _ _ (a0.calls.length:Int) d _ w) (hv (al hs)) ?_
      refine dn (al hs) i ?_
      exact ⟨N,([]),Rl21,ef hs,ef hs,g,h⟩
  ·clear h;rintro e st ⟨b,Xk29,Rk29,rfl,rfl,g,h⟩
   rw [Hi] at h
   refine td J p u c g ?_
   refine BA h hs ?_ ?_<;>intro hs h
   ·exact nS h
   refine sk [3,5,45,46,47] hs k ?_
   clear k
   obtain ⟨ad,h⟩:=Ak h
   refine rl [3,5,45,46,47] hs (fun e s=>Vl21 ml21 e s (Nat.lt_succ_self _)) ?_
   exact ⟨(a+1),([Ll d]),Rk29,ef hs,ef hs,g,h⟩
 ·clear h;rintro e st ⟨Xk18,Rk18,rfl,rfl,g,h⟩
  rw [JD] at h
  refine td J p u c g ?_
  refine rg [4] hs ?_
  exact rt h hs c g
def MA (n:Nat)  (b:List (Int × ByteArray × Bool)):Option ((List (Int × ByteArray × Bool))) :=
 some (b)
def Ic (n:Nat) (q:Nod) (a1:Stt):Nat->(List (Int × ByteArray × Bool))->Int->Option ((List (Int × ByteArray × Bool)))
 | 0,_,_=>none
 | m+1,g,b =>
  if decide (b<(a1.slots.length:Int)) then
   (D1 a1.slots b).bind fun h =>
   if (q.calls.length:Int)≠0 then
    if B1 (h.key.int+(h.number.tmod (q.calls.length:Int))) then
     (D1 q.calls (h.number.tmod (q.calls.length:Int))).bind fun y =>
     if (g.length+1)*32<=140737488355328/\g.length+1<=4611686018427387904 then
      if B1 (b+1) then
       (Ic n q a1 m) (g++([(h.key.int+(h.number.tmod (q.calls.length:Int)),y.1,decide ((q.calls.length:Int)<=h.number))])) (b+1)
      else none
     else none
    else none
   else none
  else
   MA n g
def Nr (n:Nat) (g:Nod) (b:Stt):Option ((List (Int × ByteArray × Bool))) :=
 (L9 n g b).bind fun h =>
 if !(decide (h=0)) then
  Av
 else
  Ic n g b n ([]) 0
theorem V3 (w0:World) (hT:Lib.Utf8Tabs 1 2 w0) (n:Nat) (B:Aj) (Rw:Am) (L:An) (a0:Nod) (a1:Stt) (r:(List (Int × ByteArray × Bool))) (h:Nr n a0 a1=some r) :
  ACalls Tryz.prog w0 10 [.agg (Rf a0),.agg (DR a1)] ⟨B,Rw,L⟩ fun x st=>x = .list (r.map V7) .none/\st=⟨B,Rw,L⟩:=by
 rw [Nr] at h
 refine hd [.tmp 4] Tryz.func10 Tryz.ntmps10 fun M0 W0 u j o i v k hs=>?_
 simp only [As]
 refine rg [2,3] hs ?_
 apply Ah;intro K2 p
 obtain ⟨w,t,h⟩:=bind_some h
 refine rc 2 [2,3,12] hs ?_;intro K3 l
 refine Aq _ (Ux w0 hT n _ _ _ a0 a1 _ t) (hv hs) ?_
 refine ne hs l ?_
 clear l
 refine BA h hs ?_ ?_<;>intro hs h
 ·exact nS h
 refine sk [2,3] hs p ?_
 clear p
 refine rg [2,3,5] hs ?_
 refine AO (fun e st=>∃ (g:List (Int × ByteArray × Bool)) (f:Ev.Own),Ck e st B Rw L [(5,true,.list (g.map V7) f)] [Rf a0,DR a1] [(3,g.length,f)] (MA n g=some r)) ?_ ?_
 ·intro K9 q
  refine rg [2,5,14,15,16] hs ?_
  apply Ao
  refine AB (fun m e st=>∃ (b:List (Int × ByteArray × Bool)) (d:Int) (c:Ev.Own),Ck e st B Rw L [(2,true,.box B.length 0),(5,true,.list (b.map V7) c),(14,true,.list (a1.slots.map Br) .none),(15,true,Ag (a1.slots.length:Int)),(16,true,Ag d)] [Rf a0,DR a1] [(3,b.length,c)] (Ic n a0 a1 m b d=some r)) n ⟨([]),0,.full,([]),Rw,ef hs,ef hs,Owns.of_eq ((k).full 3 0) Fe,h⟩ ?_
  rintro ml11 e st ⟨b,d,c,Xl11,Rl11,rfl,rfl,k,h⟩ Ul11 Vl11
  cases ml11 with
  | zero=>cases h
  | succ ml11 =>
  rw [Ic] at h
  exact go (tg (a:=([2,5,14,15,16,17],([2,5,14,15,16],[2,5,7,14,15,16],[2,5,7,8,14,15,16],[20,2,5,14,15,16],[2,5,14,15,16],()),[5],()))) h hs u j o i k (q1 (ae Zga Zac)) (q2 q (fun e s=>Vl11 ml11 e s (Nat.lt_succ_self _)))
 ·clear h;rintro e st ⟨g,f,Xk8,Rk8,rfl,rfl,k,h⟩
  rw [MA] at h
  exact go (tg (a:=([4],()))) h hs u j o i k trivial trivial
def EV (n:Nat) (y:Int) (h:Int) (q:Nod) (b1_k14:Stt):Option Bool :=
 (Nr n q b1_k14).bind fun b =>
 if B1 (y.tmod 8) then
  if B1 (h.tmod 13) then
   if decide ((b.length:Int)=((if h.tmod 13<y.tmod 8 then h.tmod 13 else y.tmod 8))) then
    (I8 n b1_k14).bind fun g =>
    some (decide ((b.length:Int)=g))
   else
    Av
  else none
 else none
def Bz (n:Nat) (q:Int) (a1:Int) (y:Int) (h:Nod):Nat->Int->Stt->Option Bool
 | 0,_,_=>none
 | m+1,b,b1_l17 =>
  if B1 (a1.tmod 13) then
   if decide (b<(a1.tmod 13)) then
    if B1 (b+1) then
     (Ko n (b+1) b).bind fun y25 =>
     (FP n h b1_l17 y25).bind fun g =>
     if B1 (q.tmod 8) then
      if (decide ((g.letters.length:Int)=1))&&(decide ((g.fates.length:Int)=1)) then
       (D1 g.fates 0).bind fun x32 =>
       if ((decide ((q.tmod 8)<=b)) != (OA x32.text ((⟨#[102,117,108,108]⟩:ByteArray))))||((decide ((q.tmod 8)<=b)) == (decide ((g.requests.length:Int)=1))) then
        Av
       else
        if !(decide ((q.tmod 8)<=b)) then
         (D1 g.requests 0).bind fun x35 =>
         if B1 ((1+(y.tmod 5))*b) then
          if B1 (((1+(y.tmod 5))*b)+1) then
           if !(decide (x35.call=(((1+(y.tmod 5))*b)+1))) then
            Av
           else
            if B1 (b+1) then
             (Bz n q a1 y h m) (b+1) g.state
            else none
          else none
         else none
        else
         if B1 (b+1) then
          (Bz n q a1 y h m) (b+1) g.state
         else none
      else
       if ((decide ((q.tmod 8)<=b)) != false)||((decide ((q.tmod 8)<=b)) == (decide ((g.requests.length:Int)=1))) then
        Av
       else
        if !(decide ((q.tmod 8)<=b)) then
         (D1 g.requests 0).bind fun x44 =>
         if B1 ((1+(y.tmod 5))*b) then
          if B1 (((1+(y.tmod 5))*b)+1) then
           if !(decide (x44.call=(((1+(y.tmod 5))*b)+1))) then
            Av
           else
            if B1 (b+1) then
             (Bz n q a1 y h m) (b+1) g.state
            else none
          else none
         else none
        else
         if B1 (b+1) then
          (Bz n q a1 y h m) (b+1) g.state
         else none
     else none
    else none
   else
    EV n q a1 h b1_l17
  else none
def F5 (n:Nat) (h:Int) (q:Int) (b:Int):Option Bool :=
 (KD n ).bind fun y =>
 if !y then
  Av
 else
  if B1 (b.tmod 5) then
   if B1 (1+(b.tmod 5)) then
    if B1 (h.tmod 8) then
     (Jp n (1+(b.tmod 5)) 0 (h.tmod 8) 9).bind fun g =>
     Bz n h q b g n 0 (Stt.mk 0 0 ([]))
    else none
   else none
  else none
theorem Qe (w0:World) (hE:Ry w0) (hM:RJ w0) (hP:Pow10 w0) (hT:Lib.Utf8Tabs 1 2 w0) (n:Nat) (B:Aj) (Rw:Am) (L:An) (a0:Int) (a1:Int) (a2:Int) (r:Bool) (h:F5 n a0 a1 a2=some r) :
  ACalls Tryz.prog w0 4 [.val (.int .u8 a0),.val (.int .u8 a1),.val (.int .u8 a2)] ⟨B,Rw,L⟩ fun x st=>x = .val (.bool r)/\st=⟨B,Rw,L⟩:=by
 rw [F5] at h
 refine hd [.tmp 6] Tryz.func4 Tryz.ntmps4 fun M0 W0 hN U Y u hu z hs=>?_
 simp only [As]
 refine rg [0,1,2] hs ?_
 apply Ah;intro K2 N
 obtain ⟨y4,ad,h⟩:=bind_some h
 refine rc 2 [0,1,2,15] hs ?_;intro K3 K
 refine Aq _ (Wn w0 hE hM hP hT n _ _ _  _ ad) (hv hs) ?_
 refine ne hs K ?_
 clear K
 refine BA h hs ?_ ?_<;>intro hs h
 ·have v:=hs.1
  exact nS h
 have v:=hs.1
 refine sk [0,1,2] hs N ?_
 clear N
 obtain ⟨a3,h⟩:=Ak h
 obtain ⟨a4,h⟩:=Ak h
 refine rg [0,1,7] hs ?_
 obtain ⟨aq,h⟩:=Ak h
 obtain ⟨p,J,h⟩:=bind_some h
 refine rc 2 [0,1,7,8] hs ?_;intro K9 O
 refine Aq _ (Q8 w0 n _ _ _ (1+(a2.tmod 5)) 0 (a0.tmod 8) 9 _ J) (hv hs) ?_
 refine ne hs O ?_
 clear O
 refine rg [0,1,7,8,9] hs ?_
 refine AO (fun e st=>∃ (j:Stt) (l:List AV),Ck e st B Rw L [(0,true,.val (.int .u8 a0)),(1,true,.val (.int .u8 a1)),(8,true,.box B.length 0),(9,true,.box (B.length+1) 0)] [Rf p,l] [] (l.map AV.pubCell=DR j/\EV n a0 a1 p j=some r)) ?_ ?_
 ·intro K15 Q
  refine rg [0,1,7,8,9,10] hs ?_
  apply Ao
  refine AB (fun m e st=>∃ (b:Int) (c:Stt) (k:List AV),Ck e st B Rw L [(0,true,.val (.int .u8 a0)),(1,true,.val (.int .u8 a1)),(7,true,Ag (1+(a2.tmod 5))),(8,true,.box B.length 0),(9,true,.box (B.length+1) 0),(10,true,Ag b)] [Rf p,k] [] (k.map AV.pubCell=DR c/\Bz n a0 a1 a2 p m b c=some r)) n ⟨0,(Stt.mk 0 0 ([])),_,([]),Rw,ef hs,ef hs,z,ef hs,h⟩ ?_
  rintro ml17 e st ⟨b,c,k,Xl17,Rl17,rfl,rfl,z,E,h⟩ Ul17 Vl17
  cases ml17 with
  | zero=>cases h
  | succ ml17 =>
  rw [Bz] at h
  refine Ia (B.length+1) (by first | rfl | (simp only [C6,Cd,DC,CV];rfl)) E ?_;simp +decide only [go_sem,Nat.reduceAdd]
  show CW _ _ _ _ _ _ _ _ [(0,true,.val (.int .u8 a0)),(1,true,.val (.int .u8 a1)),(7,true,Ag (1+(a2.tmod 5))),(8,true,.box B.length 0),(9,true,.box (B.length+1) 0),(10,true,Ag b)] ⟨B++([Rf p,DR c]++Xl17),Rl17,L⟩
  refine td hN U Y u z ?_
  apply Ah;intro K18 C
  obtain ⟨ax,h⟩:=Ak h
  refine rg [0,1,7,8,9,10,29] hs ?_
  refine BA h hs ?_ ?_<;>intro hs h
  rotate_left
  ·have o:=hs.1
   refine sx [0,1,8,9] hs Q ?_
   exact ⟨c,_,([]),Rl17,ef hs,ef hs,z,ef hs,h⟩
  have o:=hs.1
  refine sk [0,1,7,8,9,10] hs C ?_
  clear C
  apply Ah;intro K22 i
  apply Ao
  apply Ah;intro K23 D
  obtain ⟨ao,h⟩:=Ak h
  obtain ⟨Z,V,h⟩:=bind_some h
  obtain ⟨d,H,h⟩:=bind_some h
  apply DF GP [7,8] [0,1,7,8,9,10,11] kr (fun s=>∃ (X:Aj) (rows:Am),s=⟨B++([Rf p,DR c]++X),rows,L⟩) 3 (B.length+2)
  ·simp +decide only [go_sem,Nat.reduceAdd]
  ·rintro s ⟨X,rows,rfl⟩
   refine ⟨3,?_⟩
   rw [Ai];simp +decide only [go_sem,Nat.reduceAdd,BK,v,o]
   (repeat' apply Ac)<;>first | refine Aq _ (Qc w0 n _ _ _ (b+1) b _ V) (hv hs) ?_ | exact cl
   rw [Ai];simp +decide only [go_sem,Nat.reduceAdd,v,o]
   (repeat' apply Ac)<;>first | refine Aq _ (G9 w0 hE hM hP hT n _ _ _ p c Z _ H) (hv hs) ?_ | exact cl
   rw [Ai];simp +decide only [go_sem,Nat.reduceAdd,v,o]
   (repeat' apply Ac)<;>first | rfl | exact cl
  ·exact gd (tg (a:=(7,8,[0,1,7,8,9,10,11]))) hs
  simp +decide only [go_sem,Nat.reduceAdd,v,o]
  (repeat' apply Ac)<;>first | refine D _ _ ?_ | exact cl
  clear D
  obtain ⟨ak,h⟩:=Ak h
  refine rg [0,1,7,8,9,10,11,12] hs ?_
  apply Ah;intro K29 f
  apply Ah;intro K30 g
  rcases Bool.eq_false_or_eq_true ((decide ((d.letters.length:Int)=1))&&(decide ((d.fates.length:Int)=1))) with hf31 | hf31
  ·replace h:=BO h hf31
   obtain ⟨ae,ah,ai,q,h⟩:=ix Hn h
   have y:(d.fates.map Hn).getD 0 .junk=_:=q
   rcases Bool.eq_false_or_eq_true (((decide ((a0.tmod 8)<=b)) != (OA ae.text ((⟨#[102,117,108,108]⟩:ByteArray))))||((decide ((a0.tmod 8)<=b)) == (decide ((d.requests.length:Int)=1)))) with hf33 | hf33
   ·replace h:=BO h hf33
    exact nS h
   ·replace h:=BP h hf33
    rcases Bool.eq_false_or_eq_true (!(decide ((a0.tmod 8)<=b))) with hf34 | hf34
    ·replace h:=BO h hf34
     obtain ⟨az,af,ab,w,h⟩:=ix GQ h
     have G:(d.requests.map GQ).getD 0 .junk=_:=w
     obtain ⟨ap,h⟩:=Ak h
     obtain ⟨am,h⟩:=Ak h
     have hs:=Ac hf31 hs
     have hs:=Ac q hs
     have hs:=Ac y hs
     have hs:=Ac hf33 hs
     have hs:=Ac hf34 hs
     have hs:=Ac w hs
     have hs:=Ac G hs
     refine rl [0,1,7,8,9,10,11,87] (al hs) g ?_
     clear g
     refine BA h hs ?_ ?_<;>intro hs h
     ·exact nS h
     refine sk [0,1,7,8,9,10,11] hs f ?_
     clear f
     refine rl [0,1,7,8,9,10] hs i ?_
     clear i
     obtain ⟨ay,h⟩:=Ak h
     refine rl [0,1,7,8,9,10] hs (fun e s=>Vl17 ml17 e s (Nat.lt_succ_self _)) ?_
     exact ⟨(b+1),d.state,_,([ocL d]),Rl17,ef hs,ef hs,z,ef hs,h⟩
    ·replace h:=BP h hf34
     have hs:=Ac hf31 hs
     have hs:=Ac q hs
     have hs:=Ac y hs
     have hs:=Ac hf33 hs
     have hs:=Ac hf34 hs
     refine rl [0,1,7,8,9,10,11,87] (al hs) g ?_
     clear g
     refine Bl false ev (ef hs) (fun hb40=>by cases hb40) (fun hb40=>?_)
     refine sk [0,1,7,8,9,10,11] hs f ?_
     clear f
     refine rl [0,1,7,8,9,10] hs i ?_
     clear i
     obtain ⟨ar,h⟩:=Ak h
     refine rl [0,1,7,8,9,10] hs (fun e s=>Vl17 ml17 e s (Nat.lt_succ_self _)) ?_
     exact ⟨(b+1),d.state,_,([ocL d]),Rl17,ef hs,ef hs,z,ef hs,h⟩
  ·replace h:=BP h hf31
   rcases Bool.eq_false_or_eq_true (((decide ((a0.tmod 8)<=b)) != false)||((decide ((a0.tmod 8)<=b)) == (decide ((d.requests.length:Int)=1)))) with hf42 | hf42
   ·replace h:=BO h hf42
    exact nS h
   ·replace h:=BP h hf42
    rcases Bool.eq_false_or_eq_true (!(decide ((a0.tmod 8)<=b))) with hf43 | hf43
    ·replace h:=BO h hf43
     obtain ⟨a5,aa,ag,t,h⟩:=ix GQ h
     have F:(d.requests.map GQ).getD 0 .junk=_:=t
     obtain ⟨aw,h⟩:=Ak h
     obtain ⟨av,h⟩:=Ak h
     have hs:=Ac hf31 hs
     have hs:=Ac hf42 hs
     have hs:=Ac hf43 hs
     have hs:=Ac t hs
     have hs:=Ac F hs
     refine rl [0,1,7,8,9,10,11,87] (al hs) g ?_
     clear g
     refine BA h hs ?_ ?_<;>intro hs h
     ·exact nS h
     refine sk [0,1,7,8,9,10,11] hs f ?_
     clear f
     refine rl [0,1,7,8,9,10] hs i ?_
     clear i
     obtain ⟨aj,h⟩:=Ak h
     refine rl [0,1,7,8,9,10] hs (fun e s=>Vl17 ml17 e s (Nat.lt_succ_self _)) ?_
     exact ⟨(b+1),d.state,_,([ocL d]),Rl17,ef hs,ef hs,z,ef hs,h⟩
    ·replace h:=BP h hf43
     have hs:=Ac hf31 hs
     have hs:=Ac hf42 hs
     have hs:=Ac hf43 hs
     refine rl [0,1,7,8,9,10,11,87] (al hs) g ?_
     clear g
     refine Bl false ev (ef hs) (fun hb49=>by cases hb49) (fun hb49=>?_)
     refine sk [0,1,7,8,9,10,11] hs f ?_
     clear f
     refine rl [0,1,7,8,9,10] hs i ?_
     clear i
     obtain ⟨au,h⟩:=Ak h
     refine rl [0,1,7,8,9,10] hs (fun e s=>Vl17 ml17 e s (Nat.lt_succ_self _)) ?_
     exact ⟨(b+1),d.state,_,([ocL d]),Rl17,ef hs,ef hs,z,ef hs,h⟩
 ·clear h;rintro e st ⟨j,l,Xk14,Rk14,rfl,rfl,z,E,h⟩
  rw [EV] at h
  refine Ia (B.length+1) (by first | rfl | (simp only [C6,Cd,DC,CV];rfl)) E ?_;simp +decide only [go_sem,Nat.reduceAdd]
  show CW _ _ _ _ _ _ _ _ [(0,true,.val (.int .u8 a0)),(1,true,.val (.int .u8 a1)),(8,true,.box B.length 0),(9,true,.box (B.length+1) 0)] ⟨B++([Rf p,DR j]++Xk14),Rk14,L⟩
  exact go (tg (a:=([0,1,9,13],([6],()),((),())))) h hs hN U Y u z (q2 (V3 w0 hT n) (OL w0 n)) trivial
def okB (r:Option Bool):Bool:=match r with
 | some b=>b
 | none=>false
theorem Zf9 {r:Option Bool} (h:okB r=true):r=some true:=by
 cases r with
 | none=>cases h
 | some b=>rw [show b=true from h]
theorem Za2 {a b:Int} (h:0<=a) (hb:b≠0):(a.tmod b).tmod b=a.tmod b:=by
 rw [Int.tmod_eq_emod_of_nonneg h,Int.tmod_eq_emod_of_nonneg (Int.emod_nonneg _ hb),Int.emod_emod_of_dvd _ (Int.dvd_refl b)]
theorem ZaN (n:Nat) {a0 a1 a2:Int} (h0:0<=a0) (h1:0<=a1) (h2:0<=a2) (y:Nod):∀ (m:Nat) (x:Int) (s:Stt),Bz n a0 a1 a2 y m x s=Bz n (a0.tmod 8) (a1.tmod 13) (a2.tmod 5) y m x s
 | 0,_,_=>rfl
 | m+1,x,s=>by
  simp only [Bz,EV,Za2 h0 (show (8:Int)≠0 by decide),Za2 h1 (show (13:Int)≠0 by decide),Za2 h2 (show (5:Int)≠0 by decide),ZaN n h0 h1 h2 y m]
def okL (m l c k:Nat):Bool:=okB ((Jp (m+100) (1+(k:Int)) 0 (l:Int) 9).bind fun y=>Bz (m+100) (l:Int) (c:Int) (k:Int) y (m+100) 0 (Stt.mk 0 0 ([])))
theorem Zjk (m:Nat):((List.range 13).all fun c=>(List.range 5).all fun k=>okL m 0 c k)=true:=by kernel_rfl
theorem ZiE (m:Nat):((List.range 13).all fun c=>(List.range 5).all fun k=>okL m 1 c k)=true:=by kernel_rfl
theorem Zil (m:Nat):((List.range 13).all fun c=>(List.range 5).all fun k=>okL m 2 c k)=true:=by kernel_rfl
theorem Zir (m:Nat):((List.range 13).all fun c=>(List.range 5).all fun k=>okL m 3 c k)=true:=by kernel_rfl
theorem ZiJ (m:Nat):((List.range 13).all fun c=>(List.range 5).all fun k=>okL m 4 c k)=true:=by kernel_rfl
theorem Zi9 (m:Nat):((List.range 13).all fun c=>(List.range 5).all fun k=>okL m 5 c k)=true:=by kernel_rfl
theorem Zjj (m:Nat):((List.range 13).all fun c=>(List.range 5).all fun k=>okL m 6 c k)=true:=by kernel_rfl
theorem Ziy (m:Nat):((List.range 13).all fun c=>(List.range 5).all fun k=>okL m 7 c k)=true:=by kernel_rfl
theorem ZkH (m l c k:Nat) (hl:l<8) (hc:c<13) (hk:k<5):okL m l c k=true:=by
 have h:∀ l,(List.range 13).all (fun c=>(List.range 5).all fun k=>okL m l c k)=true->okL m l c k=true:=fun l h=>List.all_eq_true.1 (List.all_eq_true.1 h c (List.mem_range.2 hc)) k (List.mem_range.2 hk)
 match l,hl with
 | 0,_=>exact h 0 (Zjk m)
 | 1,_=>exact h 1 (ZiE m)
 | 2,_=>exact h 2 (Zil m)
 | 3,_=>exact h 3 (Zir m)
 | 4,_=>exact h 4 (ZiJ m)
 | 5,_=>exact h 5 (Zi9 m)
 | 6,_=>exact h 6 (Zjj m)
 | 7,_=>exact h 7 (Ziy m)
theorem XS (n:Nat) (hn:1000<=n) (a0 a1 a2:Int) (h0:0<=a0/\a0<=255) (h1:0<=a1/\a1<=255) (h2:0<=a2/\a2<=255):F5 n a0 a1 a2=some true:=by
 have d:0<=a0.tmod 8/\a0.tmod 8<8:=by rw [Int.tmod_eq_emod_of_nonneg h0.1];omega
 have b:0<=a1.tmod 13/\a1.tmod 13<13:=by rw [Int.tmod_eq_emod_of_nonneg h1.1];omega
 have a:0<=a2.tmod 5/\a2.tmod 5<5:=by rw [Int.tmod_eq_emod_of_nonneg h2.1];omega
 obtain ⟨l,el⟩:∃ l:Nat,a0.tmod 8=(l:Int):=⟨(a0.tmod 8).toNat,by omega⟩
 obtain ⟨c,ec⟩:∃ c:Nat,a1.tmod 13=(c:Int):=⟨(a1.tmod 13).toNat,by omega⟩
 obtain ⟨k,ek⟩:∃ k:Nat,a2.tmod 5=(k:Int):=⟨(a2.tmod 5).toNat,by omega⟩
 obtain ⟨m,rfl⟩:∃ m,n=m+100:=⟨n-100,by omega⟩
 have h:=Zf9 (ZkH m l c k (by omega) (by omega) (by omega))
 rw [F5,Zfe _ (by omega),Option.bind_some,Bool.not_true,Ae (by decide),Ad (by unfold B1;omega),Ad (by unfold B1;omega),Ad (by unfold B1;omega)]
 simp only [ZaN (m+100) h0.1 h1.1 h2.1,el,ec,ek]
 exact h
end Go.Proofs.YtcpmjgdlioggjaaGreatDoor
