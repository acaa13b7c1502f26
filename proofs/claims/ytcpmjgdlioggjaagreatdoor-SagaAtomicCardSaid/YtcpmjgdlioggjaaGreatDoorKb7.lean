/-
  Part 7 of the proof: rules and walks that the claim's last text uses.
-/
import Derived.Test.YtcpmjgdlioggjaaGreatDoorKb1
import Derived.Test.YtcpmjgdlioggjaaGreatDoorKb2
import Derived.Test.YtcpmjgdlioggjaaGreatDoorKb3
import Derived.Test.YtcpmjgdlioggjaaGreatDoorKb4
import Derived.Test.YtcpmjgdlioggjaaGreatDoorKb5
import Derived.Test.YtcpmjgdlioggjaaGreatDoorKb6
set_option linter.unusedSimpArgs false
set_option linter.unusedVariables false
set_option maxRecDepth 100000
set_option maxHeartbeats 4000000
namespace Go.Proofs.YtcpmjgdlioggjaaGreatDoor
open Go Go.RowKit Go.Ev
def Es (rec:Bool->Bool->Ty->Vl->ByteArray->Option (Bool × Bool)) (n:Nat) (x0_ok:Bool) (a0_done:Bool) (g:Ty) (y:Vl) (a3:ByteArray) (b:Bool):Option (Bool × Bool) :=
 if b then
  (FD a0_done x0_ok g a3 y.int).bind fun h =>
  some ((h.1,h.2))
 else
  if decide (g.kind=3) then
   Av
  else
   if decide (g.kind=4) then
    Av
   else
    if decide (g.kind=5) then
     Av
    else
     if decide (g.kind=8) then
      Av
     else
      if decide (g.kind=9) then
       (Gh rec n a0_done x0_ok g y a3).bind fun q =>
       some ((q.1,q.2))
      else
       Av
def G0 (rec:Bool->Bool->Ty->Vl->ByteArray->Option (Bool × Bool)) (n:Nat) (a0_done:Bool) (x0_ok:Bool) (b:Ty) (g:Vl) (h:ByteArray):Option (Bool × Bool) :=
 if a0_done then
  Av
 else
  if ((decide (b.kind<1))||(decide (10<b.kind)))||(!(decide (g.kind=b.kind))) then
   Av
  else
   (I7 n g).bind fun q =>
   if !q then
    Av
   else
    if decide (b.kind=2) then
     Es rec n x0_ok a0_done b g h true
    else
     if decide (b.kind=6) then
      Av
     else
      Es rec n x0_ok a0_done b g h (decide (b.kind=7))
def FA:Nat->Bool->Bool->Ty->Vl->ByteArray->Option (Bool × Bool)
 | 0,_,_,_,_,_=>none
 | n+1,a0_done,x0_ok,g,h,b=>G0 (FA n) n a0_done x0_ok g h b
def GY (w0:World) (F:Bool->Bool->Ty->Vl->ByteArray->Option (Bool × Bool)):Prop:=∀ (B:Aj) (Rw:Am) (L:An) (lx0_ok:Nat) (la0:Nat) (a0_done:Bool) (hla0:B[la0]? = some ([.clo 200 [.box lx0_ok 0],.val (.bool a0_done)])) (x0_ok:Bool) (hlx0_ok:B[lx0_ok]? = some ([.val (.bool x0_ok)])) (hne_lx0_ok_la0:lx0_ok≠la0) (g:Ty) (h:Vl) (b:ByteArray) (r:Bool × Bool),F a0_done x0_ok g h b=some r->ACalls Tryz.prog w0 201 [.box la0 0,.agg (g.cs),.agg (h.cs),.val (.string b)] ⟨B,Rw,L⟩ fun x st=>x = .tup []/\st=⟨((B.set la0 ([.clo 200 [.box lx0_ok 0],.val (.bool r.1)])).set lx0_ok [.val (.bool r.2)]),Rw,L⟩
theorem N1 (w0:World) (rec:Bool->Bool->Ty->Vl->ByteArray->Option (Bool × Bool)) (ih:GY w0 rec) (n:Nat):GY w0 (G0 rec n):=by
 intro B Rw L d x j f w c b a1 a2 a3 r h
 rw [G0] at h
 refine hd [] Tryz.func201 Tryz.ntmps201 fun M0 W0 Q H K i Z z hs=>?_
 simp only [As]
 have N:=(Af.1 f).1
 have C:=(Af.1 c).1
 have o:=Ac (AD f) (Ac (AD c) (Ac (Eb f b) (Ac (Eb c (Ne.symm b)) (Ac (Qh b) (Ac (Kz f d) (Ac (Kz c x) (Ac (JZ f x d) (Ac (JZ c x d) (Ac (Im d) (Ac (Im x) (Ac (Vp f b) (RP c (Ne.symm b)))))))))))))
 have hs:=Ac o hs
 refine rg [0,3,5,6] hs ?_
 apply Ah;intro K2 D
 apply Ao
 refine rg [0,3,5,6,13] hs ?_
 refine BA h hs ?_ ?_<;>intro hs h
 ·have m:=hs.1
  exact nS h
 have m:=hs.1
 refine rg [0,3,5,6,18] hs ?_
 refine BA h hs ?_ ?_<;>intro hs h
 ·have p:=hs.1
  exact nS h
 have p:=hs.1
 obtain ⟨Y,O,h⟩:=bind_some h
 refine rc 2 [0,3,5,6,37] hs ?_;intro K7 E
 refine Aq _ (ON w0 n _ _ _ a2 _ O) (hv hs) ?_
 refine ne hs E ?_
 clear E
 refine BA h hs ?_ ?_<;>intro hs h
 ·have l:=hs.1
  exact nS h
 have l:=hs.1
 refine sk [0,3,5,6] hs D ?_
 clear D
 refine rg [0,3,5,6,45] hs ?_
 apply Ao
 refine AO (fun e st=>∃ (k:Bool),Ck e st B Rw L [(0,true,.box x 0),(3,true,.val (.string a3)),(5,true,.box B.length 0),(6,true,.box (B.length+1) 0),(45,true,Ag a1.kind),(46,true,.val (.bool k))] [a1.cs,a2.cs] [] (Es rec n w j a1 a2 a3 k=some r)) ?_ ?_
 ·intro K13 G
  exact go (tg (a:=([0,3,5,6,45,46],([0,3,5,6,45,46],()),[0,3,5,6,45,46],((),()),[0,3,5,6,45,46],()))) h hs Q H K i z trivial (q1 G)
 ·clear h;rintro e st ⟨k,Xk12,Rk12,rfl,rfl,z,h⟩
  rw [Es] at h
  refine td Q H K i z ?_
  refine BA h hs ?_ ?_<;>intro hs h
  ·have g:=hs.1
   obtain ⟨V,J,h⟩:=bind_some h
   apply Ap 2 []
   rw [Ai];simp +decide only [go_sem,Nat.reduceAdd,o,m,p,l,g]
   (repeat' apply Ac)<;>first | (refine Bm _ (MZ w0 _ _ _ d x j (ef hs) w (ef hs) nq a1 a3 a2.int _ J) (hv hs) ?_;rintro _ _ ⟨rfl,rfl⟩) | exact cl
   rw [Ai];simp +decide only [go_sem,Nat.reduceAdd,o,m,p,l,g]
   (repeat' with_reducible apply Ac)<;>first | exact cl | skip
   have hgt:=Option.some.inj h;subst hgt
   first | refine Cb (AA (AA i ow) ow) GR z.pre ev ⟨?_,by first | rfl | (simp only [Bc f,Bc c];done)⟩ | refine Dq (AA (AA i ow) ow) GR z.pre ev ⟨?_,by first | rfl | (simp only [Bc f,Bc c];done)⟩
   first | rfl | (simp +decide only [go_sem,Nat.reduceAdd,o,m,p,l,g];done) | (simp +decide only [go_sem,Nat.reduceAdd,Vl.cs,Ty.cs,o,m,p,l,g];done)
  have g:=hs.1
  refine rg [0,3,5,6,45,56] hs ?_
  refine BA h hs ?_ ?_<;>intro hs h
  ·have q:=hs.1
   exact nS h
  have q:=hs.1
  apply Ah;intro K22 y
  refine rg [0,3,5,6,45,72] hs ?_
  refine BA h hs ?_ ?_<;>intro hs h
  ·have u:=hs.1
   exact nS h
  have u:=hs.1
  refine rl [0,3,5,6,45,72] hs y ?_
  clear y
  refine BA h hs ?_ ?_<;>intro hs h
  ·have v:=hs.1
   exact nS h
  have v:=hs.1
  refine rg [0,3,5,6,45,100] hs ?_
  refine BA h hs ?_ ?_<;>intro hs h
  ·have s:=hs.1
   exact nS h
  have s:=hs.1
  refine rg [0,3,5,6,45,139] hs ?_
  refine BA h hs ?_ ?_<;>intro hs h
  ·have t:=hs.1
   obtain ⟨U,F,h⟩:=bind_some h
   apply Ap 2 []
   rw [Ai];simp +decide only [go_sem,Nat.reduceAdd,o,m,p,l,g,q,u,v,s,t]
   (repeat' apply Ac)<;>first | (refine Bm _ (NE w0 rec ih n _ _ _ d x j (ef hs) w (ef hs) nq a1 a2 a3 _ F) (hv hs) ?_;rintro _ _ ⟨rfl,rfl⟩) | exact cl
   rw [Ai];simp +decide only [go_sem,Nat.reduceAdd,o,m,p,l,g,q,u,v,s,t]
   (repeat' with_reducible apply Ac)<;>first | exact cl | skip
   have hgt:=Option.some.inj h;subst hgt
   first | refine Cb (AA (AA i ow) ow) GR z.pre ev ⟨?_,by first | rfl | (simp only [Bc f,Bc c];done)⟩ | refine Dq (AA (AA i ow) ow) GR z.pre ev ⟨?_,by first | rfl | (simp only [Bc f,Bc c];done)⟩
   first | rfl | (simp +decide only [go_sem,Nat.reduceAdd,o,m,p,l,g,q,u,v,s,t];done) | (simp +decide only [go_sem,Nat.reduceAdd,Vl.cs,Ty.cs,o,m,p,l,g,q,u,v,s,t];done)
  have t:=hs.1
  exact nS h
theorem JS (w0:World):∀ n:Nat,GY w0 (FA n)
 | 0=>fun _ _ _ _ _ _ _ _ _ _ _ _ _ _ h=>(nomatch h)
 | n+1=>N1 w0 (FA n) (JS w0 n) n
def PD (n:Nat) (h:Ty) (g:Vl):Option Bool :=
 (FA n false true h g (⟨#[]⟩:ByteArray)).bind fun b =>
 some (b.2)
theorem WX (w0:World) (n:Nat) (B:Aj) (Rw:Am) (L:An) (a0:Ty) (a1:Vl) (r:Bool) (h:PD n a0 a1=some r) :
  ACalls Tryz.prog w0 141 [.agg (a0.cs),.agg (a1.cs)] ⟨B,Rw,L⟩ fun x st=>x = .val (.bool r)/\st=⟨B,Rw,L⟩:=by
 rw [PD] at h
 refine hd [.tmp 4] Tryz.func141 Tryz.ntmps141 fun M0 W0 g e f a i d hs=>?_
 simp only [As]
 refine rg [2,3] hs ?_
 refine rg [2,3,5] hs ?_
 refine rg [2,3,5,6] hs ?_
 obtain ⟨j,c,h⟩:=bind_some h
 refine rc 2 [5] hs ?_;intro K4 b
 refine Bm _ (JS w0 n _ _ _ (B.length+2) (B.length+3) false ev true ev nq a0 a1 (⟨#[]⟩:ByteArray) _ c) (hv hs) ?_;rintro _ _ ⟨rfl,rfl⟩
 refine ne hs b ?_
 clear b
 refine rg [4] hs ?_
 exact rt h hs a d
def JW (n:Nat) (g:Ty) (y:Vl):Option (Vl × Int) :=
 (G5 n g y).bind fun h =>
 (PD n g h).bind fun q =>
 if !q then
  some ((Vl.mk 0 0 0 (⟨#[]⟩:ByteArray) ([]) ([]),18))
 else
  (Ce n h).bind fun b =>
  some ((b,0))
theorem RH (w0:World) (n:Nat) (B:Aj) (Rw:Am) (L:An) (a0:Ty) (a1:Vl) (r:Vl × Int) (h:JW n a0 a1=some r) :
  ACalls Tryz.prog w0 96 [.agg (a0.cs),.agg (a1.cs)] ⟨B,Rw,L⟩ fun x st=>x = .tup [.agg (r.1.cs),Ag r.2]/\st=⟨B,Rw,L⟩:=by
 rw [JW] at h
 refine hd [.cell 4 60,.tmp 5] Tryz.func96 Tryz.ntmps96 fun M0 W0 f c d b g e hs=>?_
 simp only [As]
 exact go (tg (a:=([2,3,4],[2,4,6],[4,6,13],([4,5],()),[4,6],[4,5],()))) h hs f c d b e (q3 (MO w0 n) (WX w0 n) (BX w0 n)) trivial
def Ey (b:Part):Bool :=
 !(decide (b.kind=1))
theorem Qa (w0:World) (B:Aj) (Rw:Am) (L:An) (a0:Part) (r:Bool) (h:Ey a0=r) :
  ACalls Tryz.prog w0 130 [.agg (Ag a0.kind::(Ag a0.index::([.val (.string a0.name)])))] ⟨B,Rw,L⟩ fun x st=>x = .val (.bool r)/\st=⟨B,Rw,L⟩:=by
 rw [Ey] at h
 refine hd [.tmp 2] Tryz.func130 Tryz.ntmps130 fun M0 W0 e c d a f b hs=>?_
 simp only [As]
 refine rg [1] hs ?_
 refine rg [2] hs ?_
 exact rT h hs a b
theorem Pz (w0:World) (B:Aj) (Rw:Am) (L:An) (a0:Part) :
  ACalls Tryz.prog w0 130 [.agg (Ag a0.kind::(Ag a0.index::([.val (.string a0.name)])))] ⟨B,Rw,L⟩ fun x st=>x = .val (.bool (Ey a0))/\st=⟨B,Rw,L⟩:=Qa w0 B Rw L a0 _ rfl
def QW (g:List Part) (b:List Part):Option Bool :=
 if decide ((b.length:Int)<=(g.length:Int)) then
  Av
 else
  Av
def F4 (g:List Part) (b:List Part):Option Bool :=
 (QW b g).bind fun h =>
 if h then
  Av
 else
  Av
theorem PI (w0:World) (B:Aj) (Rw:Am) (L:An) (a0:List Part) (la1:Nat) (a1:List Part) (hla1:B[la1]? = some ([.list (a1.map CY) .none])) (r:Bool) (h:F4 a0 a1=some r) :
  ACalls Tryz.prog w0 132 [.list (a0.map CY) .none,.box la1 0] ⟨B,Rw,L⟩ fun x st=>x = .val (.bool r)/\st=⟨B,Rw,L⟩:=by
 rw [F4] at h
 refine hd [.tmp 3] Tryz.func132 Tryz.ntmps132 fun M0 W0 g d e b i f hs=>?_
 simp only [As]
 have c:=(Af.1 hla1).1
 have hs:=Ac (AD hla1) hs
 exact go (tg (a:=([0,1],((),()),((),())))) h hs g d e b f trivial trivial
def Fo (n:Nat)  : Option Int :=
 some ((-1))
def Fp (n:Nat) (b:List (List Part)):Nat->Option Int
 | 0=>none
 | m+1 =>
  if decide (0<(b.length:Int)) then
   Av
  else
   Fo n 
def FC (n:Nat) (b:List (List Part)) (g:(List Part)->Option Bool):Option Int :=
 Fp n b n 
theorem M7 (w0:World) (n:Nat) (B:Aj) (Rw:Am) (L:An) (a0:List (List Part)) (fa1:FuncId) (ca1:List AV) (a1:(List Part)->Option Bool) (ha1:∀ (x0:List Part) r,a1 x0=some r->∀ B' rows,B <+: B'->Rw <+: rows->ACalls Tryz.prog w0 fa1 ([.list (x0.map CY) .none]++ca1) ⟨B',rows,L⟩ fun v s=>v = .val (.bool r)/\s=⟨B',rows,L⟩) (r:Int) (h:FC n a0 a1=some r) :
  ACalls Tryz.prog w0 187 [.list (a0.map (Rn CY)) .none,.clo fa1 ca1] ⟨B,Rw,L⟩ fun x st=>x=Ag r/\st=⟨B,Rw,L⟩:=by
 rw [FC] at h
 refine hd [.tmp 4] Tryz.func187 Tryz.ntmps187 fun M0 W0 j f g c k d hs=>?_
 simp only [As]
 have b:=BJ (k (.clo fa1 ca1) (by simp))
 refine rg [0,1] hs ?_
 refine AO (fun e st=>Ck e st B Rw L [] [] [] (Fo n  = some r)) ?_ ?_
 ·intro K4 i
  refine rg [0,1,7,8] hs ?_
  apply Ao
  refine AB (fun m e st=>Ck e st B Rw L [(0,true,.list (a0.map (Rn CY)) .none),(1,true,.clo fa1 ca1),(7,true,Ag (a0.length:Int)),(8,true,Ag 0)] [] [] (Fp n a0 m  = some r)) n ⟨([]),Rw,ef hs,ef hs,d,h⟩ ?_
  rintro ml6 e st ⟨Xl6,Rl6,rfl,rfl,d,h⟩ Ul6 Vl6
  cases ml6 with
  | zero=>cases h
  | succ ml6 =>
  rw [Fp] at h
  refine A8 j f g rfl c d (Hv b d) (Hv b d) ?_
  exact go (tg (a:=([0,1,7,8,9],((),()),[],()))) h hs j f g c d trivial (q1 i)
 ·clear h;rintro e st ⟨Xk3,Rk3,rfl,rfl,d,h⟩
  rw [Fo] at h
  refine A8 j f g rfl c d (Hv b d) (Hv b d) ?_
  refine rg [4] hs ?_
  exact rt h hs c d
def EK (n:Nat) (g:List (List Part)) (b:(List Part)->Option Bool):Option Bool :=
 (FC n g b).bind fun h =>
 some (decide (0<=h))
theorem La (w0:World) (n:Nat) (B:Aj) (Rw:Am) (L:An) (a0:List (List Part)) (fa1:FuncId) (ca1:List AV) (a1:(List Part)->Option Bool) (ha1:∀ (x0:List Part) r,a1 x0=some r->∀ B' rows,B <+: B'->Rw <+: rows->ACalls Tryz.prog w0 fa1 ([.list (x0.map CY) .none]++ca1) ⟨B',rows,L⟩ fun v s=>v = .val (.bool r)/\s=⟨B',rows,L⟩) (r:Bool) (h:EK n a0 a1=some r) :
  ACalls Tryz.prog w0 131 [.list (a0.map (Rn CY)) .none,.clo fa1 ca1] ⟨B,Rw,L⟩ fun x st=>x = .val (.bool r)/\st=⟨B,Rw,L⟩:=by
 rw [EK] at h
 refine hd [.tmp 4] Tryz.func131 Tryz.ntmps131 fun M0 W0 m i k b j g hs=>?_
 simp only [As]
 have f:=BJ (j (.clo fa1 ca1) (by simp))
 refine rg [0,1] hs ?_
 obtain ⟨o,e,h⟩:=bind_some h
 refine rc 2 [4] hs ?_;intro K2 c
 refine Aq _ (M7 w0 n _ _ _ a0 fa1 ca1 a1 (fun x0 r l d a q1 q2=>ha1 x0 r l d a (List.IsPrefix.trans px q1) (g.pre.trans q2)) _ e) (hv hs) ?_
 refine ne hs c ?_
 clear c
 exact rt h hs b g
def IR (n:Nat)  : Option Int :=
 some (0)
def FV (n:Nat) (a0:List (ByteArray × Ex)):Nat->(List (List Part))->Int->Option Int
 | 0,_,_=>none
 | m+1,g,b =>
  if decide (b<(a0.length:Int)) then
   (D1 a0 b).bind fun y =>
   (Ji n y.1).bind fun h =>
   if !(decide (h.2=0)) then
    Av
   else
    (CC n h.1 (fun (x0:Part)=>some (Ey x0))).bind fun y23 =>
    if y23 then
     Av
    else
     (EK n g (fun (x0:List Part)=>F4 x0 h.1)).bind fun q =>
     if q then
      Av
     else
      if (g.length+1)*24<=140737488355328/\g.length+1<=4611686018427387904 then
       if B1 (b+1) then
        (FV n a0 m) (g++([h.1])) (b+1)
       else none
      else none
  else
   IR n 
def Jq (n:Nat) (b:List (ByteArray × Ex)):Option Int :=
 if decide (256<(b.length:Int)) then
  Av
 else
  FV n b n ([]) 0
theorem RE (w0:World) (n:Nat) (B:Aj) (Rw:Am) (L:An) (a0:List (ByteArray × Ex)) (r:Int) (h:Jq n a0=some r) :
  ACalls Tryz.prog w0 92 [.agg ([.list (a0.map Do) .none])] ⟨B,Rw,L⟩ fun x st=>x=Ag r/\st=⟨B,Rw,L⟩:=by
 rw [Jq] at h
 refine hd [.tmp 2] Tryz.func92 Tryz.ntmps92 fun M0 W0 N u v g Z i hs=>?_
 simp only [As]
 refine rg [1] hs ?_
 apply Ah;intro K2 y
 refine rg [1,11] hs ?_
 refine BA h hs ?_ ?_<;>intro hs h
 ·exact nS h
 refine sk [1] hs y ?_
 clear y
 refine rg [1,3] hs ?_
 refine AO (fun e st=>Ck e st B Rw L [] [[.list (a0.map Do) .none]] [] (IR n  = some r)) ?_ ?_
 ·intro K8 J
  refine rg [3,13,14,15] hs ?_
  apply Ao
  refine AB (fun m e st=>∃ (b:List (List Part)) (d:Int) (c:Ev.Own),Ck e st B Rw L [(3,true,.list (b.map (Rn CY)) c),(13,true,.list (a0.map Do) .none),(14,true,Ag (a0.length:Int)),(15,true,Ag d)] [[.list (a0.map Do) .none]] [(1,b.length,c)] (FV n a0 m b d=some r)) n ⟨([]),0,.full,([]),Rw,ef hs,ef hs,Owns.of_eq ((i).full 1 0) Fe,h⟩ ?_
  rintro ml10 e st ⟨b,d,c,Xl10,Rl10,rfl,rfl,i,h⟩ Ul10 Vl10
  cases ml10 with
  | zero=>cases h
  | succ ml10 =>
  rw [FV] at h
  have U:=i.unders
  simp only [List.mem_cons,List.not_mem_nil,or_false,forall_eq_or_imp,forall_eq] at U
  refine td N u v g i ?_
  refine rg [3,13,14,15,16] hs ?_
  apply Ah;intro K12 j
  refine BA h hs ?_ ?_<;>intro hs h
  rotate_left
  ·refine sx [] hs J ?_
   exact ⟨([]),Rl10,ef hs,ef hs,(i).sub (List.sublist_append_left [] [(1,b.length,c)]),h⟩
  refine sk [3,13,14,15] hs j ?_
  clear j
  apply Ah;intro K14 C
  apply Ao
  obtain ⟨O,E,h⟩:=bind_some h
  obtain ⟨G,K,t⟩:=Bo E
  have q:=Bq (f:=Do) t
  have hs:=Ac q hs
  refine rg [3,5,13,14,15] hs ?_
  obtain ⟨p,F,h⟩:=bind_some h
  refine rc 2 [3,6,7,13,14,15] hs ?_;intro K17 o
  refine Aq _ (L2 w0 n _ _ _ O.1 _ F) (hv hs) ?_
  refine ne hs o ?_
  clear o
  apply Ah;intro K19 z
  apply Ao
  refine rg [3,6,7,13,14,15,25] hs ?_
  refine BA h hs ?_ ?_<;>intro hs h
  ·exact nS h
  obtain ⟨Y,hy23,h⟩:=bind_some h
  refine rc 2 [3,6,13,14,15,29] hs ?_;intro K22 k
  refine Aq _ (EF w0 n _ _ _ p.1 130 [] (fun (x0:Part)=>some (Ey x0)) (fun x0 r hx Q rows' D H=>by cases hx;exact Pz w0 _ _ _ x0) _ hy23) (hv hs) ?_
  refine ne hs k ?_
  clear k
  refine BA h hs ?_ ?_<;>intro hs h
  ·exact nS h
  obtain ⟨V,w,h⟩:=bind_some h
  refine rc 2 [3,6,13,14,15,32] hs ?_;intro K25 l
  refine Aq _ (La w0 n _ _ _ b 132 [.box (B.length+2) 0] (fun (x0:List Part)=>F4 x0 p.1) (fun x0 r hx Q rows' D H=>by exact PI w0 _ _ _ x0 _ p.1 (Ej D (ef hs)) _ hx) _ w) (hv hs) ?_
  refine ne hs l ?_
  clear l
  exact go (tg (a:=(((),()),[3,6,13,14,15],[3,13,14,15],[3,13,14,15],()))) h hs N u v g i (q1 (ae Y4 Ve)) (q3 z C (fun e s=>Vl10 ml10 e s (Nat.lt_succ_self _)))
 ·clear h;rintro e st ⟨Xk7,Rk7,rfl,rfl,i,h⟩
  rw [IR] at h
  refine td N u v g i ?_
  refine rg [2] hs ?_
  exact rt h hs g i
def EU (n:Nat)  : Option Int :=
 some ((-1))
def Dm (n:Nat) (q:List (ByteArray × Vl)) (y:(ByteArray × Vl)->Option Bool):Nat->Int->Option Int
 | 0,_=>none
 | m+1,b =>
  if decide (b<(q.length:Int)) then
   (D1 q b).bind fun g =>
   (y g).bind fun h =>
   if h then
    some (b)
   else
    if B1 (b+1) then
     (Dm n q y m) (b+1)
    else none
  else
   EU n 
def Fh (n:Nat) (g:List (ByteArray × Vl)) (b:(ByteArray × Vl)->Option Bool):Option Int :=
 Dm n g b n 0
theorem MD (w0:World) (n:Nat) (B:Aj) (Rw:Am) (L:An) (oa0:VO) (a0:List (ByteArray × Vl)) (hVa0:VP Rw oa0 7 (a0.flatMap fun x=>(B7 x).cells)) (fa1:FuncId) (ca1:List AV) (a1:(ByteArray × Vl)->Option Bool) (ha1:∀ (x0:ByteArray × Vl) r,a1 x0=some r->∀ B' rows,B <+: B'->Rw <+: rows->ACalls Tryz.prog w0 fa1 ([.agg (.val (.string x0.1)::(x0.2.cs))]++ca1) ⟨B',rows,L⟩ fun v s=>v = .val (.bool r)/\s=⟨B',rows,L⟩) (r:Int) (h:Fh n a0 a1=some r) :
  ACalls Tryz.prog w0 77 [Gk oa0 a0.length,.clo fa1 ca1] ⟨B,Rw,L⟩ fun x st=>x=Ag r/\st=⟨B,Rw,L⟩:=by
 rw [Fh] at h
 refine hd [.tmp 4] Tryz.func77 Tryz.ntmps77 fun M0 W0 J q t b V g hs=>?_
 simp only [As]
 have c:=BJ (V (.clo fa1 ca1) (by simp))
 refine rg [0,1] hs ?_
 refine AO (fun e st=>Ck e st B Rw L [] [] [] (EU n  = some r)) ?_ ?_
 ·intro K4 H
  apply Ah;intro K5 y
  have D:=(hVa0.up g).lenV (by decide:0<7) (CJ (f:=B7) (sz:=7) (fun _=>by simp +decide only [go_sem]) a0) Tryz.prog 58
  simp +decide only [go_sem] at D
  have hs:=Ac D hs
  refine rl [0,1,7,8] hs y ?_
  clear y
  apply Ao
  refine AB (fun m e st=>∃ (i:Int),Ck e st B Rw L [(0,true,Gk oa0 a0.length),(1,true,.clo fa1 ca1),(7,true,Ag (a0.length:Int)),(8,true,Ag i)] [] [] (Dm n a0 a1 m i=some r)) n ⟨0,([]),Rw,ef hs,ef hs,g,h⟩ ?_
  rintro ml7 e st ⟨i,Xl7,Rl7,rfl,rfl,g,h⟩ Ul7 Vl7
  cases ml7 with
  | zero=>cases h
  | succ ml7 =>
  rw [Dm] at h
  have d:=(hVa0.up g).under;(try simp only [PQ] at d)
  refine A8 J q t rfl b g (Hv c g) (Hv c g) ?_
  refine rg [0,1,7,8,9] hs ?_
  apply Ah;intro K9 u
  refine BA h hs ?_ ?_<;>intro hs h
  rotate_left
  ·refine sx [] hs H ?_
   exact ⟨([]),Rl7,ef hs,ef hs,g,h⟩
  refine sk [0,1,7,8] hs u ?_
  clear u
  apply Ah;intro K11 z
  apply Ao
  refine rg [0,1,5,7,8] hs ?_
  apply Ah;intro K13 C
  obtain ⟨Q,w,h⟩:=bind_some h
  obtain ⟨G,K,l⟩:=Bo w
  obtain ⟨O,E,hqx14,F,k⟩:=(hVa0.up g).row (by rw [(CJ (f:=B7) (sz:=7) (fun _=>by simp +decide only [go_sem]) _)];exact Nat.mul_pos (by omega) (by decide))
  subst hqx14
  have p:=W7 (f:=B7) (sz:=7) (fun _=>by simp +decide only [go_sem]) l
  have j:=F9 (f:=fun x=>(B7 x).cells) 7 (fun _=>by simp +decide only [go_sem]) l
  have o:=CJ (f:=B7) (sz:=7) (fun _=>by simp +decide only [go_sem]) a0
  simp only [A2,A0,AY,A3,AZ,AX,AN,AG,A1,Ax,Az,AH,AM,AL,A5,AK,A6,J3,Gz] at p j k o
  obtain ⟨U,N,h⟩:=bind_some h
  have hs:=Ac p hs
  have hs:=Ac j hs
  have hs:=Ac k hs
  have hs:=Ac o hs
  exact go (tg (a:=([0,1,5,7,8,16],([4],()),[0,1,7,8],[0,1,7,8],()))) h hs J q t b g (q1 ha1) (q3 C z (fun e s=>Vl7 ml7 e s (Nat.lt_succ_self _)))
 ·clear h;rintro e st ⟨Xk3,Rk3,rfl,rfl,g,h⟩
  rw [EU] at h
  have d:=(hVa0.up g).under;(try simp only [PQ] at d)
  refine A8 J q t rfl b g (Hv c g) (Hv c g) ?_
  refine rg [4] hs ?_
  exact rt h hs b g
def L6 (n:Nat) (b:Vl) (b2_k14_5:List (ByteArray × Vl)):Option Vl :=
 some (Vl.mk b.kind b.int b.scale b.text ([]) b2_k14_5)
def Jh (n:Nat) (h:Vl):Nat->Int->(List (ByteArray × Vl))->Option Vl
 | 0,_,_=>none
 | m+1,b,b2_l17_5 =>
  if decide (b<(h.fields.length:Int)) then
   (D1 h.fields b).bind fun g =>
   (Ce n g.2).bind fun q =>
   if (b2_l17_5.length+1)*104<=140737488355328/\b2_l17_5.length+1<=4611686018427387904 then
    if B1 (b+1) then
     (Jh n h m) (b+1) (b2_l17_5++[(g.1,q)])
    else none
   else none
  else
   L6 n h b2_l17_5
def Ny (n:Nat) (b:Vl) (b2_k5_5:List (ByteArray × Vl)):Option Vl :=
 Jh n b n 0 b2_k5_5
def NJ (n:Nat) (b:Vl):Nat->(List (ByteArray × Vl))->Option Vl
 | 0,_=>none
 | m+1,b2_l8_5 =>
  if decide (0<(b.list.length:Int)) then
   Av
  else
   Ny n b b2_l8_5
def O0 (n:Nat) (b:Vl):Option Vl :=
 NJ n b n ([])
theorem WE (w0:World) (n:Nat) (B:Aj) (Rw:Am) (L:An) (a0:Vl) (r:Vl) (h:O0 n a0=some r) :
  ACalls Tryz.prog w0 49 [.agg (a0.cs)] ⟨B,Rw,L⟩ fun x st=>∃ (o0:VO) (rows:Am),x = .agg ([Ag r.kind,Ag r.int,Ag r.scale,.val (.string r.text),.list (r.list.map B6) .none,Gk o0 r.fields.length])/\st=⟨B,rows,L⟩/\Owns Rw rows [] .none [(o0,7,(r.fields).flatMap fun x=>(B7 x).cells)]:=by
 rw [O0] at h
 refine ACalls.finV (OZ [true,true,true,true,true,false] (rs:=[.cell 2 60]) Tryz.func49 rfl rfl Tryz.ntmps49 (AU Tryz.func49 rfl (by decide)) (Nat.le_of_ble_eq_true rfl) ?_)
 intro M0 W0 K v w o hu
 dsimp only at K v w o hu
 simp only [As]
 have p:=Owns.none Rw
 have hs:=Rr
 refine rg [1,2] hs ?_
 refine rg [1,2,3] hs ?_
 have hs:=Ac (Vl.cs_eqs a0) hs
 refine rg [1,2,3] hs ?_
 refine AO (fun e st=>∃ (c:List (ByteArray × Vl)) (i:VO) (Xk5:Aj) (Rk5:Am),e=[(1,true,.box B.length 0),(2,true,.box (B.length+1) 0),(3,true,.box (B.length+2) 0)]/\st=⟨B++([a0.cs,BS,[Ag a0.kind,Ag a0.int,Ag a0.scale,.val (.string a0.text),.list ([]) .full,Gk i c.length]]++Xk5),Rk5,L⟩/\Owns Rw Rk5 [] .none [(i,7,c.flatMap fun x=>(B7 x).cells)]/\Ny n a0 c=some r) ?_ ?_
 ·intro K6 O
  refine rg [1,2,3,12,13,14] hs ?_
  apply Ao
  refine LW (B.length+2) 5 (by simp only [C6,Cd,DC,CV];rfl) rfl ?_;simp +decide only [go_sem,Nat.reduceAdd,List.set_cons_zero,List.set_cons_succ]
  have p:=p.nilV 7
  refine AB (fun m e st=>∃ (d:List (ByteArray × Vl)) (j:VO) (Xl8:Aj) (Rl8:Am),e=[(1,true,.box B.length 0),(2,true,.box (B.length+1) 0),(3,true,.box (B.length+2) 0),(12,true,.list (a0.list.map B6) .none),(13,true,Ag (a0.list.length:Int)),(14,true,Ag 0)]/\st=⟨B++([a0.cs,BS,[Ag a0.kind,Ag a0.int,Ag a0.scale,.val (.string a0.text),.list ([]) .full,Gk j d.length]]++Xl8),Rl8,L⟩/\Owns Rw Rl8 [] .none [(j,7,d.flatMap fun x=>(B7 x).cells)]/\NJ n a0 m d=some r) n ⟨([]),.nil,([]),Rw,ef hs,ef hs,Owns.eqV (p) Rz,h⟩ ?_
  rintro ml8 e st ⟨d,j,Xl8,Rl8,rfl,rfl,p,h⟩ Ul8 Vl8
  cases ml8 with
  | zero=>cases h
  | succ ml8 =>
  rw [NJ] at h
  have q:=p.underV
  simp only [List.mem_cons,List.not_mem_nil,or_false,forall_eq_or_imp,forall_eq] at q
  refine A8 K v w rfl o p ow ow ?_ (vu @Jk)
  refine rg [1,2,3,12,13,14,15] hs ?_
  apply Ah;intro K11 Z
  refine BA h hs ?_ ?_<;>intro hs h
  rotate_left
  ·refine sx [1,2,3] hs O ?_
   exact ⟨d,j,([]),Rl8,ef hs,ef hs,Owns.eqV (p) Rz,h⟩
  exact nS h
 ·clear h;rintro e st ⟨c,i,Xk5,Rk5,rfl,rfl,p,h⟩
  rw [Ny] at h
  have q:=p.underV
  simp only [List.mem_cons,List.not_mem_nil,or_false,forall_eq_or_imp,forall_eq] at q
  refine A8 K v w rfl o p ow ow ?_ (vu @Jk)
  refine AO (fun e st=>∃ (g:List (ByteArray × Vl)) (k:VO) (Xk14:Aj) (Rk14:Am),e=[(2,true,.box (B.length+1) 0),(3,true,.box (B.length+2) 0)]/\st=⟨B++([a0.cs,BS,[Ag a0.kind,Ag a0.int,Ag a0.scale,.val (.string a0.text),.list ([]) .full,Gk k g.length]]++Xk14),Rk14,L⟩/\Owns Rw Rk14 [] .none [(k,7,g.flatMap fun x=>(B7 x).cells)]/\L6 n a0 g=some r) ?_ ?_
  ·intro K15 H
   refine rg [2,3,27,28,29] hs ?_
   apply Ao
   refine AB (fun m e st=>∃ (l:Int) (a:List (ByteArray × Vl)) (b:VO) (Xl17:Aj) (Rl17:Am),e=[(2,true,.box (B.length+1) 0),(3,true,.box (B.length+2) 0),(27,true,.list (a0.fields.map B7) .none),(28,true,Ag (a0.fields.length:Int)),(29,true,Ag l)]/\st=⟨B++([a0.cs,BS,[Ag a0.kind,Ag a0.int,Ag a0.scale,.val (.string a0.text),.list ([]) .full,Gk b a.length]]++Xl17),Rl17,L⟩/\Owns Rw Rl17 [] .none [(b,7,a.flatMap fun x=>(B7 x).cells)]/\Jh n a0 m l a=some r) n ⟨0,c,i,([]),Rk5,ef hs,ef hs,Owns.eqV (p) Rz,h⟩ ?_
   rintro ml17 e st ⟨l,a,b,Xl17,Rl17,rfl,rfl,p,h⟩ Ul17 Vl17
   cases ml17 with
   | zero=>cases h
   | succ ml17 =>
   rw [Jh] at h
   have q:=p.underV
   simp only [List.mem_cons,List.not_mem_nil,or_false,forall_eq_or_imp,forall_eq] at q
   refine A8 K v w rfl o p ow ow ?_ (vu @Jk)
   refine rg [2,3,27,28,29,30] hs ?_
   apply Ah;intro K19 z
   refine BA h hs ?_ ?_<;>intro hs h
   rotate_left
   ·refine sx [2,3] hs H ?_
    exact ⟨a,b,([]),Rl17,ef hs,ef hs,Owns.eqV (p) Rz,h⟩
   refine sk [2,3,27,28,29] hs z ?_
   clear z
   apply Ah;intro K21 C
   apply Ao
   obtain ⟨t,N,h⟩:=bind_some h
   obtain ⟨Q,V,E⟩:=Bo N
   have G:=Bq (f:=B7) E
   have hs:=Ac G hs
   refine rg [2,3,7,27,28,29] hs ?_
   obtain ⟨F,J,h⟩:=bind_some h
   obtain ⟨D,h⟩:=Ak h
   obtain ⟨U,y,p,u⟩:=p.appendV (P:=Tryz.prog) (n:=a.length) (m:=1) O7 (by rw [Jo];rfl) (by decide) ((CJ (f:=B7) (sz:=7) (fun _=>by simp +decide only [go_sem]) _)) D.1 D.2 [B7 ((t.1,F))] rfl ((a++[(t.1,F)]).flatMap fun x=>(B7 x).cells) (by simp only [List.flatMap_append,List.flatMap_cons,List.flatMap_nil,List.append_nil,List.nil_append,Tf])
   simp only [List.mem_singleton,forall_eq,A2,A0,AY,A3,AZ,AX,AN,AG,A1,Ax,Az,AH,AM,AL,A5,AK,A6,J3] at u
   have hs:=Ac u hs
   refine dk 9 2 1 [2,3,27,28,29] hs GP ?_
   refine Aq _ (BX w0 n _ _ _ t.2 _ J) (hv hs) ?_
   refine dn hs C ?_
   clear C
   obtain ⟨Y,h⟩:=Ak h
   refine rl [2,3,27,28,29] hs (fun e s=>Vl17 ml17 e s (Nat.lt_succ_self _)) ?_
   exact ⟨(l+1),(a++[(t.1,F)]),U,([.val (.string t.1)::(t.2.cs)]),y,ef hs,ef hs,Owns.eqV (p) Rz,h⟩
  ·clear h;rintro e st ⟨g,k,Xk14,Rk14,rfl,rfl,p,h⟩
   rw [L6] at h
   have q:=p.underV
   simp only [List.mem_cons,List.not_mem_nil,or_false,forall_eq_or_imp,forall_eq] at q
   refine A8 K v w rfl o p ow ow ?_ (vu @Jk)
   refine rg [2] hs ?_
   apply BC;simp +decide only [go_sem,Nat.reduceAdd,Vl.cs_eqs a0]
   have hgt:=Option.some.inj h;subst hgt
   have q:=p.underV
   simp only [List.mem_cons,List.not_mem_nil,or_false,forall_eq_or_imp,forall_eq] at q
   refine XH p o rfl (by (simp +decide only [go_sem,Nat.reduceAdd,Vl.cs_eqs a0])<;>(try (repeat' apply Ac))<;>first | omega | assumption) (vu @Jk) ⟨_,_,?_,rfl,p.sub (List.nil_sublist _)⟩
   first | rfl | (simp +decide only [go_sem,Nat.reduceAdd,Vl.cs_eqs a0];done) | (simp +decide only [go_sem,Nat.reduceAdd,Vl.cs,Ty.cs,Vl.cs_eqs a0];done)
def Jl (g:ByteArray × Vl) (b:ByteArray):Bool :=
 !(sLt g.1 b||OA g.1 b)
theorem WM (w0:World) (B:Aj) (Rw:Am) (L:An) (a0:ByteArray × Vl) (la1:Nat) (a1:ByteArray) (hla1:B[la1]? = some ([.val (.string a1)])) (r:Bool) (h:Jl a0 a1=r) :
  ACalls Tryz.prog w0 194 [.agg (.val (.string a0.1)::(a0.2.cs)),.box la1 0] ⟨B,Rw,L⟩ fun x st=>x = .val (.bool r)/\st=⟨B,Rw,L⟩:=by
 rw [Jl] at h
 refine hd [.tmp 3] Tryz.func194 Tryz.ntmps194 fun M0 W0 f d e a g c hs=>?_
 simp only [As]
 have b:=(Af.1 hla1).1
 have hs:=Ac (AD hla1) hs
 refine rg [1,2] hs ?_
 refine rg [3] hs ?_
 exact rT h hs a c
theorem VH (w0:World) (B:Aj) (Rw:Am) (L:An) (a0:ByteArray × Vl) (la1:Nat) (a1:ByteArray) (hla1:B[la1]? = some ([.val (.string a1)])) :
  ACalls Tryz.prog w0 194 [.agg (.val (.string a0.1)::(a0.2.cs)),.box la1 0] ⟨B,Rw,L⟩ fun x st=>x = .val (.bool (Jl a0 a1))/\st=⟨B,Rw,L⟩:=WM w0 B Rw L a0 la1 a1 hla1 _ rfl
def SG (n:Nat) (h:Vl) (g:ByteArray) (a2:Vl):Option (Vl × Int) :=
 (Of n h g).bind fun y3 =>
 if !(decide (h.kind=9)) then
  Av
 else
  if g.size<=maxLen then
   if !(OG g) then
    Av
   else
    if CS a2 then
     Av
    else
     if (decide (y3<0))&&(decide (64<=(h.fields.length:Int))) then
      Av
     else
      (O0 n h).bind fun b =>
      if decide (0<=y3) then
       Av
      else
       (Fh n b.fields (fun (x0:ByteArray × Vl)=>some (Jl x0 g))).bind fun y =>
       if decide (y<0) then
        (Ce n a2).bind fun q =>
        if (0<=(b.fields.length:Int)/\(b.fields.length:Int)<=(b.fields.length:Int))/\(b.fields.length+1)*104<=140737488355328/\b.fields.length+1<=4611686018427387904 then
         some ((Vl.mk b.kind b.int b.scale b.text b.list (Iw b.fields (b.fields.length:Int) ((g,q))),0))
        else none
       else
        Av
  else none
theorem ZI (w0:World) (n:Nat) (B:Aj) (Rw:Am) (L:An) (a0:Vl) (a1:ByteArray) (a2:Vl) (r:Vl × Int) (h:SG n a0 a1 a2=some r) :
  ACalls Tryz.prog w0 139 [.agg (a0.cs),.val (.string a1),.agg (a2.cs)] ⟨B,Rw,L⟩ fun x st=>x = .tup [.agg (r.1.cs),Ag r.2]/\st=⟨B,Rw,L⟩:=by
 rw [SG] at h
 refine hd [.cell 6 60,.tmp 7] Tryz.func139 Tryz.ntmps139 fun M0 W0 hN Y Z q hu c hs=>?_
 simp only [As]
 refine rg [3,4,5,6] hs ?_
 obtain ⟨y3,N,h⟩:=bind_some h
 refine rc 2 [3,4,5,6,8] hs ?_;intro K2 y
 refine Aq _ (TM w0 n _ _ _ a0 a1 _ N) (hv hs) ?_
 refine ne hs y ?_
 clear y
 apply Ah;intro K4 C
 apply Ao
 refine rg [3,4,5,6,8,14] hs ?_
 refine BA h hs ?_ ?_<;>intro hs h
 ·have D:=hs.1
  exact nS h
 have D:=hs.1
 obtain ⟨J,h⟩:=Ak h
 refine rc 2 [3,4,5,6,8,19] hs ?_;intro K7 z
 refine Aq _ (Lq w0 _ _ _ a1 J) (hv hs) ?_
 refine ne hs z ?_
 clear z
 refine BA h hs ?_ ?_<;>intro hs h
 ·have v:=hs.1
  exact nS h
 have v:=hs.1
 refine rc 2 [3,4,5,6,8,24] hs ?_;intro K10 p
 refine Aq _ (Dj w0 _ _ _ a2) (hv hs) ?_
 refine ne hs p ?_
 clear p
 refine BA h hs ?_ ?_<;>intro hs h
 ·have m:=hs.1
  exact nS h
 have m:=hs.1
 refine rg [3,4,5,6,8,28] hs ?_
 refine BA h hs ?_ ?_<;>intro hs h
 ·have k:=hs.1
  exact nS h
 have k:=hs.1
 refine sk [3,4,5,6,8] hs C ?_
 clear C
 obtain ⟨s,u,h⟩:=bind_some h
 refine rc 2 [4,5,6,8,9] hs ?_;intro K14 l
 refine Bm _ (WE w0 n _ _ _ a0 _ u) (hv hs) ?_;rintro _ _ ⟨O,Rv18,rfl,rfl,b⟩
 have c:=c.callV b
 refine ne hs l ?_
 clear l
 apply Ah;intro K19 g
 refine rg [4,5,6,8,9,41] hs ?_
 refine BA h hs ?_ ?_<;>intro hs h
 ·have e:=hs.1
  exact nS h
 have e:=hs.1
 refine sk [4,5,6,9] hs g ?_
 clear g
 apply Ah;intro K22 j
 obtain ⟨U,hy23,h⟩:=bind_some h
 refine IH 0 (by decide) ?_
 refine rk 2 [4,5,6,9,10] hs ?_
 refine Zba [false,true] _ (MD w0 n _ _ _ O s.fields c.vp 194 [.box (B.length+1) 0] (fun (x0:ByteArray × Vl)=>some (Jl x0 a1)) (fun x0 r hx B' rows' hB' V=>by cases hx;exact VH w0 _ _ _ x0 _ a1 (Ej hB' (ef hs))) _ hy23) (hv hs) ?_
 refine ne hs j ?_
 clear j
 apply Ah;intro K24 i
 refine rg [4,5,6,9,10,55] hs ?_
 refine BA h hs ?_ ?_<;>intro hs h
 ·have o:=hs.1
  have a:=c.lenV (by decide:0<7) (CJ (f:=B7) (sz:=7) (fun _=>by simp +decide only [go_sem]) s.fields) Tryz.prog 58
  simp +decide only [go_sem] at a
  have hs:=Ac a hs
  refine rl [4,5,6,9,10] hs i ?_
  clear i
  apply Ah;intro K28 d
  obtain ⟨K,E,h⟩:=bind_some h
  obtain ⟨w,h⟩:=Ak h
  obtain ⟨Q,H,F,c,t⟩:=Yk w0 c (s.fields.length:Int) w ((a1,K))
  refine IH 0 (by decide) ?_
  refine dk 8 2 2 [6,9] hs GP ?_
  refine Aq _ (BX w0 n _ _ _ a2 _ E) (hv hs) ?_
  refine dx hs ?_
  refine Jj [false,true,true] _ (t _ _ _) (hv hs) ?_;rintro _ _ ⟨rfl,rfl⟩
  refine ne hs d ?_
  clear d
  refine rg [6,7] hs ?_
  refine Kw (B.length+3) 5 (by first | rfl | (simp only [C6,Cd];rfl) | (simp +decide only [go_sem,Nat.reduceAdd,D,v,m,k,e,o,a])) (by first | rfl | (simp only [PN,List.length_set];rfl)) c true (.inl rfl) (by decide) ((CJ (f:=B7) (sz:=7) (fun _=>by simp +decide only [go_sem]) _)) (PO (f:=B7) 7 (fun _=>rfl) (fun _=>by simp +decide only [go_sem]) _) (fun G c=>?_)
  simp +decide only [go_sem,Nat.reduceAdd,List.set_cons_zero,List.set_cons_succ]
  exact rt h hs q c
 have o:=hs.1
 exact nS h
def KW (n:Nat) (y:Vl) (g:List Part) (h:Vl):Option (Vl × Int) :=
 if (decide ((g.length:Int)=1))&&(CS h) then
  Av
 else
  (D1 g 0).bind fun q =>
  if decide (1<(g.length:Int)) then
   Av
  else
   (SG n y q.name h).bind fun b =>
   some ((b.1,b.2))
theorem TC (w0:World) (n:Nat) (B:Aj) (Rw:Am) (L:An) (a0:Vl) (a1:List Part) (a2:Vl) (r:Vl × Int) (h:KW n a0 a1 a2=some r) :
  ACalls Tryz.prog w0 95 [.agg (a0.cs),.list (a1.map CY) .none,.agg (a2.cs)] ⟨B,Rw,L⟩ fun x st=>x = .tup [.agg (r.1.cs),Ag r.2]/\st=⟨B,Rw,L⟩:=by
 rw [KW] at h
 refine hd [.cell 6 60,.tmp 7] Tryz.func95 Tryz.ntmps95 fun M0 W0 i c d b j g hs=>?_
 simp only [As]
 refine rg [1,3,5,6] hs ?_
 apply Ah;intro K2 f
 refine rc 2 [1,3,5,6,18] hs ?_;intro K3 e
 refine GB _ (fun _=>Dj w0 _ _ _ a2) (hv hs) ?_
 exact go (tg (a:=(((),()),[1,3,5,6],[1,3,5,6,8],[1,3,5,6,8,26],((),()),[3,5,6,8],[6,7],()))) h hs i c d b g (q1 (ZI w0 n)) (q2 e f)
def EN (b:Int) (g:Int) (h:Int):Option Int :=
 if (decide (b<g))||(decide (h<b)) then
  Av
 else
  some (0)
theorem GT (w0:World) (B:Aj) (Rw:Am) (L:An) (a0:Int) (a1:Int) (a2:Int) (r:Int) (h:EN a0 a1 a2=some r) :
  ACalls Tryz.prog w0 159 [Ag a0,Ag a1,Ag a2] ⟨B,Rw,L⟩ fun x st=>x=Ag r/\st=⟨B,Rw,L⟩:=by
 rw [EN] at h
 refine hd [.tmp 6] Tryz.func159 Tryz.ntmps159 fun M0 W0 f c d b g e hs=>?_
 simp only [As]
 exact go (tg (a:=([0,1,2],[14],((),()),[],[6],()))) h hs f c d b e trivial trivial
def Nw (b:Vl):Option Int :=
 (EN b.int 0 1).bind fun g =>
 some (g)
theorem Wx (w0:World) (B:Aj) (Rw:Am) (L:An) (a0:Vl) (r:Int) (h:Nw a0=some r) :
  ACalls Tryz.prog w0 158 [.agg (a0.cs)] ⟨B,Rw,L⟩ fun x st=>x=Ag r/\st=⟨B,Rw,L⟩:=by
 rw [Nw] at h
 refine hd [.tmp 2] Tryz.func158 Tryz.ntmps158 fun M0 W0 f c d b g e hs=>?_
 simp only [As]
 exact go (tg (a:=([1],[2],()))) h hs f c d b e (q1 (GT w0)) trivial
def LR (b:Vl):Option Int :=
 if b.text.size<=maxLen then
  if !(OG b.text) then
   Av
  else
   Av
 else none
theorem UD (w0:World) (B:Aj) (Rw:Am) (L:An) (a0:Vl) (r:Int) (h:LR a0=some r) :
  ACalls Tryz.prog w0 172 [.agg (a0.cs)] ⟨B,Rw,L⟩ fun x st=>x=Ag r/\st=⟨B,Rw,L⟩:=by
 rw [LR] at h
 refine hd [.tmp 2] Tryz.func172 Tryz.ntmps172 fun M0 W0 f c d b g e hs=>?_
 simp only [As]
 exact go (tg (a:=([1],[1,3],((),()),((),())))) h hs f c d b e (q1 (Lq w0)) trivial
def NS (b:Vl):Option Int :=
 (EN b.int ((-999999999999999)) 999999999999999).bind fun g =>
 some (g)
theorem VX (w0:World) (B:Aj) (Rw:Am) (L:An) (a0:Vl) (r:Int) (h:NS a0=some r) :
  ACalls Tryz.prog w0 160 [.agg (a0.cs)] ⟨B,Rw,L⟩ fun x st=>x=Ag r/\st=⟨B,Rw,L⟩:=by
 rw [NS] at h
 refine hd [.tmp 2] Tryz.func160 Tryz.ntmps160 fun M0 W0 f c d b g e hs=>?_
 simp only [As]
 exact go (tg (a:=([1],[2],()))) h hs f c d b e (q1 (GT w0)) trivial
def OW (n:Nat) (b:List Int):Nat->Option Int
 | 0=>none
 | m+1 =>
  if decide (0<(b.length:Int)) then
   Av
  else
   Av
def QV (n:Nat) (b:List Int):Option Int :=
 OW n b n 
theorem X3 (w0:World) (n:Nat) (B:Aj) (Rw:Am) (L:An) (a0:List Int) (r:Int) (h:QV n a0=some r) :
  ACalls Tryz.prog w0 162 [.list (a0.map CE) .none] ⟨B,Rw,L⟩ fun x st=>x=Ag r/\st=⟨B,Rw,L⟩:=by
 rw [QV] at h
 refine hd [.tmp 2] Tryz.func162 Tryz.ntmps162 fun M0 W0 g d f b j c hs=>?_
 simp only [As]
 refine rg [0] hs ?_
 apply Ah;intro K2 i
 refine rg [5,6,7] hs ?_
 apply Ao
 refine AB (fun m e st=>Ck e st B Rw L [(5,true,.list (a0.map CE) .none),(6,true,Ag (a0.length:Int)),(7,true,Ag 0)] [] [] (OW n a0 m  = some r)) n ⟨([]),Rw,ef hs,ef hs,c,h⟩ ?_
 rintro ml4 e st ⟨Xl4,Rl4,rfl,rfl,c,h⟩ Ul4 Vl4
 cases ml4 with
 | zero=>cases h
 | succ ml4 =>
 rw [OW] at h
 exact go (tg (a:=([5,6,7,8],((),()),((),())))) h hs g d f b c trivial trivial
def NM (n:Nat) (b:Vl):Option Int :=
 (EN b.int ((-999999999999999)) 999999999999999).bind fun h =>
 (EN b.scale 0 12).bind fun q =>
 (QV n ([h,q])).bind fun g =>
 some (g)
theorem Vk (w0:World) (n:Nat) (B:Aj) (Rw:Am) (L:An) (a0:Vl) (r:Int) (h:NM n a0=some r) :
  ACalls Tryz.prog w0 161 [.agg (a0.cs)] ⟨B,Rw,L⟩ fun x st=>x=Ag r/\st=⟨B,Rw,L⟩:=by
 rw [NM] at h
 refine hd [.tmp 2] Tryz.func161 Tryz.ntmps161 fun M0 W0 f c d b g e hs=>?_
 simp only [As]
 exact go (tg (a:=([1],[9,2],()))) h hs f c d b e (q2 (GT w0) (X3 w0 n)) trivial
def LF (g:Int) (b:Int) (h:Int):Option Int :=
 if decide (b<g) then
  Av
 else
  some (0)
theorem N8 (w0:World) (B:Aj) (Rw:Am) (L:An) (a0:Int) (a1:Int) (a2:Int) (r:Int) (h:LF a0 a1 a2=some r) :
  ACalls Tryz.prog w0 164 [Ag a0,Ag a1,Ag a2] ⟨B,Rw,L⟩ fun x st=>x=Ag r/\st=⟨B,Rw,L⟩:=by
 rw [LF] at h
 refine hd [.tmp 6] Tryz.func164 Tryz.ntmps164 fun M0 W0 f c d b g e hs=>?_
 simp only [As]
 exact go (tg (a:=([0,1,2],[2,9],((),()),[],[6],()))) h hs f c d b e trivial trivial
def Nq (b:Vl):Option Int :=
 (LF (b.text.size:Int) 1024 5).bind fun g =>
 if decide (g=0) then
  if b.text.size<=maxLen then
   if !(Lib.validD b.text.data.toList) then
    Av
   else
    Av
  else none
 else
  some (g)
theorem Wy (w0:World) (hT:Lib.Utf8Tabs 1 2 w0) (B:Aj) (Rw:Am) (L:An) (a0:Vl) (r:Int) (h:Nq a0=some r) :
  ACalls Tryz.prog w0 163 [.agg (a0.cs)] ⟨B,Rw,L⟩ fun x st=>x=Ag r/\st=⟨B,Rw,L⟩:=by
 rw [Nq] at h
 refine hd [.tmp 2] Tryz.func163 Tryz.ntmps163 fun M0 W0 f c d b g e hs=>?_
 simp only [As]
 exact go (tg (a:=([1],[1,3],([3,15],((),()),((),())),[3,15],[3],[2],()))) h hs f c d b e (q2 (N8 w0) (X2 w0)) trivial
def Ns (b:Vl):Option Int :=
 (LF (b.text.size:Int) 1024 5).bind fun g =>
 some (g)
theorem Vz (w0:World) (B:Aj) (Rw:Am) (L:An) (a0:Vl) (r:Int) (h:Ns a0=some r) :
  ACalls Tryz.prog w0 166 [.agg (a0.cs)] ⟨B,Rw,L⟩ fun x st=>x=Ag r/\st=⟨B,Rw,L⟩:=by
 rw [Ns] at h
 refine hd [.tmp 2] Tryz.func166 Tryz.ntmps166 fun M0 W0 f c d b g e hs=>?_
 simp only [As]
 exact go (tg (a:=([1],[2],()))) h hs f c d b e (q1 (N8 w0)) trivial
def Nz (b:Vl):Option Int :=
 (EN b.int ((-719162)) 2932896).bind fun g =>
 some (g)
theorem Vt (w0:World) (B:Aj) (Rw:Am) (L:An) (a0:Vl) (r:Int) (h:Nz a0=some r) :
  ACalls Tryz.prog w0 167 [.agg (a0.cs)] ⟨B,Rw,L⟩ fun x st=>x=Ag r/\st=⟨B,Rw,L⟩:=by
 rw [Nz] at h
 refine hd [.tmp 2] Tryz.func167 Tryz.ntmps167 fun M0 W0 f c d b g e hs=>?_
 simp only [As]
 exact go (tg (a:=([1],[2],()))) h hs f c d b e (q1 (GT w0)) trivial
def NK (b:Vl):Option Int :=
 (EN b.int ((-62135596800000)) 253402300799999).bind fun g =>
 some (g)
theorem Vr (w0:World) (B:Aj) (Rw:Am) (L:An) (a0:Vl) (r:Int) (h:NK a0=some r) :
  ACalls Tryz.prog w0 168 [.agg (a0.cs)] ⟨B,Rw,L⟩ fun x st=>x=Ag r/\st=⟨B,Rw,L⟩:=by
 rw [NK] at h
 refine hd [.tmp 2] Tryz.func168 Tryz.ntmps168 fun M0 W0 f c d b g e hs=>?_
 simp only [As]
 exact go (tg (a:=([1],[2],()))) h hs f c d b e (q1 (GT w0)) trivial
def Nh (b:Vl):Option Int :=
 (LF (b.list.length:Int) 256 9).bind fun g =>
 some (g)
theorem Wv (w0:World) (B:Aj) (Rw:Am) (L:An) (a0:Vl) (r:Int) (h:Nh a0=some r) :
  ACalls Tryz.prog w0 169 [.agg (a0.cs)] ⟨B,Rw,L⟩ fun x st=>x=Ag r/\st=⟨B,Rw,L⟩:=by
 rw [Nh] at h
 refine hd [.tmp 2] Tryz.func169 Tryz.ntmps169 fun M0 W0 f c d b g e hs=>?_
 simp only [As]
 exact go (tg (a:=([1],[2],()))) h hs f c d b e (q1 (N8 w0)) trivial
def LQ (n:Nat)  : Option Int :=
 some (0)
def H6 (n:Nat) (h:Vl):Nat->Int->Option Int
 | 0,_=>none
 | m+1,b =>
  if decide (b<(h.fields.length:Int)) then
   (D1 h.fields b).bind fun g =>
   if g.1.size<=maxLen then
    if !(OG g.1) then
     Av
    else
     if decide (0<b) then
      Av
     else
      if B1 (b+1) then
       (H6 n h m) (b+1)
      else none
   else none
  else
   LQ n 
def NC (n:Nat) (b:Vl):Option Int :=
 (LF (b.fields.length:Int) 64 9).bind fun g =>
 if !(decide (g=0)) then
  Av
 else
  H6 n b n 0
theorem V5 (w0:World) (n:Nat) (B:Aj) (Rw:Am) (L:An) (a0:Vl) (r:Int) (h:NC n a0=some r) :
  ACalls Tryz.prog w0 170 [.agg (a0.cs)] ⟨B,Rw,L⟩ fun x st=>x=Ag r/\st=⟨B,Rw,L⟩:=by
 rw [NC] at h
 refine hd [.tmp 2] Tryz.func170 Tryz.ntmps170 fun M0 W0 o f g c p d hs=>?_
 simp only [As]
 refine rg [1] hs ?_
 apply Ah;intro K2 j
 obtain ⟨q,l,h⟩:=bind_some h
 refine rc 2 [1,3] hs ?_;intro K3 i
 refine Aq _ (N8 w0 _ _ _ (a0.fields.length:Int) 64 9 _ l) (hv hs) ?_
 refine ne hs i ?_
 clear i
 refine rg [1,3,11] hs ?_
 refine BA h hs ?_ ?_<;>intro hs h
 ·exact nS h
 refine sk [1] hs j ?_
 clear j
 refine AO (fun e st=>Ck e st B Rw L [] [a0.cs] [] (LQ n  = some r)) ?_ ?_
 ·intro K9 k
  refine rg [1,14,15,16] hs ?_
  apply Ao
  refine AB (fun m e st=>∃ (b:Int),Ck e st B Rw L [(1,true,.box B.length 0),(14,true,.list (a0.fields.map B7) .none),(15,true,Ag (a0.fields.length:Int)),(16,true,Ag b)] [a0.cs] [] (H6 n a0 m b=some r)) n ⟨0,([]),Rw,ef hs,ef hs,d,h⟩ ?_
  rintro ml11 e st ⟨b,Xl11,Rl11,rfl,rfl,d,h⟩ Ul11 Vl11
  cases ml11 with
  | zero=>cases h
  | succ ml11 =>
  rw [H6] at h
  exact go (tg (a:=([1,14,15,16,17],([1,14,15,16],[1,4,5,14,15,16],[1,4,5,14,15,16,21],((),()),((),()),[15,1,4,5,14,15,16,26],[15,1,14,15,16,41],[1,14,15,16],[1,14,15,16],()),[],()))) h hs o f g c d (q1 (Lq w0)) (q2 k (fun e s=>Vl11 ml11 e s (Nat.lt_succ_self _)))
 ·clear h;rintro e st ⟨Xk8,Rk8,rfl,rfl,d,h⟩
  rw [LQ] at h
  refine td o f g c d ?_
  refine rg [2] hs ?_
  exact rt h hs c d
def PR (b:Vl):Bool :=
 (((((((((decide (b.kind=1))||(decide (b.kind=2)))||(decide (b.kind=6)))||(decide (b.kind=7)))||(decide (b.kind=3)))||(decide (b.int=0)))&&((decide (b.kind=3))||(decide (b.scale=0))))&&((((decide (b.kind=4))||(decide (b.kind=5)))||(decide (b.kind=10)))||(OA b.text (⟨#[]⟩:ByteArray))))&&(((decide (b.kind=8))||(decide (b.kind=10)))||(decide ((b.list.length:Int)=0))))&&((decide (b.kind=9))||(decide ((b.fields.length:Int)=0)))
theorem Z8 (w0:World) (B:Aj) (Rw:Am) (L:An) (a0:Vl) (r:Bool) (h:PR a0=r) :
  ACalls Tryz.prog w0 120 [.agg (a0.cs)] ⟨B,Rw,L⟩ fun x st=>x = .val (.bool r)/\st=⟨B,Rw,L⟩:=by
 rw [PR] at h
 refine hd [.tmp 2] Tryz.func120 Tryz.ntmps120 fun M0 W0 f c d b g e hs=>?_
 simp only [As]
 exact go (tg (a:=([1],[1,3],[1,3,4],[1,3,4,5],[2],()))) h (al hs) f c d b e trivial trivial
theorem XY (w0:World) (B:Aj) (Rw:Am) (L:An) (a0:Vl) :
  ACalls Tryz.prog w0 120 [.agg (a0.cs)] ⟨B,Rw,L⟩ fun x st=>x = .val (.bool (PR a0))/\st=⟨B,Rw,L⟩:=Z8 w0 B Rw L a0 _ rfl
def CG (n:Nat)  : List (Nat × Vl)->Int->Option Int
 | [],b3_r7 =>
  some (0)
 | p_r7::rest,b3_r7 =>
  if B1 (b3_r7+1) then
   if decide (4096<(b3_r7+1)) then
    Av
   else
    if decide (8<(p_r7.1:Int)) then
     Av
    else
     if CS p_r7.2 then
      Av
     else
      if (decide (p_r7.2.kind<1))||(decide (10<p_r7.2.kind)) then
       Av
      else
       if !(PR p_r7.2) then
        Av
       else
        if decide (p_r7.2.kind=0) then
         none
        else
         if decide (p_r7.2.kind=1) then
          (Nw p_r7.2).bind fun y27 =>
          if !(decide (y27=0)) then
           Av
          else
           (CG n rest) (b3_r7+1)
         else
          if decide (p_r7.2.kind=2) then
           (NS p_r7.2).bind fun y32 =>
           if !(decide (y32=0)) then
            Av
           else
            (CG n rest) (b3_r7+1)
          else
           if decide (p_r7.2.kind=3) then
            (NM n p_r7.2).bind fun y37 =>
            if !(decide (y37=0)) then
             Av
            else
             (CG n rest) (b3_r7+1)
           else
            if decide (p_r7.2.kind=4) then
             (Nq p_r7.2).bind fun y =>
             if !(decide (y=0)) then
              Av
             else
              (CG n rest) (b3_r7+1)
            else
             if decide (p_r7.2.kind=5) then
              (Ns p_r7.2).bind fun q =>
              if !(decide (q=0)) then
               Av
              else
               (CG n rest) (b3_r7+1)
             else
              if decide (p_r7.2.kind=6) then
               (Nz p_r7.2).bind fun h =>
               if !(decide (h=0)) then
                Av
               else
                (CG n rest) (b3_r7+1)
              else
               if decide (p_r7.2.kind=7) then
                (NK p_r7.2).bind fun g =>
                if !(decide (g=0)) then
                 Av
                else
                 (CG n rest) (b3_r7+1)
               else
                if decide (p_r7.2.kind=8) then
                 (Nh p_r7.2).bind fun b =>
                 if !(decide (b=0)) then
                  Av
                 else
                  (CG n rest) (b3_r7+1)
                else
                 if decide (p_r7.2.kind=9) then
                  (NC n p_r7.2).bind fun y67 =>
                  if !(decide (y67=0)) then
                   Av
                  else
                   (CG n rest) (b3_r7+1)
                 else
                  if decide (p_r7.2.kind=10) then
                   (LR p_r7.2).bind fun y72 =>
                   if !(decide (y72=0)) then
                    Av
                   else
                    (CG n rest) (b3_r7+1)
                  else
                   none
  else none
def HL (n:Nat) (b:Vl):Option Int :=
 if b.depth<4611686018427387904/\b.wide=true then
  CG n (IJ 1 b) 0
 else none
theorem JR (w0:World) (hT:Lib.Utf8Tabs 1 2 w0) (n:Nat) (B:Aj) (Rw:Am) (L:An) (a0:Vl) (r:Int) (h:HL n a0=some r) :
  ACalls Tryz.prog w0 82 [.agg (a0.cs)] ⟨B,Rw,L⟩ fun x st=>x=Ag r/\st=⟨B,Rw,L⟩:=by
 rw [HL] at h
 refine hd [.cell 2 97] Tryz.func82 Tryz.ntmps82 fun M0 W0 hN ag ah j hu e hs=>?_
 simp only [As]
 refine rg [1,2] hs ?_
 apply Ah;intro K2 w
 apply Ap 2 [1,2,3]
 rw [Ai];simp +decide only [go_sem,Nat.reduceAdd,S4]
 (repeat' apply Ac)<;>first | refine Aq _ (ZbP w0 _ _ _ ) (by first | rfl | (simp +decide only [go_sem,Nat.reduceAdd,S4];done) | (simp +decide only [go_sem,Nat.reduceAdd,Vl.cs,Ty.cs,S4];done)) ?_ | exact cl
 rw [Ai];simp +decide only [go_sem,Nat.reduceAdd,S4]
 (repeat' apply Ac)<;>first | refine w _ _ ?_ | exact cl
 clear w
 refine rg [1,2,3,4] hs ?_
 apply Ah;intro K4 O
 refine rc 2 [2,3,4,10] hs ?_;intro K5 F
 refine Bm _ (Xt w0 _ _ _ a0) (hv hs) ?_;rintro _ _ ⟨rfl,rfl⟩
 refine ne hs F ?_
 clear F
 apply Ao
 obtain ⟨ae,h⟩:=Ak h
 refine UI (Jv a0) (fun st=>st.boxes[(B.length+4)]? = some a0.cs) (fun i st=>∃ (c:Int) (Rr7:Am),st=⟨B++([a0.cs,[Ag 0],[.val .nilFunc,.clo 158 [],.clo 160 [],.clo 161 [],.clo 163 [],.clo 166 [],.clo 167 [],.clo 168 [],.clo 169 [],.clo 170 [],.clo 172 []],[Ag c],a0.cs]),Rr7,L⟩/\Owns Rw Rr7 []/\CG n ((IJ 1 a0).drop i) c=some r) (fun ex st=>ex = .ret/\∃ (z0:List AV) (z2:List AV) (z3:List AV) (z4:List AV) (rows:Am),st=⟨B++[z0,[Ag r],z2,z3,z4],rows,L⟩/\Owns Rw rows []) ev ev (Uz w0 a0 ae _) (fun x hx=>Yc a0 x hx) (by decide) ?_ ⟨0,Rw,ef hs,e,h⟩ (fun _ _ h => .inl h.1) ?_ ?_ ?_
 ·rintro i st la ⟨c,Rr7,rfl,e,h⟩ _ _;simp +decide [St.push]
 ·rintro i s1 ⟨XB,XR,XL⟩ x M1 W1 l la au hX hI af ab hx f K hK
  obtain ⟨a,ad,rfl,hi⟩:=Ys a0 i x hx
  (try simp only at hX)
  subst hX
  obtain ⟨c,Rr7,rfl,e,h⟩:=hI
  rw [Xd ad,CG] at h
  have b:=e
  simp only [St.ext,St.push,List.append_assoc,List.append_nil]
  refine rg [2,3,4,5,12] hs ?_
  apply Ap 1 [2,3,4,5,6]
  rw [Ai];simp +decide only [go_sem,Nat.reduceAdd]
  (repeat' apply Ac)<;>first | refine hK _ _ (by simp [St.ext,St.push]) (fun KQ g=>?_) | exact cl
  clear hK
  dsimp only [St.ext,St.push]
  apply Ao
  obtain ⟨aj,h⟩:=Ak h
  refine rg [2,3,4,5,6] hs ?_
  apply Ah;intro K11 k
  apply Ao
  refine rg [2,3,5,6,15] hs ?_
  refine BA h hs ?_ ?_<;>intro hs h
  ·exact nS h
  refine rg [2,3,6,18] hs ?_
  refine BA h hs ?_ ?_<;>intro hs h
  ·exact nS h
  refine rc 2 [2,3,6,21] hs ?_;intro K16 o
  refine Aq _ (Dj w0 _ _ _ a.2) (hv hs) ?_
  refine ne hs o ?_
  clear o
  refine BA h hs ?_ ?_<;>intro hs h
  ·exact nS h
  refine rg [2,3,6,24] hs ?_
  refine BA h hs ?_ ?_<;>intro hs h
  ·exact nS h
  refine rc 2 [2,3,6,33] hs ?_;intro K20 m
  refine Aq _ (XY w0 _ _ _ a.2) (hv hs) ?_
  refine ne hs m ?_
  clear m
  refine BA h hs ?_ ?_<;>intro hs h
  ·exact nS h
  refine sk [2,3,6] hs k ?_
  clear k
  apply Ah;intro K22 d
  rcases Bool.eq_false_or_eq_true (decide (a.2.kind=0)) with hf23 | hf23
  ·replace h:=BO h hf23
   have ai:a.2.kind=0:=of_decide_eq_true hf23
   cases h
  ·replace h:=BP h hf23
   rcases Bool.eq_false_or_eq_true (decide (a.2.kind=1)) with hf25 | hf25
   ·replace h:=BO h hf25
    have G:a.2.kind=1:=of_decide_eq_true hf25
    obtain ⟨ay,D,h⟩:=bind_some h
    have hs:=Ac hf23 hs
    have hs:=Ac hf25 hs
    have hs:=Ac G hs
    refine dk 7 2 1 [2,7] hs GP ?_
    refine Aq _ (Wx w0 _ _ _ a.2 _ D) (hv hs) ?_
    refine dn hs d ?_
    clear d
    refine rg [2,7,44] hs ?_
    refine BA h hs ?_ ?_<;>intro hs h
    ·exact nS h
    refine CX (BW [] _) ?_ (BD _ _)
    apply BB;simp +decide only [go_sem,Nat.reduceAdd]
    (repeat' apply Ac)<;>first | refine g _ _ _ ⟨⟨B++[a0.cs,[Ag 0],[.val .nilFunc,.clo 158 [],.clo 160 [],.clo 161 [],.clo 163 [],.clo 166 [],.clo 167 [],.clo 168 [],.clo 169 [],.clo 170 [],.clo 172 []],[Ag (c+1)],a0.cs],Rr7,L⟩,[a.2.cs],by first | rfl | (simp only [List.append_assoc,List.append_nil,List.cons_append,List.nil_append];done),⟨by simp,by first | exact Nat.le_refl _ | (have:=e.len;simp;omega),rfl⟩,rfl,⟨(c+1),Rr7,ef hs,e,h⟩,?_⟩ | exact cl
    exact .inr (Dy f b e rfl (ln e b) ap_ ow)
   ·replace h:=BP h hf25
    rcases Bool.eq_false_or_eq_true (decide (a.2.kind=2)) with hf30 | hf30
    ·replace h:=BO h hf30
     have Y:a.2.kind=2:=of_decide_eq_true hf30
     obtain ⟨ap,u,h⟩:=bind_some h
     have hs:=Ac hf23 hs
     have hs:=Ac hf25 hs
     have hs:=Ac hf30 hs
     have hs:=Ac Y hs
     refine dk 7 2 1 [2,7] hs GP ?_
     refine Aq _ (VX w0 _ _ _ a.2 _ u) (hv hs) ?_
     refine dn hs d ?_
     clear d
     refine rg [2,7,44] hs ?_
     refine BA h hs ?_ ?_<;>intro hs h
     ·exact nS h
     refine CX (BW [] _) ?_ (BD _ _)
     apply BB;simp +decide only [go_sem,Nat.reduceAdd]
     (repeat' apply Ac)<;>first | refine g _ _ _ ⟨⟨B++[a0.cs,[Ag 0],[.val .nilFunc,.clo 158 [],.clo 160 [],.clo 161 [],.clo 163 [],.clo 166 [],.clo 167 [],.clo 168 [],.clo 169 [],.clo 170 [],.clo 172 []],[Ag (c+1)],a0.cs],Rr7,L⟩,[a.2.cs],by first | rfl | (simp only [List.append_assoc,List.append_nil,List.cons_append,List.nil_append];done),⟨by simp,by first | exact Nat.le_refl _ | (have:=e.len;simp;omega),rfl⟩,rfl,⟨(c+1),Rr7,ef hs,e,h⟩,?_⟩ | exact cl
     exact .inr (Dy f b e rfl (ln e b) ap_ ow)
    ·replace h:=BP h hf30
     rcases Bool.eq_false_or_eq_true (decide (a.2.kind=3)) with hf35 | hf35
     ·replace h:=BO h hf35
      have q:a.2.kind=3:=of_decide_eq_true hf35
      obtain ⟨aq,aa,h⟩:=bind_some h
      have hs:=Ac hf23 hs
      have hs:=Ac hf25 hs
      have hs:=Ac hf30 hs
      have hs:=Ac hf35 hs
      have hs:=Ac q hs
      refine dk 7 2 1 [2,7] hs GP ?_
      refine Aq _ (Vk w0 n _ _ _ a.2 _ aa) (hv hs) ?_
      refine dn hs d ?_
      clear d
      refine rg [2,7,44] hs ?_
      refine BA h hs ?_ ?_<;>intro hs h
      ·exact nS h
      refine CX (BW [] _) ?_ (BD _ _)
      apply BB;simp +decide only [go_sem,Nat.reduceAdd]
      (repeat' apply Ac)<;>first | refine g _ _ _ ⟨⟨B++[a0.cs,[Ag 0],[.val .nilFunc,.clo 158 [],.clo 160 [],.clo 161 [],.clo 163 [],.clo 166 [],.clo 167 [],.clo 168 [],.clo 169 [],.clo 170 [],.clo 172 []],[Ag (c+1)],a0.cs],Rr7,L⟩,[a.2.cs],by first | rfl | (simp only [List.append_assoc,List.append_nil,List.cons_append,List.nil_append];done),⟨by simp,by first | exact Nat.le_refl _ | (have:=e.len;simp;omega),rfl⟩,rfl,⟨(c+1),Rr7,ef hs,e,h⟩,?_⟩ | exact cl
      exact .inr (Dy f b e rfl (ln e b) ap_ ow)
     ·replace h:=BP h hf35
      rcases Bool.eq_false_or_eq_true (decide (a.2.kind=4)) with hf40 | hf40
      ·replace h:=BO h hf40
       have V:a.2.kind=4:=of_decide_eq_true hf40
       obtain ⟨ao,y,h⟩:=bind_some h
       have hs:=Ac hf23 hs
       have hs:=Ac hf25 hs
       have hs:=Ac hf30 hs
       have hs:=Ac hf35 hs
       have hs:=Ac hf40 hs
       have hs:=Ac V hs
       refine dk 7 2 1 [2,7] hs GP ?_
       refine Aq _ (Wy w0 hT _ _ _ a.2 _ y) (hv hs) ?_
       refine dn hs d ?_
       clear d
       refine rg [2,7,44] hs ?_
       refine BA h hs ?_ ?_<;>intro hs h
       ·exact nS h
       refine CX (BW [] _) ?_ (BD _ _)
       apply BB;simp +decide only [go_sem,Nat.reduceAdd]
       (repeat' apply Ac)<;>first | refine g _ _ _ ⟨⟨B++[a0.cs,[Ag 0],[.val .nilFunc,.clo 158 [],.clo 160 [],.clo 161 [],.clo 163 [],.clo 166 [],.clo 167 [],.clo 168 [],.clo 169 [],.clo 170 [],.clo 172 []],[Ag (c+1)],a0.cs],Rr7,L⟩,[a.2.cs],by first | rfl | (simp only [List.append_assoc,List.append_nil,List.cons_append,List.nil_append];done),⟨by simp,by first | exact Nat.le_refl _ | (have:=e.len;simp;omega),rfl⟩,rfl,⟨(c+1),Rr7,ef hs,e,h⟩,?_⟩ | exact cl
       exact .inr (Dy f b e rfl (ln e b) ap_ ow)
      ·replace h:=BP h hf40
       rcases Bool.eq_false_or_eq_true (decide (a.2.kind=5)) with hf45 | hf45
       ·replace h:=BO h hf45
        have E:a.2.kind=5:=of_decide_eq_true hf45
        obtain ⟨am,C,h⟩:=bind_some h
        have hs:=Ac hf23 hs
        have hs:=Ac hf25 hs
        have hs:=Ac hf30 hs
        have hs:=Ac hf35 hs
        have hs:=Ac hf40 hs
        have hs:=Ac hf45 hs
        have hs:=Ac E hs
        refine dk 7 2 1 [2,7] hs GP ?_
        refine Aq _ (Vz w0 _ _ _ a.2 _ C) (hv hs) ?_
        refine dn hs d ?_
        clear d
        refine rg [2,7,44] hs ?_
        refine BA h hs ?_ ?_<;>intro hs h
        ·exact nS h
        refine CX (BW [] _) ?_ (BD _ _)
        apply BB;simp +decide only [go_sem,Nat.reduceAdd]
        (repeat' apply Ac)<;>first | refine g _ _ _ ⟨⟨B++[a0.cs,[Ag 0],[.val .nilFunc,.clo 158 [],.clo 160 [],.clo 161 [],.clo 163 [],.clo 166 [],.clo 167 [],.clo 168 [],.clo 169 [],.clo 170 [],.clo 172 []],[Ag (c+1)],a0.cs],Rr7,L⟩,[a.2.cs],by first | rfl | (simp only [List.append_assoc,List.append_nil,List.cons_append,List.nil_append];done),⟨by simp,by first | exact Nat.le_refl _ | (have:=e.len;simp;omega),rfl⟩,rfl,⟨(c+1),Rr7,ef hs,e,h⟩,?_⟩ | exact cl
        exact .inr (Dy f b e rfl (ln e b) ap_ ow)
       ·replace h:=BP h hf45
        rcases Bool.eq_false_or_eq_true (decide (a.2.kind=6)) with hf50 | hf50
        ·replace h:=BO h hf50
         have J:a.2.kind=6:=of_decide_eq_true hf50
         obtain ⟨av,Q,h⟩:=bind_some h
         have hs:=Ac hf23 hs
         have hs:=Ac hf25 hs
         have hs:=Ac hf30 hs
         have hs:=Ac hf35 hs
         have hs:=Ac hf40 hs
         have hs:=Ac hf45 hs
         have hs:=Ac hf50 hs
         have hs:=Ac J hs
         refine dk 7 2 1 [2,7] hs GP ?_
         refine Aq _ (Vt w0 _ _ _ a.2 _ Q) (hv hs) ?_
         refine dn hs d ?_
         clear d
         refine rg [2,7,44] hs ?_
         refine BA h hs ?_ ?_<;>intro hs h
         ·exact nS h
         refine CX (BW [] _) ?_ (BD _ _)
         apply BB;simp +decide only [go_sem,Nat.reduceAdd]
         (repeat' apply Ac)<;>first | refine g _ _ _ ⟨⟨B++[a0.cs,[Ag 0],[.val .nilFunc,.clo 158 [],.clo 160 [],.clo 161 [],.clo 163 [],.clo 166 [],.clo 167 [],.clo 168 [],.clo 169 [],.clo 170 [],.clo 172 []],[Ag (c+1)],a0.cs],Rr7,L⟩,[a.2.cs],by first | rfl | (simp only [List.append_assoc,List.append_nil,List.cons_append,List.nil_append];done),⟨by simp,by first | exact Nat.le_refl _ | (have:=e.len;simp;omega),rfl⟩,rfl,⟨(c+1),Rr7,ef hs,e,h⟩,?_⟩ | exact cl
         exact .inr (Dy f b e rfl (ln e b) ap_ ow)
        ·replace h:=BP h hf50
         rcases Bool.eq_false_or_eq_true (decide (a.2.kind=7)) with hf55 | hf55
         ·replace h:=BO h hf55
          have H:a.2.kind=7:=of_decide_eq_true hf55
          obtain ⟨ak,p,h⟩:=bind_some h
          have hs:=Ac hf23 hs
          have hs:=Ac hf25 hs
          have hs:=Ac hf30 hs
          have hs:=Ac hf35 hs
          have hs:=Ac hf40 hs
          have hs:=Ac hf45 hs
          have hs:=Ac hf50 hs
          have hs:=Ac hf55 hs
          have hs:=Ac H hs
          refine dk 7 2 1 [2,7] hs GP ?_
          refine Aq _ (Vr w0 _ _ _ a.2 _ p) (hv hs) ?_
          refine dn hs d ?_
          clear d
          refine rg [2,7,44] hs ?_
          refine BA h hs ?_ ?_<;>intro hs h
          ·exact nS h
          refine CX (BW [] _) ?_ (BD _ _)
          apply BB;simp +decide only [go_sem,Nat.reduceAdd]
          (repeat' apply Ac)<;>first | refine g _ _ _ ⟨⟨B++[a0.cs,[Ag 0],[.val .nilFunc,.clo 158 [],.clo 160 [],.clo 161 [],.clo 163 [],.clo 166 [],.clo 167 [],.clo 168 [],.clo 169 [],.clo 170 [],.clo 172 []],[Ag (c+1)],a0.cs],Rr7,L⟩,[a.2.cs],by first | rfl | (simp only [List.append_assoc,List.append_nil,List.cons_append,List.nil_append];done),⟨by simp,by first | exact Nat.le_refl _ | (have:=e.len;simp;omega),rfl⟩,rfl,⟨(c+1),Rr7,ef hs,e,h⟩,?_⟩ | exact cl
          exact .inr (Dy f b e rfl (ln e b) ap_ ow)
         ·replace h:=BP h hf55
          rcases Bool.eq_false_or_eq_true (decide (a.2.kind=8)) with hf60 | hf60
          ·replace h:=BO h hf60
           have N:a.2.kind=8:=of_decide_eq_true hf60
           obtain ⟨ar,U,h⟩:=bind_some h
           have hs:=Ac hf23 hs
           have hs:=Ac hf25 hs
           have hs:=Ac hf30 hs
           have hs:=Ac hf35 hs
           have hs:=Ac hf40 hs
           have hs:=Ac hf45 hs
           have hs:=Ac hf50 hs
           have hs:=Ac hf55 hs
           have hs:=Ac hf60 hs
           have hs:=Ac N hs
           refine dk 7 2 1 [2,7] hs GP ?_
           refine Aq _ (Wv w0 _ _ _ a.2 _ U) (hv hs) ?_
           refine dn hs d ?_
           clear d
           refine rg [2,7,44] hs ?_
           refine BA h hs ?_ ?_<;>intro hs h
           ·exact nS h
           refine CX (BW [] _) ?_ (BD _ _)
           apply BB;simp +decide only [go_sem,Nat.reduceAdd]
           (repeat' apply Ac)<;>first | refine g _ _ _ ⟨⟨B++[a0.cs,[Ag 0],[.val .nilFunc,.clo 158 [],.clo 160 [],.clo 161 [],.clo 163 [],.clo 166 [],.clo 167 [],.clo 168 [],.clo 169 [],.clo 170 [],.clo 172 []],[Ag (c+1)],a0.cs],Rr7,L⟩,[a.2.cs],by first | rfl | (simp only [List.append_assoc,List.append_nil,List.cons_append,List.nil_append];done),⟨by simp,by first | exact Nat.le_refl _ | (have:=e.len;simp;omega),rfl⟩,rfl,⟨(c+1),Rr7,ef hs,e,h⟩,?_⟩ | exact cl
           exact .inr (Dy f b e rfl (ln e b) ap_ ow)
          ·replace h:=BP h hf60
           rcases Bool.eq_false_or_eq_true (decide (a.2.kind=9)) with hf65 | hf65
           ·replace h:=BO h hf65
            have z:a.2.kind=9:=of_decide_eq_true hf65
            obtain ⟨aw,Z,h⟩:=bind_some h
            have hs:=Ac hf23 hs
            have hs:=Ac hf25 hs
            have hs:=Ac hf30 hs
            have hs:=Ac hf35 hs
            have hs:=Ac hf40 hs
            have hs:=Ac hf45 hs
            have hs:=Ac hf50 hs
            have hs:=Ac hf55 hs
            have hs:=Ac hf60 hs
            have hs:=Ac hf65 hs
            have hs:=Ac z hs
            refine dk 7 2 1 [2,7] hs GP ?_
            refine Aq _ (V5 w0 n _ _ _ a.2 _ Z) (hv hs) ?_
            refine dn hs d ?_
            clear d
            refine rg [2,7,44] hs ?_
            refine BA h hs ?_ ?_<;>intro hs h
            ·exact nS h
            refine CX (BW [] _) ?_ (BD _ _)
            apply BB;simp +decide only [go_sem,Nat.reduceAdd]
            (repeat' apply Ac)<;>first | refine g _ _ _ ⟨⟨B++[a0.cs,[Ag 0],[.val .nilFunc,.clo 158 [],.clo 160 [],.clo 161 [],.clo 163 [],.clo 166 [],.clo 167 [],.clo 168 [],.clo 169 [],.clo 170 [],.clo 172 []],[Ag (c+1)],a0.cs],Rr7,L⟩,[a.2.cs],by first | rfl | (simp only [List.append_assoc,List.append_nil,List.cons_append,List.nil_append];done),⟨by simp,by first | exact Nat.le_refl _ | (have:=e.len;simp;omega),rfl⟩,rfl,⟨(c+1),Rr7,ef hs,e,h⟩,?_⟩ | exact cl
            exact .inr (Dy f b e rfl (ln e b) ap_ ow)
           ·replace h:=BP h hf65
            rcases Bool.eq_false_or_eq_true (decide (a.2.kind=10)) with hf70 | hf70
            ·replace h:=BO h hf70
             have t:a.2.kind=10:=of_decide_eq_true hf70
             obtain ⟨ax,v,h⟩:=bind_some h
             have hs:=Ac hf23 hs
             have hs:=Ac hf25 hs
             have hs:=Ac hf30 hs
             have hs:=Ac hf35 hs
             have hs:=Ac hf40 hs
             have hs:=Ac hf45 hs
             have hs:=Ac hf50 hs
             have hs:=Ac hf55 hs
             have hs:=Ac hf60 hs
             have hs:=Ac hf65 hs
             have hs:=Ac hf70 hs
             have hs:=Ac t hs
             refine dk 7 2 1 [2,7] hs GP ?_
             refine Aq _ (UD w0 _ _ _ a.2 _ v) (hv hs) ?_
             refine dn hs d ?_
             clear d
             refine rg [2,7,44] hs ?_
             refine BA h hs ?_ ?_<;>intro hs h
             ·exact nS h
             refine CX (BW [] _) ?_ (BD _ _)
             apply BB;simp +decide only [go_sem,Nat.reduceAdd]
             (repeat' apply Ac)<;>first | refine g _ _ _ ⟨⟨B++[a0.cs,[Ag 0],[.val .nilFunc,.clo 158 [],.clo 160 [],.clo 161 [],.clo 163 [],.clo 166 [],.clo 167 [],.clo 168 [],.clo 169 [],.clo 170 [],.clo 172 []],[Ag (c+1)],a0.cs],Rr7,L⟩,[a.2.cs],by first | rfl | (simp only [List.append_assoc,List.append_nil,List.cons_append,List.nil_append];done),⟨by simp,by first | exact Nat.le_refl _ | (have:=e.len;simp;omega),rfl⟩,rfl,⟨(c+1),Rr7,ef hs,e,h⟩,?_⟩ | exact cl
             exact .inr (Dy f b e rfl (ln e b) ap_ ow)
            ·replace h:=BP h hf70
             cases h
 ·rintro s la ⟨XB,XR,XL⟩ hXR ⟨c,Rr7,rfl,e,h⟩ _ _
  simp only at hXR
  subst hXR
  rw [List.drop_eq_nil_of_le (by rw [Uk];exact Nat.le_refl _),CG] at h
  simp only [St.ext,St.push,List.append_assoc,List.append_nil]
  (repeat' apply Ac)<;>first | refine O _ _ ?_ | exact cl
  clear O
  refine Va (bs:=[a0.cs,[Ag 0],[.val .nilFunc,.clo 158 [],.clo 160 [],.clo 161 [],.clo 163 [],.clo 166 [],.clo 167 [],.clo 168 [],.clo 169 [],.clo 170 [],.clo 172 []],[Ag c],a0.cs]) hN ag ah rfl j e ow ow ?_
  refine rg [2] hs ?_
  exact rt h hs j e
 ·rintro ex s la ⟨XB,XR,XL⟩ hXR ⟨rfl,z0,z2,z3,z4,rows,rfl,e⟩ _ _
  simp only at hXR
  subst hXR
  simp only [St.ext,St.push,List.append_assoc,List.append_nil]
  simp +decide only [go_sem,Nat.reduceAdd]
  (repeat' with_reducible apply Ac)<;>first | refine Zif j rfl e.pre ev ⟨?_,rfl⟩ | (intros;omega) | (intros;simp_all;done)
  first | rfl | (simp +decide only [go_sem,Nat.reduceAdd];done)
def Eg (n:Nat) (q:Ty):List (List Part × Vl)->Vl->Int->Option (Vl × Int)
 | [],b5_r16,b6_r16 =>
  if !(decide (b6_r16=0)) then
   Av
  else
   (JW n q b5_r16).bind fun b =>
   if !(decide (b.2=0)) then
    some ((Vl.mk 0 0 0 (⟨#[]⟩:ByteArray) ([]) ([]),b.2))
   else
    (HL n b.1).bind fun h =>
    if !(decide (h=0)) then
     Av
    else
     some ((b.1,0))
 | p_r16::rest,b5_r16,b6_r16 =>
  if CS p_r16.2 then
   Av
  else
   if decide (b6_r16=0) then
    (KW n b5_r16 p_r16.1 p_r16.2).bind fun g =>
    (Eg n q rest) g.1 g.2
   else
    Av
def Gq (n:Nat) (b:List (ByteArray × Ex)) (h:Vl) (q:Ty):Option (Vl × Int) :=
 (Jq n b).bind fun y =>
 if !(decide (y=0)) then
  Av
 else
  if !(decide (h.kind=9)) then
   Av
  else
   (HH n ([])).bind fun g =>
   if (Yi n b h).isSome=true/\b.length<=1000000000 then
    Eg n q (((Yi n b h).getD [])) g 0
   else none
theorem Lm (w0:World) (hE:Ry w0) (hM:RJ w0) (hP:Pow10 w0) (hT:Lib.Utf8Tabs 1 2 w0) (n:Nat) (B:Aj) (Rw:Am) (L:An) (a0:List (ByteArray × Ex)) (a1:Vl) (a2:Ty) (r:Vl × Int) (h:Gq n a0 a1 a2=some r) :
  ACalls Tryz.prog w0 66 [.agg ([.list (a0.map Do) .none]),.agg (a1.cs),.agg (a2.cs)] ⟨B,Rw,L⟩ fun x st=>x = .tup [.agg (r.1.cs),Ag r.2]/\st=⟨B,Rw,L⟩:=by
 rw [Gq] at h
 refine hd [.cell 6 60,.tmp 7] Tryz.func66 Tryz.ntmps66 fun M0 W0 hN E F j hu g hs=>?_
 simp only [As]
 refine rg [3,4,5,6] hs ?_
 apply Ah;intro K2 y
 obtain ⟨y4,N,h⟩:=bind_some h
 refine rc 2 [3,4,5,6,8] hs ?_;intro K3 w
 refine Aq _ (RE w0 n _ _ _ a0 _ N) (hv hs) ?_
 refine ne hs w ?_
 clear w
 refine rg [3,4,5,6,8,20] hs ?_
 refine BA h hs ?_ ?_<;>intro hs h
 ·have o:=hs.1
  exact nS h
 have o:=hs.1
 refine sk [3,4,5,6] hs y ?_
 clear y
 apply Ah;intro K7 z
 refine rg [3,4,5,6,25] hs ?_
 refine BA h hs ?_ ?_<;>intro hs h
 ·have m:=hs.1
  exact nS h
 have m:=hs.1
 refine sk [3,4,5,6] hs z ?_
 clear z
 refine rg [3,4,5,6,9] hs ?_
 obtain ⟨Q,D,h⟩:=bind_some h
 refine rc 2 [3,4,5,6,9,10,11,12] hs ?_;intro K11 t
 refine Aq _ (J6 w0 n _ _ _ ([]) _ D) (hv hs) ?_
 refine ne hs t ?_
 clear t
 apply Ah;intro K13 u
 refine rc 2 [5,6,9,10,11,12,30] hs ?_;intro K14 v
 refine Bm _ (Yt w0 _ _ _ a0 a1 ((B.length+4))) (hv hs) ?_;rintro _ _ ⟨rfl,rfl⟩
 refine ne hs v ?_
 clear v
 apply Ao
 obtain ⟨q,h⟩:=Ak h
 refine UI (MB ((Yi n a0 a1).getD [])) (fun st=>st.boxes[(B.length+8)]? = some [.list (a0.map Do) .none]/\st.boxes[(B.length+9)]? = some a1.cs) (fun i st=>∃ (b:Vl) (c:Int) (Rr16:Am),st=⟨B++([[.list (a0.map Do) .none],a1.cs,a2.cs,BS,[Ag 0],b.cs,[Ag c],[.val (.bool false)],[.list (a0.map Do) .none],a1.cs,[.box (B.length+4) 0]]),Rr16,L⟩/\Owns Rw Rr16 []/\Eg n a2 ((((Yi n a0 a1).getD [])).drop i) b c=some r) (fun _ _=>False) ev (ef hs) (Zf w0 hE hM hP hT n a0 a1 _ (Zaa q.1) q.2 _) (fun x V=>Yl ((Yi n a0 a1).getD []) x V) (by decide) ?_ ⟨Q,0,Rw,ef hs,g,h⟩ (fun _ _ h=>h.elim) ?_ ?_ ?_
 ·rintro i st Y ⟨b,c,Rr16,rfl,g,h⟩ _ _;simp +decide [St.push]
 ·rintro i s1 ⟨XB,XR,XL⟩ x M1 W1 l Y aa hX hI O G V J K Z
  obtain ⟨d,H,rfl,hi⟩:=XI ((Yi n a0 a1).getD []) i x V
  (try simp only at hX)
  subst hX
  obtain ⟨b,c,Rr16,rfl,g,h⟩:=hI
  rw [Xd H,Eg] at h
  have e:=g
  simp only [St.ext,St.push,List.append_assoc,List.append_nil]
  refine rg [5,6,9,10,11,12,13,32] hs ?_
  apply Ap 1 [5,6,9,10,11,12,13,14]
  rw [Ai];simp +decide only [go_sem,Nat.reduceAdd,o,m]
  (repeat' apply Ac)<;>first | refine Z _ _ (by simp [St.ext,St.push]) (fun KQ U=>?_) | exact cl
  clear Z
  dsimp only [St.ext,St.push]
  apply Ao
  apply Ah;intro K18 p
  rcases Bool.eq_false_or_eq_true (CS d.2) with hf19 | hf19
  ·replace h:=BO h hf19
   exact nS h
  ·replace h:=BP h hf19
   have hs:=Ac hf19 hs
   refine rk 3 [5,6,9,10,11,12,13,14] hs ?_
   refine Aq _ (Dj w0 _ _ _ d.2) (hv hs) ?_
   refine nc hs ?_
   refine Mc ?_
   refine ne hs p ?_
   clear p
   refine rg [5,6,9,10,11,12,13,14,44] hs ?_
   refine BA h hs ?_ ?_<;>intro hs h
   ·have f:=hs.1
    obtain ⟨k,C,h⟩:=bind_some h
    apply Ap 2 [5,6,9,10,11,12]
    rw [Ai];simp +decide only [go_sem,Nat.reduceAdd,o,m,hf19,f]
    (repeat' apply Ac)<;>first | refine Aq _ (TC w0 n _ _ _ b d.1 d.2 _ C) (hv hs) ?_ | exact cl
    rw [Ai];simp +decide only [go_sem,Nat.reduceAdd,o,m,hf19,f]
    (repeat' apply Ac)<;>first | refine U _ _ _ ⟨⟨B++[[.list (a0.map Do) .none],a1.cs,a2.cs,BS,[Ag 0],k.1.cs,[Ag k.2],[.val (.bool false)],[.list (a0.map Do) .none],a1.cs,[.box (B.length+4) 0]],Rr16,L⟩,[d.2.cs],by first | rfl | (simp only [List.append_assoc,List.append_nil,List.cons_append,List.nil_append];done),⟨by simp,by first | exact Nat.le_refl _ | (have:=g.len;simp;omega),rfl⟩,rfl,⟨k.1,k.2,Rr16,ef hs,g,h⟩,?_⟩ | exact cl
    exact .inr (Dy J e g rfl (ln g e) ap_ ow)
   have f:=hs.1
   exact nS h
 ·rintro s Y ⟨XB,XR,XL⟩ hXR ⟨b,c,Rr16,rfl,g,h⟩ _ _
  simp only at hXR
  subst hXR
  rw [List.drop_eq_nil_of_le (by rw [OP];exact Nat.le_refl _),Eg] at h
  simp only [St.ext,St.push,List.append_assoc,List.append_nil]
  (repeat' apply Ac)<;>first | refine u _ _ ?_ | exact cl
  clear u
  refine Va (bs:=[[.list (a0.map Do) .none],a1.cs,a2.cs,BS,[Ag 0],b.cs,[Ag c],[.val (.bool false)],[.list (a0.map Do) .none],a1.cs,[.box (B.length+4) 0]]) hN E F rfl j g ow ow ?_
  exact go (tg (a:=([5,6,9,10,11,12,52],[5,6,10,11,12,57],((),()),[5,6,10,62],[5,6,10],[6,10,15],[6,10,15,72],([6,7],()),[6,10],[6,10,16],[6,10,16,78],((),()),[6,10],[6,7],()))) h hs hN E F j g (q2 (RH w0 n) (JR w0 hT n)) trivial
 ·rintro ex s Y X hX h;exact h.elim
def N2 (n:Nat)  (b:List (ByteArray × Vl)):Option Vl :=
 (HH n b).bind fun g =>
 some (g)
def Ky (n:Nat) (h:List Vl):Nat->(List (ByteArray × Vl))->Int->Option Vl
 | 0,_,_=>none
 | m+1,g,b =>
  if decide (b<(h.length:Int)) then
   (D1 h b).bind fun q =>
   if B1 (b+1) then
    if B1 (b+1) then
     if ((⟨#[114,101,112,108,121]⟩:ByteArray)).size+((⟨(Lib.itoa (b+1)).toArray⟩:ByteArray)).size<=9223372036854775807 then
      if (g.length+1)*104<=140737488355328/\g.length+1<=4611686018427387904 then
       if B1 (b+1) then
        (Ky n h m) (g++([(((⟨#[114,101,112,108,121]⟩:ByteArray))++((⟨(Lib.itoa (b+1)).toArray⟩:ByteArray)),q)])) (b+1)
       else none
      else none
     else none
    else none
   else none
  else
   N2 n g
def ME (n:Nat) (g:Vl) (b:List Vl):Option Vl :=
 Ky n b n ([((⟨#[98,111,100,121]⟩:ByteArray),g)]) 0
theorem Ri (w0:World) (hP:Pow10 w0) (n:Nat) (B:Aj) (Rw:Am) (L:An) (a0:Vl) (a1:List Vl) (r:Vl) (h:ME n a0 a1=some r) :
  ACalls Tryz.prog w0 67 [.agg (a0.cs),.list (a1.map B6) .none] ⟨B,Rw,L⟩ fun x st=>x = .agg (r.cs)/\st=⟨B,Rw,L⟩:=by
 rw [ME] at h
 refine hd [.cell 4 60] Tryz.func67 Tryz.ntmps67 fun M0 W0 D q t j K k hs=>?_
 simp only [As]
 refine rg [1,2,4] hs ?_
 refine rg [1,4,5] hs ?_
 refine AO (fun e st=>∃ (i:List (ByteArray × Vl)) (d:Ev.Own),Ck e st B Rw L [(4,true,.box (B.length+1) 0),(5,true,.list (i.map B7) d)] [a0.cs,BS] [(7,i.length,d)] (N2 n i=some r)) ?_ ?_
 ·intro K5 z
  refine rg [4,5,11,12,13] hs ?_
  apply Ao
  refine AB (fun m e st=>∃ (c:List (ByteArray × Vl)) (g:Int) (b:Ev.Own),Ck e st B Rw L [(4,true,.box (B.length+1) 0),(5,true,.list (c.map B7) b),(11,true,.list (a1.map B6) .none),(12,true,Ag (a1.length:Int)),(13,true,Ag g)] [a0.cs,BS] [(7,c.length,b)] (Ky n a1 m c g=some r)) n ⟨([((⟨#[98,111,100,121]⟩:ByteArray),a0)]),0,.full,([]),Rw,ef hs,ef hs,Owns.of_eq ((k).full 7 1) Fe,h⟩ ?_
  rintro ml7 e st ⟨c,g,b,Xl7,Rl7,rfl,rfl,k,h⟩ Ul7 Vl7
  cases ml7 with
  | zero=>cases h
  | succ ml7 =>
  rw [Ky] at h
  have H:=k.unders
  simp only [List.mem_cons,List.not_mem_nil,or_false,forall_eq_or_imp,forall_eq] at H
  refine td D q t j k ?_
  refine rg [4,5,11,12,13,14] hs ?_
  apply Ah;intro K9 u
  refine BA h hs ?_ ?_<;>intro hs h
  rotate_left
  ·refine sx [4,5] hs z ?_
   exact ⟨c,b,([]),Rl7,ef hs,ef hs,Owns.of_eq (k) Fe,h⟩
  refine sk [4,5,11,12,13] hs u ?_
  clear u
  apply Ah;intro K11 v
  apply Ao
  obtain ⟨J,y,h⟩:=bind_some h
  obtain ⟨E,C,o⟩:=Bo y
  have l:=Bq (f:=B6) o
  have hs:=Ac l hs
  refine rg [4,5,6,7,11,12,13] hs ?_
  obtain ⟨F,h⟩:=Ak h
  obtain ⟨G,h⟩:=Ak h
  obtain ⟨w,h⟩:=Ak h
  have p:=w
  try simp +decide only [go_sem] at p
  exact go (tg (a:=([8,4,5,11,12,13],[4,5,11,12,13],()))) h hs D q t j k (q2 (ae O7 Jo) (Zbm w0)) (q2 v (fun e s=>Vl7 ml7 e s (Nat.lt_succ_self _)))
 ·clear h;rintro e st ⟨i,d,Xk4,Rk4,rfl,rfl,k,h⟩
  rw [N2] at h
  exact go (tg (a:=([4],()))) h hs D q t j k (q1 (J6 w0 n)) trivial
def IQ (n:Nat)  (b:List Vl):Option ((List Vl)) :=
 some (b)
def Gy (n:Nat) (q:List Vl):Nat->(List Vl)->Int->Option ((List Vl))
 | 0,_,_=>none
 | m+1,b,g =>
  if decide (g<(q.length:Int)) then
   (D1 q g).bind fun h =>
   if (b.length+1)*88<=140737488355328/\b.length+1<=4611686018427387904 then
    if B1 (g+2) then
     (Gy n q m) (b++([h])) (g+2)
    else none
   else none
  else
   IQ n b
def Hq (n:Nat) (b:List Vl):Option ((List Vl)) :=
 Gy n b n ([]) 1
theorem MQ (w0:World) (n:Nat) (B:Aj) (Rw:Am) (L:An) (a0:List Vl) (r:(List Vl)) (h:Hq n a0=some r) :
  ACalls Tryz.prog w0 68 [.list (a0.map B6) .none] ⟨B,Rw,L⟩ fun x st=>x = .list (r.map B6) .none/\st=⟨B,Rw,L⟩:=by
 rw [Hq] at h
 refine hd [.tmp 2] Tryz.func68 Tryz.ntmps68 fun M0 W0 p k l i q j hs=>?_
 simp only [As]
 refine rg [0] hs ?_
 refine rg [0,3] hs ?_
 refine AO (fun e st=>∃ (c:List Vl) (d:Ev.Own),Ck e st B Rw L [(3,true,.list (c.map B6) d)] [] [(6,c.length,d)] (IQ n c=some r)) ?_ ?_
 ·intro K5 o
  refine rg [0,3,4] hs ?_
  apply Ao
  refine AB (fun m e st=>∃ (b:List Vl) (g:Int) (f:Ev.Own),Ck e st B Rw L [(0,true,.list (a0.map B6) .none),(3,true,.list (b.map B6) f),(4,true,Ag g)] [] [(6,b.length,f)] (Gy n a0 m b g=some r)) n ⟨([]),1,.full,([]),Rw,ef hs,ef hs,Owns.of_eq ((j).full 6 0) Fe,h⟩ ?_
  rintro ml7 e st ⟨b,g,f,Xl7,Rl7,rfl,rfl,j,h⟩ Ul7 Vl7
  cases ml7 with
  | zero=>cases h
  | succ ml7 =>
  rw [Gy] at h
  exact go (tg (a:=([0,3,4,8],([0,3,4],[0,3,4],[0,3,4],()),[3],()))) h hs p k l i j (q1 (ae NQ IB)) (q2 o (fun e s=>Vl7 ml7 e s (Nat.lt_succ_self _)))
 ·clear h;rintro e st ⟨c,d,Xk4,Rk4,rfl,rfl,j,h⟩
  rw [IQ] at h
  exact go (tg (a:=([2],()))) h hs p k l i j trivial trivial
def B5 (n:Nat) (a0n:Nod) (a0now:Int) (a0under:Int × List Int) (a0sent:Int) (a0state:Stt) (b:Slt) (q:Int) (x3:ByteArray × List (ByteArray × Ex)) (y:(Vl × Int)) (b0_k15_7:Int):Option (Int × Int × Otc) :=
 if b.values.length*88<=140737488355328 then
  if (b.values.length+1)*88<=140737488355328/\b.values.length+1<=4611686018427387904 then
   (C4 a0n a0now a0under a0sent a0state).bind fun g =>
   if B1 (b.key.int+q) then
    if (0+1)*152<=140737488355328/\0+1<=4611686018427387904 then
     (EZ n a0n a0now a0under g.2.1 g.2.2 (Slt.mk b.key q b0_k15_7 b.items (b.values++([y.1])))).bind fun h =>
     some ((0,h.1,Otc.mk h.2 ([]) ([Rqs.mk g.1 x3.1 (b.key.int+q) false y.1]) ([]) ([])))
    else none
   else none
  else none
 else none
def Dk (n:Nat) (a0n:Nod) (a0now:Int) (a0under:Int × List Int) (a0sent:Int) (a0state:Stt) (g:Slt) (b:Int):Option (Int × Int × Otc) :=
 (D1 a0n.calls b).bind fun h =>
 (D1 g.items 0).bind fun y =>
 (Hq n g.values).bind fun y5 =>
 (ME n y.body y5).bind fun y6 =>
 if B1 (2*b) then
  (D1 a0n.types (2*b)).bind fun x8 =>
  (Gq n h.2 y6 x8).bind fun q =>
  if !(decide (q.2=0)) then
   Av
  else
   if !(decide (a0n.time=0)) then
    if B1 ((a0n.calls.length:Int)-1) then
     if decide (b<((a0n.calls.length:Int)-1)) then
      if B1 (a0now+a0n.time) then
       B5 n a0n a0now a0under a0sent a0state g b h q ((if 17592186044416<a0now+a0n.time then 17592186044416 else a0now+a0n.time))
      else none
     else
      B5 n a0n a0now a0under a0sent a0state g b h q 0
    else none
   else
    B5 n a0n a0now a0under a0sent a0state g b h q 0
 else none
theorem GM (w0:World) (hE:Ry w0) (hM:RJ w0) (hP:Pow10 w0) (hT:Lib.Utf8Tabs 1 2 w0) (n:Nat) (B:Aj) (Rw:Am) (L:An) (la0:Nat) (a0n:Nod) (a0now:Int) (a0under:Int × List Int) (a0sent:Int) (a0state:Stt) (hla0:B[la0]? = some (Bd a0n a0now a0under a0sent a0state (.list ([]) .full) (.list ([]) .full) (.list ([]) .full) (.list ([]) .full))) (a1:Slt) (a2:Int) (r:Int × Int × Otc) (h:Dk n a0n a0now a0under a0sent a0state a1 a2=some r) :
  ACalls Tryz.prog w0 37 [.box la0 0,.agg (Ll a1),Ag a2] ⟨B,Rw,L⟩ fun x st=>x=Ag r.1/\st=⟨(B.set la0 (Bd a0n a0now a0under r.2.1 r.2.2.state (.list (r.2.2.outputs.map KN) .none) (.list (r.2.2.requests.map GQ) .none) (.list (r.2.2.fates.map Hn) .none) (.list (r.2.2.letters.map Cj) .none))),Rw,L⟩:=by
 rw [Dk] at h
 refine hd [.tmp 6] Tryz.func37 Tryz.ntmps37 fun M0 W0 hN Q U o hu p hs=>?_
 simp only [As]
 have q:=(Af.1 hla0).1
 apply GW;intro KE ap
 refine Ho (B':=B.set la0 (Bd a0n a0now a0under a0sent a0state (.list ([]) .full) (.list ([]) .full) (.list ([]) .full) (.list ([]) .full))) (by simp only [Bc hla0]) ?_
 have hs:=Ac (Ar hla0) hs
 refine rg [0,2,4] hs ?_
 apply Ah;intro K2 K
 obtain ⟨x3,ah,ak,j,h⟩:=ix KJ h
 obtain ⟨x4,ai,ao,d,h⟩:=ix Cj h
 have g:(a1.items.map Cj).getD 0 .junk=_:=d
 obtain ⟨y5,ae,h⟩:=bind_some h
 obtain ⟨y6,af,h⟩:=bind_some h
 obtain ⟨aq,h⟩:=Ak h
 obtain ⟨x8,am,aj,f,h⟩:=ix JX h
 obtain ⟨l,ab,h⟩:=bind_some h
 apply DF GP [31,32] [0,2,4,7,8] kr (fun s=>∃ (X:Aj) (rows:Am),s=⟨(B.set la0 (Bd a0n a0now a0under a0sent a0state (.list ([]) .full) (.list ([]) .full) (.list ([]) .full) (.list ([]) .full)))++([Ll a1]++X),rows,L⟩) 3 (B.length+1)
 ·simp +decide only [go_sem,Nat.reduceAdd]
 ·rintro s ⟨X,rows,rfl⟩
  refine ⟨4,?_⟩
  rw [Ai];simp +decide only [go_sem,Nat.reduceAdd,BK,Ar hla0,j,d,g,f,List.append_eq,List.cons_append,List.nil_append]
  have hs:=Ac j hs
  have hs:=Ac d hs
  have hs:=Ac g hs
  have hs:=Ac f hs
  (repeat' apply Ac)<;>first | refine Aq _ (MQ w0 n _ _ _ a1.values _ ae) (hv (al hs)) ?_ | exact cl
  rw [Ai];simp +decide only [go_sem,Nat.reduceAdd,Ar hla0,j,d,g,f,List.append_eq,List.cons_append,List.nil_append]
  (repeat' apply Ac)<;>first | refine Aq _ (Ri w0 hP n _ _ _ x4.body y5 _ af) (hv (al hs)) ?_ | exact cl
  rw [Ai];simp +decide only [go_sem,Nat.reduceAdd,Ar hla0,j,d,g,f,List.append_eq,List.cons_append,List.nil_append]
  (repeat' apply Ac)<;>first | refine Aq _ (Lm w0 hE hM hP hT n _ _ _ x3.2 y6 x8 _ ab) (hv (al hs)) ?_ | exact cl
  rw [Ai];simp +decide only [go_sem,Nat.reduceAdd,Ar hla0,j,d,g,f,List.append_eq,List.cons_append,List.nil_append]
  (repeat' apply Ac)<;>first | rfl | exact cl
 ·refine Good.mk [31] kr ⟨[],_,by first | rfl | simp only [List.append_nil,List.nil_append]⟩ ?_ ?_
  ·intro h;exact absurd h (by decide)
  ·intro i hi;simp only [List.mem_cons,List.not_mem_nil,or_false] at hi
   subst hi
   ·apply Aw rfl rfl ev
    ·simp +decide only [go_sem,Nat.reduceAdd,A7,Ar hla0,j,d,g,f,List.append_eq,List.cons_append,List.nil_append]
     (repeat' apply Ac)<;>first | rfl | exact cl
    ·simp +decide only [go_sem,Nat.reduceAdd,Ar hla0,j,d,g,f,List.append_eq,List.cons_append,List.nil_append]
     refine Good.mk [32] kr ⟨_,_,by first | rfl | simp only [List.append_nil,List.nil_append]⟩ ?_ ?_
     ·intro h;exact absurd h (by decide)
     ·intro i hi;simp only [List.mem_cons,List.not_mem_nil,or_false] at hi
      subst hi
      ·apply Aw rfl rfl ev
       ·simp +decide only [go_sem,Nat.reduceAdd,A7,Ar hla0,j,d,g,f,List.append_eq,List.cons_append,List.nil_append]
        (repeat' apply Ac)<;>first | rfl | exact cl
       ·simp +decide only [go_sem,Nat.reduceAdd,Ar hla0,j,d,g,f,List.append_eq,List.cons_append,List.nil_append]
        refine Good.mk [] kr ⟨_,_,by first | rfl | simp only [List.append_nil,List.nil_append]⟩ ?_ ?_
        ·intro _;apply BM [0,2,4,7,8];first | (simp +decide only [go_sem,Nat.reduceAdd,Ar hla0,j,d,g,f,List.append_eq,List.cons_append,List.nil_append];done) | (simp +decide only [go_sem,Nat.reduceAdd,Ar hla0,j,d,g,f,List.append_eq,List.cons_append,List.nil_append];rfl)
        ·intro i hi;cases hi
 simp +decide only [go_sem,Nat.reduceAdd,Ar hla0,j,d,g,f,List.append_eq,List.cons_append,List.nil_append]
 (repeat' apply Ac)<;>first | refine K _ _ ?_ | exact cl
 clear K
 apply Ah;intro K10 F
 have hs:=Ac j hs
 have hs:=Ac d hs
 have hs:=Ac g hs
 have hs:=Ac f hs
 refine rg [0,2,4,7,8,41] hs ?_
 refine BA h hs ?_ ?_<;>intro hs h
 ·have k:=hs.1
  exact nS h
 have k:=hs.1
 refine sk [0,2,4,7] hs F ?_
 clear F
 have hs:=Ac (Vl.cs_eqs a1.key) hs
 refine rg [0,2,4,7] hs ?_
 refine AO (fun e st=>∃ (m:Int) (Xk15:Aj) (Rk15:Am),e=[(0,true,.box la0 0),(2,true,Ag a2),(4,true,.box B.length 0),(7,true,.box (B.length+1) 0)]/\st=⟨(B.set la0 (Bd a0n a0now a0under a0sent a0state (.list ([]) .full) (.list ([]) .full) (.list ([]) .full) (.list ([]) .full)))++([[Ag a1.key.kind,Ag a1.key.int,Ag a1.key.scale,.val (.string a1.key.text),.list (a1.key.list.map B6) .none,.list (a1.key.fields.map B7) .none,Ag a2,Ag m,.list (a1.items.map Cj) .none,.list (a1.values.map B6) .none],l.1.cs]++Xk15),Rk15,L⟩/\Owns Rw Rk15 []/\B5 n a0n a0now a0under a0sent a0state a1 a2 x3 l m=some r) ?_ ?_
 ·intro K16 V
  exact go (tg (a:=(([0,2,4,7,62],([12,0,2,4,7],()),[0,2,4,7],()),[0,2,4,7,62],[0,2,4,7],()))) h hs hN Q U o p trivial (q1 V)
 ·clear h;rintro e st ⟨m,Xk15,Rk15,rfl,rfl,p,h⟩
  rw [B5] at h
  refine DW hN Q U GR (AA (DJ o p.len) ow) p ow ow ?_
  apply Ah;intro K23 G
  obtain ⟨N,h⟩:=Ak h
  have p:=p.clone 6 a1.values.length
  obtain ⟨E,h⟩:=Ak h
  obtain ⟨aa,Z,p,b⟩:=p.append (P:=Tryz.prog) NQ (by rw [IB];rfl) (by decide) 1 E.1 E.2
  replace b:=fun (ys:List AV) B L o2=>b (a1.values.map B6) ys B L o2 Fe
  replace b:=fun (y:AV) B L o2=>b [y] B L o2 Fe ev
  try simp only [List.mem_singleton,List.mem_cons,List.not_mem_nil,or_false,forall_eq_or_imp,forall_eq,List.map_append,List.map_cons,List.map_nil,A2,A0,AY,A3,AZ,AX,AN,AG,A1,Ax,Az,AH,AM,AL,A5,AK,A6] at b
  apply IA GP [2,5,7] [1] [0,2,4,7] kr (fun s=>∃ (X:Aj) (rows:Am) (c0:List AV),s=⟨(B.set la0 (Bd a0n a0now a0under a0sent a0state (.list ([]) .full) (.list ([]) .full) (.list ([]) .full) (.list ([]) .full)))++([c0,l.1.cs]++X),rows,L⟩) 4 (B.length+2)
  ·simp +decide only [go_sem,Nat.reduceAdd]
  ·refine ⟨1,?_⟩
   rw [Ai];simp +decide only [go_sem,Nat.reduceAdd,BK,Ar hla0,j,d,g,f,k,Vl.cs_eqs a1.key,b]
   (repeat' apply Ac)<;>first | rfl | exact cl
  ·rintro s ⟨X,rows,c0,rfl⟩
   refine ⟨1,?_⟩
   rw [Ai];simp +decide only [go_sem,Nat.reduceAdd,BK,List.append_eq,List.cons_append,List.nil_append,Ar hla0,j,d,g,f,k,Vl.cs_eqs a1.key,b]
   have hs:=Ac b hs
   (repeat' apply Ac)<;>first | rfl | ((repeat (first | exact .nil | refine .cons (ef hs) ?_));done) | exact cl
  ·refine Good.mk [2] kr ⟨[],_,_,by first | rfl | (simp only [List.append_nil,List.nil_append];done) | (simp only [List.append_nil,List.nil_append,List.map_append,List.map_cons,List.map_nil,A2,A0,AY,A3,AZ,AX,AN,AG,A1,Ax,Az,AH,AM,AL,A5,AK,A6,Vl.cs_eqs a1.key];rfl)⟩ ?_ ?_
   ·intro h;exact absurd h (by decide)
   ·intro i hi;simp only [List.mem_cons,List.not_mem_nil,or_false] at hi
    subst hi
    ·apply Aw rfl rfl ev
     ·simp +decide only [go_sem,Nat.reduceAdd,A7,Ar hla0,j,d,g,f,k,Vl.cs_eqs a1.key,b]
      have hs:=Ac b hs
      (repeat' with_reducible apply Ac)<;>first | exact E7 (JH w0 _ _ _ a1.values N) (hv hs) | rfl | exact cl
     ·simp +decide only [go_sem,Nat.reduceAdd,Ar hla0,j,d,g,f,k,Vl.cs_eqs a1.key,b]
      refine Good.mk [5] kr ⟨[],_,_,by first | rfl | (simp only [List.append_nil,List.nil_append];done) | (simp only [List.append_nil,List.nil_append,List.map_append,List.map_cons,List.map_nil,A2,A0,AY,A3,AZ,AX,AN,AG,A1,Ax,Az,AH,AM,AL,A5,AK,A6,Vl.cs_eqs a1.key];rfl)⟩ ?_ ?_
      ·intro h;exact absurd h (by decide)
      ·intro i hi;simp only [List.mem_cons,List.not_mem_nil,or_false] at hi
       subst hi
       ·apply Aw rfl rfl ev
        ·simp +decide only [go_sem,Nat.reduceAdd,A7,Ar hla0,j,d,g,f,k,Vl.cs_eqs a1.key,b]
         (repeat' apply Ac)<;>first | rfl | exact cl
        ·simp +decide only [go_sem,Nat.reduceAdd,Ar hla0,j,d,g,f,k,Vl.cs_eqs a1.key,b]
         refine Good.mk [7] kr ⟨[],_,_,by first | rfl | (simp only [List.append_nil,List.nil_append];done) | (simp only [List.append_nil,List.nil_append,List.map_append,List.map_cons,List.map_nil,A2,A0,AY,A3,AZ,AX,AN,AG,A1,Ax,Az,AH,AM,AL,A5,AK,A6,Vl.cs_eqs a1.key];rfl)⟩ ?_ ?_
         ·intro h;exact absurd h (by decide)
         ·intro i hi;simp only [List.mem_cons,List.not_mem_nil,or_false] at hi
          subst hi
          ·apply Aw rfl rfl ev
           ·simp +decide only [go_sem,Nat.reduceAdd,A7,Ar hla0,j,d,g,f,k,Vl.cs_eqs a1.key,b]
            (repeat' apply Ac)<;>first | rfl | exact cl
           ·simp +decide only [go_sem,Nat.reduceAdd,Ar hla0,j,d,g,f,k,Vl.cs_eqs a1.key,b]
            refine Good.mk [] kr ⟨[],_,_,by first | rfl | (simp only [List.append_nil,List.nil_append];done) | (simp only [List.append_nil,List.nil_append,List.map_append,List.map_cons,List.map_nil,A2,A0,AY,A3,AZ,AX,AN,AG,A1,Ax,Az,AH,AM,AL,A5,AK,A6,Vl.cs_eqs a1.key];rfl)⟩ ?_ ?_
            ·intro _;apply BM [0,2,4,7];first | (simp +decide only [go_sem,Nat.reduceAdd,Ar hla0,j,d,g,f,k,Vl.cs_eqs a1.key,b];done) | (simp +decide only [go_sem,Nat.reduceAdd,Ar hla0,j,d,g,f,k,Vl.cs_eqs a1.key,b];rfl)
            ·intro i hi;cases hi
  simp +decide only [go_sem,Nat.reduceAdd,Ar hla0,j,d,g,f,k,Vl.cs_eqs a1.key,b]
  (repeat' apply Ac)<;>first | refine G _ _ ?_ | exact cl
  clear G
  apply Ah;intro K30 w
  obtain ⟨J,t,h⟩:=bind_some h
  obtain ⟨ag,h⟩:=Ak h
  obtain ⟨C,h⟩:=Ak h
  have p:=p.full 11 0
  obtain ⟨ad,Y,p,c⟩:=p.append (P:=Tryz.prog) ZbE (by rw [XF];rfl) (by decide) 1 C.1 C.2
  simp only [Nat.zero_add] at p
  replace c:=fun (ys:List AV) B L o2=>c ([]) ys B L o2 Fe
  replace c:=fun (y:AV) B L o2=>c [y] B L o2 Fe ev
  try simp only [List.mem_singleton,List.mem_cons,List.not_mem_nil,or_false,forall_eq_or_imp,forall_eq,List.map_append,List.map_cons,List.map_nil,A2,A0,AY,A3,AZ,AX,AN,AG,A1,Ax,Az,AH,AM,AL,A5,AK,A6] at c
  apply DF GP [5,7,23,24,25,29] [0,4] kr (fun s=>∃ (X:Aj) (rows:Am) (D:Int) (H:Stt) (u:AV),s=⟨(B.set la0 (Bd a0n a0now a0under D H (.list ([]) .full) u (.list ([]) .full) (.list ([]) .full)))++([[Ag a1.key.kind,Ag a1.key.int,Ag a1.key.scale,.val (.string a1.key.text),.list (a1.key.list.map B6) .none,.list (a1.key.fields.map B7) .none,Ag a2,Ag m,.list (a1.items.map Cj) .none,.list ((a1.values++([l.1])).map B6) aa],[Ag l.1.kind,Ag l.1.int,Ag l.1.scale,.val (.string l.1.text),.list (l.1.list.map B6) .none,.list (l.1.fields.map B7) .none]]++X),rows,L⟩) 7 (B.length+2)
  ·simp +decide only [go_sem,Nat.reduceAdd]
  ·rintro s ⟨X,rows,D,H,u,rfl⟩
   refine ⟨1,?_⟩
   rw [Ai];simp +decide only [go_sem,Nat.reduceAdd,BK,Ar hla0,j,d,g,f,k,Vl.cs_eqs a1.key,b,Vl.cs_eqs l.1,c]
   (repeat' apply Ac)<;>first | rfl | exact cl
  ·refine Good.mk [5,7] kr ⟨[],_,_,_,_,by first | rfl | (simp only [List.append_nil,List.nil_append];done) | (simp only [List.append_nil,List.nil_append,List.map_append,List.map_cons,List.map_nil,A2,A0,AY,A3,AZ,AX,AN,AG,A1,Ax,Az,AH,AM,AL,A5,AK,A6,Vl.cs_eqs a1.key,Vl.cs_eqs l.1];rfl)⟩ ?_ ?_
   ·intro h;exact absurd h (by decide)
   ·intro i hi;simp only [List.mem_cons,List.not_mem_nil,or_false] at hi
    rcases hi with rfl | rfl
    ·apply Aw rfl rfl ev
     ·simp +decide only [go_sem,Nat.reduceAdd,A7,Ar hla0,j,d,g,f,k,Vl.cs_eqs a1.key,b,Vl.cs_eqs l.1,c]
      (repeat' apply Ac)<;>first | rfl | exact ⟨_,_,_,_,_,rfl⟩ | exact cl
     ·simp +decide only [go_sem,Nat.reduceAdd,Ar hla0,j,d,g,f,k,Vl.cs_eqs a1.key,b,Vl.cs_eqs l.1,c]
      refine Good.mk [7] kr ⟨[],_,_,_,_,by first | rfl | (simp only [List.append_nil,List.nil_append];done) | (simp only [List.append_nil,List.nil_append,List.map_append,List.map_cons,List.map_nil,A2,A0,AY,A3,AZ,AX,AN,AG,A1,Ax,Az,AH,AM,AL,A5,AK,A6,Vl.cs_eqs a1.key,Vl.cs_eqs l.1];rfl)⟩ ?_ ?_
      ·intro h;exact absurd h (by decide)
      ·intro i hi;simp only [List.mem_cons,List.not_mem_nil,or_false] at hi
       subst hi
       ·apply Aw rfl rfl ev
        ·simp +decide only [go_sem,Nat.reduceAdd,A7,Ar hla0,j,d,g,f,k,Vl.cs_eqs a1.key,b,Vl.cs_eqs l.1,c]
         have hs:=Ac b hs
         have hs:=Ac (Vl.cs_eqs l.1) hs
         have hs:=Ac c hs
         (repeat' with_reducible apply Ac)<;>first | exact E7 (CP w0 _ _ _ la0 a0n a0now a0under a0sent a0state (.list ([]) .full) (.list ([]) .full) (.list ([]) .full) (.list ([]) .full) (ef hs) _ t) (hv hs) | rfl | exact ⟨_,_,_,_,_,rfl⟩ | exact cl
        ·simp +decide only [go_sem,Nat.reduceAdd,Ar hla0,j,d,g,f,k,Vl.cs_eqs a1.key,b,Vl.cs_eqs l.1,c]
         refine Good.mk [23] kr ⟨[],_,_,_,_,by first | rfl | (simp only [List.append_nil,List.nil_append];done) | (simp only [List.append_nil,List.nil_append,List.map_append,List.map_cons,List.map_nil,A2,A0,AY,A3,AZ,AX,AN,AG,A1,Ax,Az,AH,AM,AL,A5,AK,A6,Vl.cs_eqs a1.key,Vl.cs_eqs l.1];rfl)⟩ ?_ ?_
         ·intro h;exact absurd h (by decide)
         ·intro i hi;simp only [List.mem_cons,List.not_mem_nil,or_false] at hi
          subst hi
          ·apply Aw rfl rfl ev
           ·simp +decide only [go_sem,Nat.reduceAdd,A7,Ar hla0,j,d,g,f,k,Vl.cs_eqs a1.key,b,Vl.cs_eqs l.1,c]
            (repeat' apply Ac)<;>first | rfl | exact ⟨_,_,_,_,_,rfl⟩ | exact cl
           ·simp +decide only [go_sem,Nat.reduceAdd,Ar hla0,j,d,g,f,k,Vl.cs_eqs a1.key,b,Vl.cs_eqs l.1,c]
            refine Good.mk [24] kr ⟨[],_,_,_,_,by first | rfl | (simp only [List.append_nil,List.nil_append];done) | (simp only [List.append_nil,List.nil_append,List.map_append,List.map_cons,List.map_nil,A2,A0,AY,A3,AZ,AX,AN,AG,A1,Ax,Az,AH,AM,AL,A5,AK,A6,Vl.cs_eqs a1.key,Vl.cs_eqs l.1];rfl)⟩ ?_ ?_
            ·intro h;exact absurd h (by decide)
            ·intro i hi;simp only [List.mem_cons,List.not_mem_nil,or_false] at hi
             subst hi
             ·apply Aw rfl rfl ev
              ·simp +decide only [go_sem,Nat.reduceAdd,A7,Ar hla0,j,d,g,f,k,Vl.cs_eqs a1.key,b,Vl.cs_eqs l.1,c]
               (repeat' apply Ac)<;>first | rfl | exact ⟨_,_,_,_,_,rfl⟩ | exact cl
              ·simp +decide only [go_sem,Nat.reduceAdd,Ar hla0,j,d,g,f,k,Vl.cs_eqs a1.key,b,Vl.cs_eqs l.1,c]
               refine Good.mk [25] kr ⟨[],_,_,_,_,by first | rfl | (simp only [List.append_nil,List.nil_append];done) | (simp only [List.append_nil,List.nil_append,List.map_append,List.map_cons,List.map_nil,A2,A0,AY,A3,AZ,AX,AN,AG,A1,Ax,Az,AH,AM,AL,A5,AK,A6,Vl.cs_eqs a1.key,Vl.cs_eqs l.1];rfl)⟩ ?_ ?_
               ·intro h;exact absurd h (by decide)
               ·intro i hi;simp only [List.mem_cons,List.not_mem_nil,or_false] at hi
                subst hi
                ·apply Aw rfl rfl ev
                 ·simp +decide only [go_sem,Nat.reduceAdd,A7,Ar hla0,j,d,g,f,k,Vl.cs_eqs a1.key,b,Vl.cs_eqs l.1,c]
                  (repeat' apply Ac)<;>first | rfl | exact ⟨_,_,_,_,_,rfl⟩ | exact cl
                 ·simp +decide only [go_sem,Nat.reduceAdd,Ar hla0,j,d,g,f,k,Vl.cs_eqs a1.key,b,Vl.cs_eqs l.1,c]
                  refine Good.mk [29] kr ⟨[],_,_,_,_,by first | rfl | (simp only [List.append_nil,List.nil_append];done) | (simp only [List.append_nil,List.nil_append,List.map_append,List.map_cons,List.map_nil,A2,A0,AY,A3,AZ,AX,AN,AG,A1,Ax,Az,AH,AM,AL,A5,AK,A6,Vl.cs_eqs a1.key,Vl.cs_eqs l.1];rfl)⟩ ?_ ?_
                  ·intro h;exact absurd h (by decide)
                  ·intro i hi;simp only [List.mem_cons,List.not_mem_nil,or_false] at hi
                   subst hi
                   ·apply Aw rfl rfl ev
                    ·simp +decide only [go_sem,Nat.reduceAdd,A7,Ar hla0,j,d,g,f,k,Vl.cs_eqs a1.key,b,Vl.cs_eqs l.1,c]
                     (repeat' apply Ac)<;>first | rfl | exact ⟨_,_,_,_,_,rfl⟩ | exact cl
                    ·simp +decide only [go_sem,Nat.reduceAdd,Ar hla0,j,d,g,f,k,Vl.cs_eqs a1.key,b,Vl.cs_eqs l.1,c]
                     refine Good.mk [] kr ⟨[],_,_,_,_,by first | rfl | (simp only [List.append_nil,List.nil_append];done) | (simp only [List.append_nil,List.nil_append,List.map_append,List.map_cons,List.map_nil,A2,A0,AY,A3,AZ,AX,AN,AG,A1,Ax,Az,AH,AM,AL,A5,AK,A6,Vl.cs_eqs a1.key,Vl.cs_eqs l.1];rfl)⟩ ?_ ?_
                     ·intro _;apply BM [0,4];first | (simp +decide only [go_sem,Nat.reduceAdd,Ar hla0,j,d,g,f,k,Vl.cs_eqs a1.key,b,Vl.cs_eqs l.1,c];done) | (simp +decide only [go_sem,Nat.reduceAdd,Ar hla0,j,d,g,f,k,Vl.cs_eqs a1.key,b,Vl.cs_eqs l.1,c];rfl)
                     ·intro i hi;cases hi
    ·apply Aw rfl rfl ev
     ·simp +decide only [go_sem,Nat.reduceAdd,A7,Ar hla0,j,d,g,f,k,Vl.cs_eqs a1.key,b,Vl.cs_eqs l.1,c]
      have hs:=Ac b hs
      have hs:=Ac (Vl.cs_eqs l.1) hs
      have hs:=Ac c hs
      (repeat' with_reducible apply Ac)<;>first | exact E7 (CP w0 _ _ _ la0 a0n a0now a0under a0sent a0state (.list ([]) .full) (.list ([]) .full) (.list ([]) .full) (.list ([]) .full) (ef hs) _ t) (hv hs) | rfl | exact ⟨_,_,_,_,_,rfl⟩ | exact cl
     ·simp +decide only [go_sem,Nat.reduceAdd,Ar hla0,j,d,g,f,k,Vl.cs_eqs a1.key,b,Vl.cs_eqs l.1,c]
      refine Good.mk [5,23] kr ⟨[],_,_,_,_,by first | rfl | (simp only [List.append_nil,List.nil_append];done) | (simp only [List.append_nil,List.nil_append,List.map_append,List.map_cons,List.map_nil,A2,A0,AY,A3,AZ,AX,AN,AG,A1,Ax,Az,AH,AM,AL,A5,AK,A6,Vl.cs_eqs a1.key,Vl.cs_eqs l.1];rfl)⟩ ?_ ?_
      ·intro h;exact absurd h (by decide)
      ·intro i hi;simp only [List.mem_cons,List.not_mem_nil,or_false] at hi
       rcases hi with rfl | rfl
       ·apply Aw rfl rfl ev
        ·simp +decide only [go_sem,Nat.reduceAdd,A7,Ar hla0,j,d,g,f,k,Vl.cs_eqs a1.key,b,Vl.cs_eqs l.1,c]
         (repeat' apply Ac)<;>first | rfl | exact ⟨_,_,_,_,_,rfl⟩ | exact cl
        ·simp +decide only [go_sem,Nat.reduceAdd,Ar hla0,j,d,g,f,k,Vl.cs_eqs a1.key,b,Vl.cs_eqs l.1,c]
         refine Good.mk [23] kr ⟨[],_,_,_,_,by first | rfl | (simp only [List.append_nil,List.nil_append];done) | (simp only [List.append_nil,List.nil_append,List.map_append,List.map_cons,List.map_nil,A2,A0,AY,A3,AZ,AX,AN,AG,A1,Ax,Az,AH,AM,AL,A5,AK,A6,Vl.cs_eqs a1.key,Vl.cs_eqs l.1];rfl)⟩ ?_ ?_
         ·intro h;exact absurd h (by decide)
         ·intro i hi;simp only [List.mem_cons,List.not_mem_nil,or_false] at hi
          subst hi
          ·apply Aw rfl rfl ev
           ·simp +decide only [go_sem,Nat.reduceAdd,A7,Ar hla0,j,d,g,f,k,Vl.cs_eqs a1.key,b,Vl.cs_eqs l.1,c]
            (repeat' apply Ac)<;>first | rfl | exact ⟨_,_,_,_,_,rfl⟩ | exact cl
           ·simp +decide only [go_sem,Nat.reduceAdd,Ar hla0,j,d,g,f,k,Vl.cs_eqs a1.key,b,Vl.cs_eqs l.1,c]
            refine Good.mk [24] kr ⟨[],_,_,_,_,by first | rfl | (simp only [List.append_nil,List.nil_append];done) | (simp only [List.append_nil,List.nil_append,List.map_append,List.map_cons,List.map_nil,A2,A0,AY,A3,AZ,AX,AN,AG,A1,Ax,Az,AH,AM,AL,A5,AK,A6,Vl.cs_eqs a1.key,Vl.cs_eqs l.1];rfl)⟩ ?_ ?_
            ·intro h;exact absurd h (by decide)
            ·intro i hi;simp only [List.mem_cons,List.not_mem_nil,or_false] at hi
             subst hi
             ·apply Aw rfl rfl ev
              ·simp +decide only [go_sem,Nat.reduceAdd,A7,Ar hla0,j,d,g,f,k,Vl.cs_eqs a1.key,b,Vl.cs_eqs l.1,c]
               (repeat' apply Ac)<;>first | rfl | exact ⟨_,_,_,_,_,rfl⟩ | exact cl
              ·simp +decide only [go_sem,Nat.reduceAdd,Ar hla0,j,d,g,f,k,Vl.cs_eqs a1.key,b,Vl.cs_eqs l.1,c]
               refine Good.mk [25] kr ⟨[],_,_,_,_,by first | rfl | (simp only [List.append_nil,List.nil_append];done) | (simp only [List.append_nil,List.nil_append,List.map_append,List.map_cons,List.map_nil,A2,A0,AY,A3,AZ,AX,AN,AG,A1,Ax,Az,AH,AM,AL,A5,AK,A6,Vl.cs_eqs a1.key,Vl.cs_eqs l.1];rfl)⟩ ?_ ?_
               ·intro h;exact absurd h (by decide)
               ·intro i hi;simp only [List.mem_cons,List.not_mem_nil,or_false] at hi
                subst hi
                ·apply Aw rfl rfl ev
                 ·simp +decide only [go_sem,Nat.reduceAdd,A7,Ar hla0,j,d,g,f,k,Vl.cs_eqs a1.key,b,Vl.cs_eqs l.1,c]
                  (repeat' apply Ac)<;>first | rfl | exact ⟨_,_,_,_,_,rfl⟩ | exact cl
                 ·simp +decide only [go_sem,Nat.reduceAdd,Ar hla0,j,d,g,f,k,Vl.cs_eqs a1.key,b,Vl.cs_eqs l.1,c]
                  refine Good.mk [29] kr ⟨[],_,_,_,_,by first | rfl | (simp only [List.append_nil,List.nil_append];done) | (simp only [List.append_nil,List.nil_append,List.map_append,List.map_cons,List.map_nil,A2,A0,AY,A3,AZ,AX,AN,AG,A1,Ax,Az,AH,AM,AL,A5,AK,A6,Vl.cs_eqs a1.key,Vl.cs_eqs l.1];rfl)⟩ ?_ ?_
                  ·intro h;exact absurd h (by decide)
                  ·intro i hi;simp only [List.mem_cons,List.not_mem_nil,or_false] at hi
                   subst hi
                   ·apply Aw rfl rfl ev
                    ·simp +decide only [go_sem,Nat.reduceAdd,A7,Ar hla0,j,d,g,f,k,Vl.cs_eqs a1.key,b,Vl.cs_eqs l.1,c]
                     (repeat' apply Ac)<;>first | rfl | exact ⟨_,_,_,_,_,rfl⟩ | exact cl
                    ·simp +decide only [go_sem,Nat.reduceAdd,Ar hla0,j,d,g,f,k,Vl.cs_eqs a1.key,b,Vl.cs_eqs l.1,c]
                     refine Good.mk [] kr ⟨[],_,_,_,_,by first | rfl | (simp only [List.append_nil,List.nil_append];done) | (simp only [List.append_nil,List.nil_append,List.map_append,List.map_cons,List.map_nil,A2,A0,AY,A3,AZ,AX,AN,AG,A1,Ax,Az,AH,AM,AL,A5,AK,A6,Vl.cs_eqs a1.key,Vl.cs_eqs l.1];rfl)⟩ ?_ ?_
                     ·intro _;apply BM [0,4];first | (simp +decide only [go_sem,Nat.reduceAdd,Ar hla0,j,d,g,f,k,Vl.cs_eqs a1.key,b,Vl.cs_eqs l.1,c];done) | (simp +decide only [go_sem,Nat.reduceAdd,Ar hla0,j,d,g,f,k,Vl.cs_eqs a1.key,b,Vl.cs_eqs l.1,c];rfl)
                     ·intro i hi;cases hi
       ·apply Aw rfl rfl ev
        ·simp +decide only [go_sem,Nat.reduceAdd,A7,Ar hla0,j,d,g,f,k,Vl.cs_eqs a1.key,b,Vl.cs_eqs l.1,c]
         (repeat' apply Ac)<;>first | rfl | exact ⟨_,_,_,_,_,rfl⟩ | exact cl
        ·simp +decide only [go_sem,Nat.reduceAdd,Ar hla0,j,d,g,f,k,Vl.cs_eqs a1.key,b,Vl.cs_eqs l.1,c]
         refine Good.mk [5,24] kr ⟨[],_,_,_,_,by first | rfl | (simp only [List.append_nil,List.nil_append];done) | (simp only [List.append_nil,List.nil_append,List.map_append,List.map_cons,List.map_nil,A2,A0,AY,A3,AZ,AX,AN,AG,A1,Ax,Az,AH,AM,AL,A5,AK,A6,Vl.cs_eqs a1.key,Vl.cs_eqs l.1];rfl)⟩ ?_ ?_
         ·intro h;exact absurd h (by decide)
         ·intro i hi;simp only [List.mem_cons,List.not_mem_nil,or_false] at hi
          rcases hi with rfl | rfl
          ·apply Aw rfl rfl ev
           ·simp +decide only [go_sem,Nat.reduceAdd,A7,Ar hla0,j,d,g,f,k,Vl.cs_eqs a1.key,b,Vl.cs_eqs l.1,c]
            (repeat' apply Ac)<;>first | rfl | exact ⟨_,_,_,_,_,rfl⟩ | exact cl
           ·simp +decide only [go_sem,Nat.reduceAdd,Ar hla0,j,d,g,f,k,Vl.cs_eqs a1.key,b,Vl.cs_eqs l.1,c]
            refine Good.mk [24] kr ⟨[],_,_,_,_,by first | rfl | (simp only [List.append_nil,List.nil_append];done) | (simp only [List.append_nil,List.nil_append,List.map_append,List.map_cons,List.map_nil,A2,A0,AY,A3,AZ,AX,AN,AG,A1,Ax,Az,AH,AM,AL,A5,AK,A6,Vl.cs_eqs a1.key,Vl.cs_eqs l.1];rfl)⟩ ?_ ?_
            ·intro h;exact absurd h (by decide)
            ·intro i hi;simp only [List.mem_cons,List.not_mem_nil,or_false] at hi
             subst hi
             ·apply Aw rfl rfl ev
              ·simp +decide only [go_sem,Nat.reduceAdd,A7,Ar hla0,j,d,g,f,k,Vl.cs_eqs a1.key,b,Vl.cs_eqs l.1,c]
               (repeat' apply Ac)<;>first | rfl | exact ⟨_,_,_,_,_,rfl⟩ | exact cl
              ·simp +decide only [go_sem,Nat.reduceAdd,Ar hla0,j,d,g,f,k,Vl.cs_eqs a1.key,b,Vl.cs_eqs l.1,c]
               refine Good.mk [25] kr ⟨[],_,_,_,_,by first | rfl | (simp only [List.append_nil,List.nil_append];done) | (simp only [List.append_nil,List.nil_append,List.map_append,List.map_cons,List.map_nil,A2,A0,AY,A3,AZ,AX,AN,AG,A1,Ax,Az,AH,AM,AL,A5,AK,A6,Vl.cs_eqs a1.key,Vl.cs_eqs l.1];rfl)⟩ ?_ ?_
               ·intro h;exact absurd h (by decide)
               ·intro i hi;simp only [List.mem_cons,List.not_mem_nil,or_false] at hi
                subst hi
                ·apply Aw rfl rfl ev
                 ·simp +decide only [go_sem,Nat.reduceAdd,A7,Ar hla0,j,d,g,f,k,Vl.cs_eqs a1.key,b,Vl.cs_eqs l.1,c]
                  (repeat' apply Ac)<;>first | rfl | exact ⟨_,_,_,_,_,rfl⟩ | exact cl
                 ·simp +decide only [go_sem,Nat.reduceAdd,Ar hla0,j,d,g,f,k,Vl.cs_eqs a1.key,b,Vl.cs_eqs l.1,c]
                  refine Good.mk [29] kr ⟨[],_,_,_,_,by first | rfl | (simp only [List.append_nil,List.nil_append];done) | (simp only [List.append_nil,List.nil_append,List.map_append,List.map_cons,List.map_nil,A2,A0,AY,A3,AZ,AX,AN,AG,A1,Ax,Az,AH,AM,AL,A5,AK,A6,Vl.cs_eqs a1.key,Vl.cs_eqs l.1];rfl)⟩ ?_ ?_
                  ·intro h;exact absurd h (by decide)
                  ·intro i hi;simp only [List.mem_cons,List.not_mem_nil,or_false] at hi
                   subst hi
                   ·apply Aw rfl rfl ev
                    ·simp +decide only [go_sem,Nat.reduceAdd,A7,Ar hla0,j,d,g,f,k,Vl.cs_eqs a1.key,b,Vl.cs_eqs l.1,c]
                     (repeat' apply Ac)<;>first | rfl | exact ⟨_,_,_,_,_,rfl⟩ | exact cl
                    ·simp +decide only [go_sem,Nat.reduceAdd,Ar hla0,j,d,g,f,k,Vl.cs_eqs a1.key,b,Vl.cs_eqs l.1,c]
                     refine Good.mk [] kr ⟨[],_,_,_,_,by first | rfl | (simp only [List.append_nil,List.nil_append];done) | (simp only [List.append_nil,List.nil_append,List.map_append,List.map_cons,List.map_nil,A2,A0,AY,A3,AZ,AX,AN,AG,A1,Ax,Az,AH,AM,AL,A5,AK,A6,Vl.cs_eqs a1.key,Vl.cs_eqs l.1];rfl)⟩ ?_ ?_
                     ·intro _;apply BM [0,4];first | (simp +decide only [go_sem,Nat.reduceAdd,Ar hla0,j,d,g,f,k,Vl.cs_eqs a1.key,b,Vl.cs_eqs l.1,c];done) | (simp +decide only [go_sem,Nat.reduceAdd,Ar hla0,j,d,g,f,k,Vl.cs_eqs a1.key,b,Vl.cs_eqs l.1,c];rfl)
                     ·intro i hi;cases hi
          ·apply Aw rfl rfl ev
           ·simp +decide only [go_sem,Nat.reduceAdd,A7,Ar hla0,j,d,g,f,k,Vl.cs_eqs a1.key,b,Vl.cs_eqs l.1,c]
            (repeat' apply Ac)<;>first | rfl | exact ⟨_,_,_,_,_,rfl⟩ | exact cl
           ·simp +decide only [go_sem,Nat.reduceAdd,Ar hla0,j,d,g,f,k,Vl.cs_eqs a1.key,b,Vl.cs_eqs l.1,c]
            refine Good.mk [5] kr ⟨[],_,_,_,_,by first | rfl | (simp only [List.append_nil,List.nil_append];done) | (simp only [List.append_nil,List.nil_append,List.map_append,List.map_cons,List.map_nil,A2,A0,AY,A3,AZ,AX,AN,AG,A1,Ax,Az,AH,AM,AL,A5,AK,A6,Vl.cs_eqs a1.key,Vl.cs_eqs l.1];rfl)⟩ ?_ ?_
            ·intro h;exact absurd h (by decide)
            ·intro i hi;simp only [List.mem_cons,List.not_mem_nil,or_false] at hi
             subst hi
             ·apply Aw rfl rfl ev
              ·simp +decide only [go_sem,Nat.reduceAdd,A7,Ar hla0,j,d,g,f,k,Vl.cs_eqs a1.key,b,Vl.cs_eqs l.1,c]
               (repeat' apply Ac)<;>first | rfl | exact ⟨_,_,_,_,_,rfl⟩ | exact cl
              ·simp +decide only [go_sem,Nat.reduceAdd,Ar hla0,j,d,g,f,k,Vl.cs_eqs a1.key,b,Vl.cs_eqs l.1,c]
               refine Good.mk [25] kr ⟨[],_,_,_,_,by first | rfl | (simp only [List.append_nil,List.nil_append];done) | (simp only [List.append_nil,List.nil_append,List.map_append,List.map_cons,List.map_nil,A2,A0,AY,A3,AZ,AX,AN,AG,A1,Ax,Az,AH,AM,AL,A5,AK,A6,Vl.cs_eqs a1.key,Vl.cs_eqs l.1];rfl)⟩ ?_ ?_
               ·intro h;exact absurd h (by decide)
               ·intro i hi;simp only [List.mem_cons,List.not_mem_nil,or_false] at hi
                subst hi
                ·apply Aw rfl rfl ev
                 ·simp +decide only [go_sem,Nat.reduceAdd,A7,Ar hla0,j,d,g,f,k,Vl.cs_eqs a1.key,b,Vl.cs_eqs l.1,c]
                  (repeat' apply Ac)<;>first | rfl | exact ⟨_,_,_,_,_,rfl⟩ | exact cl
                 ·simp +decide only [go_sem,Nat.reduceAdd,Ar hla0,j,d,g,f,k,Vl.cs_eqs a1.key,b,Vl.cs_eqs l.1,c]
                  refine Good.mk [29] kr ⟨[],_,_,_,_,by first | rfl | (simp only [List.append_nil,List.nil_append];done) | (simp only [List.append_nil,List.nil_append,List.map_append,List.map_cons,List.map_nil,A2,A0,AY,A3,AZ,AX,AN,AG,A1,Ax,Az,AH,AM,AL,A5,AK,A6,Vl.cs_eqs a1.key,Vl.cs_eqs l.1];rfl)⟩ ?_ ?_
                  ·intro h;exact absurd h (by decide)
                  ·intro i hi;simp only [List.mem_cons,List.not_mem_nil,or_false] at hi
                   subst hi
                   ·apply Aw rfl rfl ev
                    ·simp +decide only [go_sem,Nat.reduceAdd,A7,Ar hla0,j,d,g,f,k,Vl.cs_eqs a1.key,b,Vl.cs_eqs l.1,c]
                     (repeat' apply Ac)<;>first | rfl | exact ⟨_,_,_,_,_,rfl⟩ | exact cl
                    ·simp +decide only [go_sem,Nat.reduceAdd,Ar hla0,j,d,g,f,k,Vl.cs_eqs a1.key,b,Vl.cs_eqs l.1,c]
                     refine Good.mk [] kr ⟨[],_,_,_,_,by first | rfl | (simp only [List.append_nil,List.nil_append];done) | (simp only [List.append_nil,List.nil_append,List.map_append,List.map_cons,List.map_nil,A2,A0,AY,A3,AZ,AX,AN,AG,A1,Ax,Az,AH,AM,AL,A5,AK,A6,Vl.cs_eqs a1.key,Vl.cs_eqs l.1];rfl)⟩ ?_ ?_
                     ·intro _;apply BM [0,4];first | (simp +decide only [go_sem,Nat.reduceAdd,Ar hla0,j,d,g,f,k,Vl.cs_eqs a1.key,b,Vl.cs_eqs l.1,c];done) | (simp +decide only [go_sem,Nat.reduceAdd,Ar hla0,j,d,g,f,k,Vl.cs_eqs a1.key,b,Vl.cs_eqs l.1,c];rfl)
                     ·intro i hi;cases hi
  simp +decide only [go_sem,Nat.reduceAdd,Ar hla0,j,d,g,f,k,Vl.cs_eqs a1.key,b,Vl.cs_eqs l.1,c]
  (repeat' apply Ac)<;>first | refine w _ _ ?_ | exact cl
  clear w
  obtain ⟨ar,O,h⟩:=bind_some h
  have hs:=Ac b hs
  have hs:=Ac (Vl.cs_eqs l.1) hs
  have hs:=Ac c hs
  refine rc 2 [] hs ?_;intro K38 v
  refine Bm _ (I1 w0 n _ _ _ la0 a0n a0now a0under J.2.1 J.2.2 (.list ([]) .full) (.list (([Rqs.mk J.1 x3.1 (a1.key.int+a2) false l.1]).map GQ) ad) (.list ([]) .full) (.list ([]) .full) (ef hs) (Slt.mk a1.key a2 m a1.items (a1.values++([l.1]))) _ O) (hv hs) ?_;rintro _ _ ⟨rfl,rfl⟩
  refine ne hs v ?_
  clear v
  refine rg [6] hs ?_
  first | refine JV q ?_ | refine HS q ?_
  apply BC;simp +decide only [go_sem,Nat.reduceAdd,Ar hla0,j,d,g,f,k,Vl.cs_eqs a1.key,b,Vl.cs_eqs l.1,c]
  have hgt:=Option.some.inj h;subst hgt
  first | refine Cb (AA o ev) GR p.pre ev ⟨?_,(by first | rfl | exact congrArg (fun z=>St.mk z Rw L) (Bc hla0).symm | (simp +decide only [go_sem,Nat.reduceAdd,Ar hla0,j,d,g,f,k,Vl.cs_eqs a1.key,b,Vl.cs_eqs l.1,c];done))⟩ | refine Dq (AA o ev) GR p.pre ev ⟨?_,(by first | rfl | exact congrArg (fun z=>St.mk z Rw L) (Bc hla0).symm | (simp +decide only [go_sem,Nat.reduceAdd,Ar hla0,j,d,g,f,k,Vl.cs_eqs a1.key,b,Vl.cs_eqs l.1,c];done))⟩
  first | rfl | (simp +decide only [go_sem,Nat.reduceAdd,Ar hla0,j,d,g,f,k,Vl.cs_eqs a1.key,b,Vl.cs_eqs l.1,c];done) | (simp +decide only [go_sem,Nat.reduceAdd,Vl.cs,Ty.cs,Ar hla0,j,d,g,f,k,Vl.cs_eqs a1.key,b,Vl.cs_eqs l.1,c];done)
def KI (n:Nat)  (b:Int):Option Int :=
 some (b)
def H7 (n:Nat) (q:Stt):Nat->Int->Int->Option Int
 | 0,_,_=>none
 | m+1,g,b =>
  if decide (b<(q.slots.length:Int)) then
   (D1 q.slots b).bind fun h =>
   if B1 (g+(h.items.length:Int)) then
    if B1 (b+1) then
     (H7 n q m) (g+(h.items.length:Int)) (b+1)
    else none
   else none
  else
   KI n g
def I8 (n:Nat) (b:Stt):Option Int :=
 H7 n b n 0 0
theorem OL (w0:World) (n:Nat) (B:Aj) (Rw:Am) (L:An) (a0:Stt) (r:Int) (h:I8 n a0=some r) :
  ACalls Tryz.prog w0 11 [.agg (DR a0)] ⟨B,Rw,L⟩ fun x st=>x=Ag r/\st=⟨B,Rw,L⟩:=by
 rw [I8] at h
 refine hd [.tmp 2] Tryz.func11 Tryz.ntmps11 fun M0 W0 l i j f o g hs=>?_
 simp only [As]
 refine rg [1] hs ?_
 refine rg [1,3] hs ?_
 refine AO (fun e st=>∃ (d:Int),Ck e st B Rw L [(3,true,Ag d)] [DR a0] [] (KI n d=some r)) ?_ ?_
 ·intro K5 k
  refine rg [3,7,8,9] hs ?_
  apply Ao
  refine AB (fun m e st=>∃ (c:Int) (b:Int),Ck e st B Rw L [(3,true,Ag c),(7,true,.list (a0.slots.map Br) .none),(8,true,Ag (a0.slots.length:Int)),(9,true,Ag b)] [DR a0] [] (H7 n a0 m c b=some r)) n ⟨0,0,([]),Rw,ef hs,ef hs,g,h⟩ ?_
  rintro ml7 e st ⟨c,b,Xl7,Rl7,rfl,rfl,g,h⟩ Ul7 Vl7
  cases ml7 with
  | zero=>cases h
  | succ ml7 =>
  rw [H7] at h
  exact go (tg (a:=([3,7,8,9,10],([3,7,8,9],[3,5,7,8,9],[3,7,8,9],[3,7,8,9],()),[3],()))) h hs l i j f g trivial (q2 k (fun e s=>Vl7 ml7 e s (Nat.lt_succ_self _)))
 ·clear h;rintro e st ⟨d,Xk4,Rk4,rfl,rfl,g,h⟩
  rw [KI] at h
  refine td l i j f g ?_
  refine rg [2] hs ?_
  exact rt h hs f g
def ER (n:Nat) (a0n:Nod) (a0now:Int) (a0under:Int × List Int) (a0sent:Int) (a0state:Stt) (y:Msg):Option (Int × Otc) :=
 if decide ((a0n.calls.length:Int)=0) then
  Av
 else
  if B1 (2*(a0n.calls.length:Int)) then
   if !(decide ((a0n.types.length:Int)=(2*(a0n.calls.length:Int)))) then
    Av
   else
    if decide (((if 1024<a0n.limit then 1024 else a0n.limit))<=(a0state.slots.length:Int)) then
     (U0 n a0n ([]) ([]) y ((⟨#[102,117,108,108]⟩:ByteArray))).bind fun g =>
     some ((a0sent,Otc.mk a0state ([]) ([]) g.1 g.2))
    else
     (I8 n a0state).bind fun h =>
     if decide (256<=h) then
      Av
     else
      if B1 (a0state.number+1) then
       (Dc n y).bind fun q =>
       (Dk n a0n a0now a0under a0sent a0state (Slt.mk ((BU (a0state.number+1))) 0 0 ([q]) ([])) 0).bind fun b =>
       if !(decide (b.1=0)) then
        Av
       else
        if B1 (b.2.2.state.number+(a0n.calls.length:Int)) then
         some ((b.2.1,Otc.mk (Stt.mk (b.2.2.state.number+(a0n.calls.length:Int)) b.2.2.state.time b.2.2.state.slots) b.2.2.outputs b.2.2.requests b.2.2.fates b.2.2.letters))
        else none
      else none
  else none
theorem LG (w0:World) (hE:Ry w0) (hM:RJ w0) (hP:Pow10 w0) (hT:Lib.Utf8Tabs 1 2 w0) (n:Nat) (B:Aj) (Rw:Am) (L:An) (la0:Nat) (a0n:Nod) (a0now:Int) (a0under:Int × List Int) (a0sent:Int) (a0state:Stt) (hla0:B[la0]? = some (Bd a0n a0now a0under a0sent a0state (.list ([]) .full) (.list ([]) .full) (.list ([]) .full) (.list ([]) .full))) (a1:Msg) (r:Int × Otc) (h:ER n a0n a0now a0under a0sent a0state a1=some r) :
  ACalls Tryz.prog w0 22 [.box la0 0,.agg (T8 a1)] ⟨B,Rw,L⟩ fun x st=>x = .tup []/\st=⟨(B.set la0 (Bd a0n a0now a0under r.1 r.2.state (.list (r.2.outputs.map KN) .none) (.list (r.2.requests.map GQ) .none) (.list (r.2.fates.map Hn) .none) (.list (r.2.letters.map Cj) .none))),Rw,L⟩:=by
 rw [ER] at h
 refine hd [] Tryz.func22 Tryz.ntmps22 fun M0 W0 V F G f hu g hs=>?_
 simp only [As]
 have e:=(Af.1 hla0).1
 apply GW;intro KE v
 refine Ho (B':=B.set la0 (Bd a0n a0now a0under a0sent a0state (.list ([]) .full) (.list ([]) .full) (.list ([]) .full) (.list ([]) .full))) (by simp only [Bc hla0]) ?_
 have hs:=Ac (Ar hla0) hs
 refine rg [0,3] hs ?_
 refine rg [0,3,4] hs ?_
 apply Ah;intro K3 u
 apply Ah;intro K4 E
 rcases Bool.eq_false_or_eq_true (decide ((a0n.calls.length:Int)=0)) with hf5 | hf5
 ·replace h:=BO h hf5
  exact nS h
 ·replace h:=BP h hf5
  obtain ⟨Q,h⟩:=Ak h
  have hs:=Ac hf5 hs
  refine dl 23 1 1 [0,3,4,34] hs GP E ?_
  clear E
  refine BA h hs ?_ ?_<;>intro hs h
  ·have c:=hs.1
   exact nS h
  have c:=hs.1
  refine sk [0,3,4] hs u ?_
  clear u
  apply Ah;intro K8 D
  apply Ah;intro K9 j
  rcases Bool.eq_false_or_eq_true (decide (((if 1024<a0n.limit then 1024 else a0n.limit))<=(a0state.slots.length:Int))) with hf10 | hf10
  ·replace h:=BO h hf10
   have hs:=Ac hf10 hs
   refine dk 15 2 1 [0,3,4,53] hs GP ?_
   refine Mc ?_
   refine dn hs j ?_
   clear j
   refine Bl true ev (ef hs) (fun hb11=>?_) (fun hb11=>by cases hb11)
   have g:=g.full 10 0
   have g:=g.full 6 0
   obtain ⟨Y,t,h⟩:=bind_some h
   refine rc 2 [] hs ?_;intro K12 m
   refine Bm _ (Oc w0 n _ _ _ la0 a0n a0now a0under a0sent a0state (.list ([]) .full) (.list ([]) .full) ([]) ([]) .full .full (ef hs) g.enter2a g.enter2b g.apart2 a1 ((⟨#[102,117,108,108]⟩:ByteArray)) _ t) (hv hs) ?_;rintro _ _ ⟨rfl,Rg16,Rh17,O,N,rfl,k,l⟩
   have g:=g.call2 k l
   refine ne hs m ?_
   clear m
   first | refine JV e ?_ | refine HS e ?_
   exact go (tg (a:=((),()))) h hs V F G f g trivial trivial
  ·replace h:=BP h hf10
   obtain ⟨U,y,h⟩:=bind_some h
   have hs:=Ac hf10 hs
   refine dk 15 2 1 [0,3,4,53] hs GP ?_
   refine Aq _ (OL w0 n _ _ _ a0state _ y) (hv hs) ?_
   refine dn hs j ?_
   clear j
   refine BA h hs ?_ ?_<;>intro hs h
   ·have b:=hs.1
    exact nS h
   have b:=hs.1
   refine sk [0,3,4] hs D ?_
   clear D
   apply Ah;intro K22 p
   obtain ⟨J,h⟩:=Ak h
   obtain ⟨H,C,h⟩:=bind_some h
   apply DF GP [8,9] [0,3,5] kr (fun s=>∃ (X:Aj) (rows:Am),s=⟨(B.set la0 (Bd a0n a0now a0under a0sent a0state (.list ([]) .full) (.list ([]) .full) (.list ([]) .full) (.list ([]) .full)))++([T8 a1,DR a0state]++X),rows,L⟩) 3 (B.length+2)
   ·simp +decide only [go_sem,Nat.reduceAdd]
   ·rintro s ⟨X,rows,rfl⟩
    refine ⟨3,?_⟩
    rw [Ai];simp +decide only [go_sem,Nat.reduceAdd,BK,Ar hla0,hf5,c,hf10,b,Vl.cs_eqs (BU (a0state.number+1))]
    have hs:=Ac (Vl.cs_eqs (BU (a0state.number+1))) hs
    (repeat' apply Ac)<;>first | refine Aq _ (QT w0 _ _ _ (a0state.number+1)) (hv hs) ?_ | exact cl
    rw [Ai];simp +decide only [go_sem,Nat.reduceAdd,Ar hla0,hf5,c,hf10,b,Vl.cs_eqs (BU (a0state.number+1))]
    (repeat' apply Ac)<;>first | refine Aq _ (Dt w0 n _ _ _ a1 _ C) (hv hs) ?_ | exact cl
    rw [Ai];simp +decide only [go_sem,Nat.reduceAdd,Ar hla0,hf5,c,hf10,b,Vl.cs_eqs (BU (a0state.number+1))]
    (repeat' apply Ac)<;>first | rfl | exact cl
   ·refine Good.mk [8] kr ⟨[],_,by first | rfl | (simp only [List.append_nil,List.nil_append];done) | (simp only [List.append_nil,List.nil_append,List.map_append,List.map_cons,List.map_nil,A2,A0,AY,A3,AZ,AX,AN,AG,A1,Ax,Az,AH,AM,AL,A5,AK,A6];rfl)⟩ ?_ ?_
    ·intro h;exact absurd h (by decide)
    ·intro i hi;simp only [List.mem_cons,List.not_mem_nil,or_false] at hi
     subst hi
     ·apply Aw rfl rfl ev
      ·simp +decide only [go_sem,Nat.reduceAdd,A7,Ar hla0,hf5,c,hf10,b,Vl.cs_eqs (BU (a0state.number+1))]
       (repeat' apply Ac)<;>first | rfl | exact cl
      ·simp +decide only [go_sem,Nat.reduceAdd,Ar hla0,hf5,c,hf10,b,Vl.cs_eqs (BU (a0state.number+1))]
       refine Good.mk [9] kr ⟨_,_,by first | rfl | (simp only [List.append_nil,List.nil_append];done) | (simp only [List.append_nil,List.nil_append,List.map_append,List.map_cons,List.map_nil,A2,A0,AY,A3,AZ,AX,AN,AG,A1,Ax,Az,AH,AM,AL,A5,AK,A6];rfl)⟩ ?_ ?_
       ·intro h;exact absurd h (by decide)
       ·intro i hi;simp only [List.mem_cons,List.not_mem_nil,or_false] at hi
        subst hi
        ·apply Aw rfl rfl ev
         ·simp +decide only [go_sem,Nat.reduceAdd,A7,Ar hla0,hf5,c,hf10,b,Vl.cs_eqs (BU (a0state.number+1))]
          (repeat' apply Ac)<;>first | rfl | exact cl
         ·simp +decide only [go_sem,Nat.reduceAdd,Ar hla0,hf5,c,hf10,b,Vl.cs_eqs (BU (a0state.number+1))]
          refine Good.mk [] kr ⟨_,_,by first | rfl | (simp only [List.append_nil,List.nil_append];done) | (simp only [List.append_nil,List.nil_append,List.map_append,List.map_cons,List.map_nil,A2,A0,AY,A3,AZ,AX,AN,AG,A1,Ax,Az,AH,AM,AL,A5,AK,A6];rfl)⟩ ?_ ?_
          ·intro _;apply BM [0,3,5];first | (simp +decide only [go_sem,Nat.reduceAdd,Ar hla0,hf5,c,hf10,b,Vl.cs_eqs (BU (a0state.number+1))];done) | (simp +decide only [go_sem,Nat.reduceAdd,Ar hla0,hf5,c,hf10,b,Vl.cs_eqs (BU (a0state.number+1))];rfl)
          ·intro i hi;cases hi
   simp +decide only [go_sem,Nat.reduceAdd,Ar hla0,hf5,c,hf10,b,Vl.cs_eqs (BU (a0state.number+1))]
   (repeat' apply Ac)<;>first | refine p _ _ ?_ | exact cl
   clear p
   apply Ah;intro K25 q
   obtain ⟨Z,w,h⟩:=bind_some h
   have hs:=Ac (Vl.cs_eqs (BU (a0state.number+1))) hs
   refine rc 2 [0,3,6] hs ?_;intro K26 o
   refine Bm _ (GM w0 hE hM hP hT n _ _ _ la0 a0n a0now a0under a0sent a0state (ef hs) (Slt.mk ((BU (a0state.number+1))) 0 0 ([H]) ([])) 0 _ w) (hv hs) ?_;rintro _ _ ⟨rfl,rfl⟩
   refine ne hs o ?_
   clear o
   refine rg [0,3,6,69] hs ?_
   refine BA h hs ?_ ?_<;>intro hs h
   ·have d:=hs.1
    exact nS h
   have d:=hs.1
   refine sk [0] hs q ?_
   clear q
   obtain ⟨K,h⟩:=Ak h
   apply P0 GP 17 1 1 [] kr
   rw [Ai];simp +decide only [go_sem,Nat.reduceAdd,Ar hla0,hf5,c,hf10,b,Vl.cs_eqs (BU (a0state.number+1)),d]
   (repeat' with_reducible apply Ac)<;>first | (rw [Ai];simp +decide only [go_sem,Nat.reduceAdd,Ar hla0,hf5,c,hf10,b,Vl.cs_eqs (BU (a0state.number+1)),d]) | exact cl
   (repeat' apply Ac)<;>first | refine v _ _ _ (F8 e) ?_ | refine v _ _ _ (Ew e) ?_ | exact cl
   simp +decide only [go_sem,Nat.reduceAdd,Ar hla0,hf5,c,hf10,b,Vl.cs_eqs (BU (a0state.number+1)),d]
   have hgt:=Option.some.inj h;subst hgt
   first | refine Cb (AA f ev) GR g.pre ev ⟨?_,(by first | rfl | exact congrArg (fun z=>St.mk z Rw L) (Bc hla0).symm | (simp +decide only [go_sem,Nat.reduceAdd,Ar hla0,hf5,c,hf10,b,Vl.cs_eqs (BU (a0state.number+1)),d];done))⟩ | refine Dq (AA f ev) GR g.pre ev ⟨?_,(by first | rfl | exact congrArg (fun z=>St.mk z Rw L) (Bc hla0).symm | (simp +decide only [go_sem,Nat.reduceAdd,Ar hla0,hf5,c,hf10,b,Vl.cs_eqs (BU (a0state.number+1)),d];done))⟩
   first | rfl | (simp +decide only [go_sem,Nat.reduceAdd,Ar hla0,hf5,c,hf10,b,Vl.cs_eqs (BU (a0state.number+1)),d];done) | (simp +decide only [go_sem,Nat.reduceAdd,Vl.cs,Ty.cs,Ar hla0,hf5,c,hf10,b,Vl.cs_eqs (BU (a0state.number+1)),d];done)
def EH (n:Nat) (a0n:Nod) (a0now:Int) (a0under:Int × List Int) (a0sent:Int) (a0state:Stt) (b:Slt):Option (Int × Otc) :=
 if B1 (b.number-(a0n.calls.length:Int)) then
  if B1 ((b.number-(a0n.calls.length:Int))-1) then
   (CM n a0n a0now a0under a0sent a0state b ((b.number-(a0n.calls.length:Int))-1)).bind fun g =>
   some ((g.1,g.2))
  else none
 else none
theorem KT (w0:World) (n:Nat) (B:Aj) (Rw:Am) (L:An) (la0:Nat) (a0n:Nod) (a0now:Int) (a0under:Int × List Int) (a0sent:Int) (a0state:Stt) (hla0:B[la0]? = some (Bd a0n a0now a0under a0sent a0state (.list ([]) .full) (.list ([]) .full) (.list ([]) .full) (.list ([]) .full))) (a1:Slt) (r:Int × Otc) (h:EH n a0n a0now a0under a0sent a0state a1=some r) :
  ACalls Tryz.prog w0 39 [.box la0 0,.agg (Ll a1)] ⟨B,Rw,L⟩ fun x st=>x = .tup []/\st=⟨(B.set la0 (Bd a0n a0now a0under r.1 r.2.state (.list (r.2.outputs.map KN) .none) (.list (r.2.requests.map GQ) .none) (.list (r.2.fates.map Hn) .none) (.list (r.2.letters.map Cj) .none))),Rw,L⟩:=by
 rw [EH] at h
 refine hd [] Tryz.func39 Tryz.ntmps39 fun M0 W0 m g k b o f hs=>?_
 simp only [As]
 have a:=(Af.1 hla0).1
 apply GW;intro KE d
 refine Ho (B':=B.set la0 (Bd a0n a0now a0under a0sent a0state (.list ([]) .full) (.list ([]) .full) (.list ([]) .full) (.list ([]) .full))) (by simp only [Bc hla0]) ?_
 have hs:=Ac (Ar hla0) hs
 refine rg [0,3] hs ?_
 obtain ⟨j,h⟩:=Ak h
 obtain ⟨l,h⟩:=Ak h
 obtain ⟨p,e,h⟩:=bind_some h
 apply IA GP [12] [8] [] kr (fun s=>∃ (X:Aj) (rows:Am) (c:List AV),s=⟨(B.set la0 c)++([Ll a1]++X),rows,L⟩) 2 (B.length+1)
 ·simp +decide only [go_sem,Nat.reduceAdd]
 ·refine ⟨1,?_⟩
  rw [Ai];simp +decide only [go_sem,Nat.reduceAdd,BK,Ar hla0]
  (repeat' apply Ac)<;>first | rfl | exact cl
 ·rintro s ⟨X,rows,c,rfl⟩
  refine ⟨1,?_⟩
  rw [Ai];simp +decide only [go_sem,Nat.reduceAdd,BK,List.append_eq,List.cons_append,List.nil_append,Ar hla0]
  (repeat' apply Ac)<;>first | rfl | ((repeat (first | exact .nil | refine .cons (ef hs) ?_));done) | exact cl
 ·refine Good.mk [12] kr ⟨[],_,_,by first | rfl | simp only [List.append_nil,List.nil_append]⟩ ?_ ?_
  ·intro h;exact absurd h (by decide)
  ·intro i hi;simp only [List.mem_cons,List.not_mem_nil,or_false] at hi
   subst hi
   ·apply Aw rfl rfl ev
    ·simp +decide only [go_sem,Nat.reduceAdd,A7,Ar hla0]
     (repeat' with_reducible apply Ac)<;>first | exact E7 (D5 w0 n _ _ _ la0 a0n a0now a0under a0sent a0state (ef hs) a1 ((a1.number-(a0n.calls.length:Int))-1) _ e) (hv hs) | rfl | exact cl
    ·simp +decide only [go_sem,Nat.reduceAdd,Ar hla0]
     refine Good.mk [] kr ⟨[],_,_,by first | rfl | simp only [List.append_nil,List.nil_append]⟩ ?_ ?_
     ·intro _;apply BM [];first | (simp +decide only [go_sem,Nat.reduceAdd,Ar hla0];done) | (simp +decide only [go_sem,Nat.reduceAdd,Ar hla0];rfl)
     ·intro i hi;cases hi
 simp +decide only [go_sem,Nat.reduceAdd,Ar hla0]
 (repeat' apply Ac)<;>first | refine d _ _ _ (F8 a) ?_ | refine d _ _ _ (Ew a) ?_ | exact cl
 simp +decide only [go_sem,Nat.reduceAdd,Ar hla0]
 have hgt:=Option.some.inj h;subst hgt
 first | refine Cb (AA b ev) GR f.pre ev ⟨?_,rfl⟩ | refine Dq (AA b ev) GR f.pre ev ⟨?_,rfl⟩
 first | rfl | (simp +decide only [go_sem,Nat.reduceAdd,Ar hla0];done) | (simp +decide only [go_sem,Nat.reduceAdd,Vl.cs,Ty.cs,Ar hla0];done)
def FY (b:Int):Option ByteArray :=
 if decide (b=18) then
  some ((⟨#[116,121,112,101]⟩:ByteArray))
 else
  Av
theorem Ku (w0:World) (B:Aj) (Rw:Am) (L:An) (a0:Int) (r:ByteArray) (h:FY a0=some r) :
  ACalls Tryz.prog w0 35 [Ag a0] ⟨B,Rw,L⟩ fun x st=>x = .val (.string r)/\st=⟨B,Rw,L⟩:=by
 rw [FY] at h
 refine hd [.tmp 2] Tryz.func35 Tryz.ntmps35 fun M0 W0 f c d b g e hs=>?_
 simp only [As]
 exact go (tg (a:=([0],[0,4],([2],()),((),())))) h hs f c d b e trivial trivial
def Iq (g:Int × ByteArray × Int × Ty × List Vl) (b:ByteArray):Bool :=
 OA g.2.1 b
theorem VU (w0:World) (B:Aj) (Rw:Am) (L:An) (a0:Int × ByteArray × Int × Ty × List Vl) (la1:Nat) (a1:ByteArray) (hla1:B[la1]? = some ([.val (.string a1)])) (r:Bool) (h:Iq a0 a1=r) :
  ACalls Tryz.prog w0 192 [.agg (Ag a0.1::(.val (.string a0.2.1)::(Ag a0.2.2.1::((a0.2.2.2.1.cs)++([.list (a0.2.2.2.2.map B6) .none]))))),.box la1 0] ⟨B,Rw,L⟩ fun x st=>x = .val (.bool r)/\st=⟨B,Rw,L⟩:=by
 rw [Iq] at h
 refine hd [.tmp 3] Tryz.func192 Tryz.ntmps192 fun M0 W0 f d e a g c hs=>?_
 simp only [As]
 have b:=(Af.1 hla1).1
 have hs:=Ac (AD hla1) hs
 refine rg [1,2] hs ?_
 refine rg [3] hs ?_
 exact rT h hs a c
theorem Uu (w0:World) (B:Aj) (Rw:Am) (L:An) (a0:Int × ByteArray × Int × Ty × List Vl) (la1:Nat) (a1:ByteArray) (hla1:B[la1]? = some ([.val (.string a1)])) :
  ACalls Tryz.prog w0 192 [.agg (Ag a0.1::(.val (.string a0.2.1)::(Ag a0.2.2.1::((a0.2.2.2.1.cs)++([.list (a0.2.2.2.2.map B6) .none]))))),.box la1 0] ⟨B,Rw,L⟩ fun x st=>x = .val (.bool (Iq a0 a1))/\st=⟨B,Rw,L⟩:=VU w0 B Rw L a0 la1 a1 hla1 _ rfl
def Nb (n:Nat) (h:Ty) (g:List Ty) (b:List (Int × ByteArray × Int × Ty × List Vl)):Option Ty :=
 if h.words.length*16<=140737488355328 then
  some (Ty.mk h.kind h.min h.max h.scale h.words g b)
 else none
def NU (n:Nat) (h:Ty):Nat->(List Ty)->(List (Int × ByteArray × Int × Ty × List Vl))->Option Ty
 | 0,_,_=>none
 | m+1,g,b =>
  if decide (0<(h.fields.length:Int)) then
   Av
  else
   Nb n h g b
def Py (n:Nat) (g:Ty) (b:List Ty):Option Ty :=
 if 0<=(g.fields.length:Int)/\(g.fields.length:Int)*160<=140737488355328/\(g.fields.length:Int)<=4611686018427387904 then
  NU n g n b ([])
 else none
def OY (n:Nat) (g:Ty):Nat->(List Ty)->Option Ty
 | 0,_=>none
 | m+1,b =>
  if decide (0<(g.elem.length:Int)) then
   Av
  else
   Py n g b
def Oq (n:Nat) (b:Ty):Option Ty :=
 if 0<=(b.elem.length:Int)/\(b.elem.length:Int)*104<=140737488355328/\(b.elem.length:Int)<=4611686018427387904 then
  OY n b n ([])
 else none
theorem YD (w0:World) (n:Nat) (B:Aj) (Rw:Am) (L:An) (a0:Ty) (r:Ty) (h:Oq n a0=some r) :
  ACalls Tryz.prog w0 301 [.agg (a0.cs)] ⟨B,Rw,L⟩ fun x st=>x = .agg (r.cs)/\st=⟨B,Rw,L⟩:=by
 rw [Oq] at h
 refine hd [.cell 2 28] Tryz.func301 Tryz.ntmps301 fun M0 W0 z u v q J t hs=>?_
 simp only [As]
 refine rg [1,2] hs ?_
 obtain ⟨G,h⟩:=Ak h
 have t:=t.make 7 0
 refine rg [1,2,3] hs ?_
 refine AO (fun e st=>∃ (l:List Ty) (j:Ev.Own),Ck e st B Rw L [(1,true,.box B.length 0),(2,true,.box (B.length+1) 0),(3,true,.list (l.map JX) j)] [a0.cs,[Ag 0,Ag 0,Ag 0,Ag 0,.list ([]) .full,.list ([]) .full,.list ([]) .full]] [(7,l.length,j)] (Py n a0 l=some r)) ?_ ?_
 ·intro K7 C
  refine rg [1,2,3,14,15,16] hs ?_
  apply Ao
  refine AB (fun m e st=>∃ (p:List Ty) (s:Ev.Own),Ck e st B Rw L [(1,true,.box B.length 0),(2,true,.box (B.length+1) 0),(3,true,.list (p.map JX) s),(14,true,.list (a0.elem.map JX) .none),(15,true,Ag (a0.elem.length:Int)),(16,true,Ag 0)] [a0.cs,[Ag 0,Ag 0,Ag 0,Ag 0,.list ([]) .full,.list ([]) .full,.list ([]) .full]] [(7,p.length,s)] (OY n a0 m p=some r)) n ⟨([]),((.row Rw.length)),([]),((Rw++[.grow 0 7])),ef hs,ef hs,Owns.of_eq (t) Fe,h⟩ ?_
  rintro ml9 e st ⟨p,s,Xl9,Rl9,rfl,rfl,t,h⟩ Ul9 Vl9
  cases ml9 with
  | zero=>cases h
  | succ ml9 =>
  rw [OY] at h
  exact go (tg (a:=([1,2,3,14,15,16,17],((),()),[1,2,3],()))) h hs z u v q t trivial (q1 C)
 ·clear h;rintro e st ⟨l,j,Xk6,Rk6,rfl,rfl,t,h⟩
  rw [Py] at h
  have y:=t.unders
  simp only [List.mem_cons,List.not_mem_nil,or_false,forall_eq_or_imp,forall_eq] at y
  refine td z u v q t ?_
  obtain ⟨D,h⟩:=Ak h
  have t:=t.make 11 0
  refine rg [1,2,3,6] hs ?_
  refine AO (fun e st=>∃ (g:List Ty) (i:List (Int × ByteArray × Int × Ty × List Vl)) (k:Ev.Own) (o:Ev.Own),Ck e st B Rw L [(1,true,.box B.length 0),(2,true,.box (B.length+1) 0),(3,true,.list (g.map JX) k),(6,true,.list (i.map Gl) o)] [a0.cs,[Ag 0,Ag 0,Ag 0,Ag 0,.list ([]) .full,.list ([]) .full,.list ([]) .full]] [(7,g.length,k),(11,i.length,o)] (Nb n a0 g i=some r)) ?_ ?_
  ·intro K18 w
   refine rg [1,2,3,6,31,32,33] hs ?_
   apply Ao
   refine AB (fun m e st=>∃ (d:List Ty) (f:List (Int × ByteArray × Int × Ty × List Vl)) (b:Ev.Own) (c:Ev.Own),Ck e st B Rw L [(1,true,.box B.length 0),(2,true,.box (B.length+1) 0),(3,true,.list (d.map JX) b),(6,true,.list (f.map Gl) c),(31,true,.list (a0.fields.map Gl) .none),(32,true,Ag (a0.fields.length:Int)),(33,true,Ag 0)] [a0.cs,[Ag 0,Ag 0,Ag 0,Ag 0,.list ([]) .full,.list ([]) .full,.list ([]) .full]] [(7,d.length,b),(11,f.length,c)] (NU n a0 m d f=some r)) n ⟨l,([]),j,((.row Rk6.length)),([]),((Rk6++[.grow 0 11])),ef hs,ef hs,Owns.of_eq ((t).swap (List.Perm.swap _ _ _)) Fe,h⟩ ?_
   rintro ml20 e st ⟨d,f,b,c,Xl20,Rl20,rfl,rfl,t,h⟩ Ul20 Vl20
   cases ml20 with
   | zero=>cases h
   | succ ml20 =>
   rw [NU] at h
   have y:=t.unders
   simp only [List.mem_cons,List.not_mem_nil,or_false,forall_eq_or_imp,forall_eq] at y
   obtain ⟨F,H⟩:=y
   refine td z u v q t ?_
   refine rg [1,2,3,6,31,32,33,34] hs ?_
   apply Ah;intro K22 E
   refine BA h hs ?_ ?_<;>intro hs h
   rotate_left
   ·refine sx [1,2,3,6] hs w ?_
    exact ⟨d,f,b,c,([]),Rl20,ef hs,ef hs,Owns.of_eq (((t).swap (List.Perm.swap _ _ _)).swap (List.Perm.swap _ _ _)) Fe,h⟩
   exact nS h
  ·clear h;rintro e st ⟨g,i,k,o,Xk17,Rk17,rfl,rfl,t,h⟩
   rw [Nb] at h
   exact go (tg (a:=([1,2],[2],()))) h (Ac (Ty.cs_eqs a0) hs) z u v q t (q1 (Pg w0)) trivial
def IM (rec:Ty->Option Ty) (n:Nat) (g:Int × ByteArray × Int × Ty × List Vl) (h:Ty) (b:List Vl):Option ((Int × ByteArray × Int × Ty × List Vl)) :=
 some ((g.1,g.2.1,g.2.2.1,h,b))
def HZ (rec:Ty->Option Ty) (n:Nat) (g:Int × ByteArray × Int × Ty × List Vl) (h:Ty):Nat->(List Vl)->Option ((Int × ByteArray × Int × Ty × List Vl))
 | 0,_=>none
 | m+1,b =>
  if decide (0<(g.2.2.2.2.length:Int)) then
   Av
  else
   IM rec n g h b
def JI (rec:Ty->Option Ty) (n:Nat) (b:Int × ByteArray × Int × Ty × List Vl):Option ((Int × ByteArray × Int × Ty × List Vl)) :=
 (rec b.2.2.2.1).bind fun g =>
 if 0<=(b.2.2.2.2.length:Int)/\(b.2.2.2.2.length:Int)*88<=140737488355328/\(b.2.2.2.2.length:Int)<=4611686018427387904 then
  HZ rec n b g n ([])
 else none
theorem RF (w0:World) (rec:Ty->Option Ty) (ih:∀ (B:Aj) (Rw:Am) (L:An) (a0:Ty) (r:Ty) (h:rec a0=some r),ACalls Tryz.prog w0 301 [.agg (a0.cs)] ⟨B,Rw,L⟩ fun x st=>x = .agg (r.cs)/\st=⟨B,Rw,L⟩) (n:Nat) (B:Aj) (Rw:Am) (L:An) (a0:Int × ByteArray × Int × Ty × List Vl) (r:(Int × ByteArray × Int × Ty × List Vl)) (h:JI rec n a0=some r) :
  ACalls Tryz.prog w0 244 [.agg (Ag a0.1::(.val (.string a0.2.1)::(Ag a0.2.2.1::((a0.2.2.2.1.cs)++([.list (a0.2.2.2.2.map B6) .none])))))] ⟨B,Rw,L⟩ fun x st=>x = .agg (Ag r.1::(.val (.string r.2.1)::(Ag r.2.2.1::((r.2.2.2.1.cs)++([.list (r.2.2.2.2.map B6) .none])))))/\st=⟨B,Rw,L⟩:=by
 rw [JI] at h
 refine hd [.cell 2 109] Tryz.func244 Tryz.ntmps244 fun M0 W0 s k l i u j hs=>?_
 simp only [As]
 refine rg [1,2] hs ?_
 obtain ⟨g,q,h⟩:=bind_some h
 have hs:=Ac (Ty.cs_eqs a0.2.2.2.1) hs
 have hs:=Ac (Ty.cs_eqs g) hs
 refine rc 2 [1,2] hs ?_;intro K2 o
 refine Aq _ (ih _ _ _ a0.2.2.2.1 _ q) (hv hs) ?_
 refine ne hs o ?_
 clear o
 obtain ⟨t,h⟩:=Ak h
 have j:=j.make 6 0
 refine rg [1,2,3] hs ?_
 refine AO (fun e st=>∃ (d:List Vl) (f:Ev.Own),Ck e st B Rw L [(1,true,.box B.length 0),(2,true,.box (B.length+1) 0),(3,true,.list (d.map B6) f)] [[Ag a0.1,.val (.string a0.2.1),Ag a0.2.2.1,Ag g.kind,Ag g.min,Ag g.max,Ag g.scale,.list (g.words.map RX) .none,.list (g.elem.map JX) .none,.list (g.fields.map Gl) .none,.list (a0.2.2.2.2.map B6) .none],[Ag 0,.val (.string (⟨#[]⟩:ByteArray)),Ag 0,Ag 0,Ag 0,Ag 0,Ag 0,.list ([]) .full,.list ([]) .full,.list ([]) .full,.list ([]) .full]] [(6,d.length,f)] (IM rec n a0 g d=some r)) ?_ ?_
 ·intro K9 p
  refine rg [1,2,3,15,16,17] hs ?_
  apply Ao
  refine AB (fun m e st=>∃ (b:List Vl) (c:Ev.Own),Ck e st B Rw L [(1,true,.box B.length 0),(2,true,.box (B.length+1) 0),(3,true,.list (b.map B6) c),(15,true,.list (a0.2.2.2.2.map B6) .none),(16,true,Ag (a0.2.2.2.2.length:Int)),(17,true,Ag 0)] [[Ag a0.1,.val (.string a0.2.1),Ag a0.2.2.1,Ag g.kind,Ag g.min,Ag g.max,Ag g.scale,.list (g.words.map RX) .none,.list (g.elem.map JX) .none,.list (g.fields.map Gl) .none,.list (a0.2.2.2.2.map B6) .none],[Ag 0,.val (.string (⟨#[]⟩:ByteArray)),Ag 0,Ag 0,Ag 0,Ag 0,Ag 0,.list ([]) .full,.list ([]) .full,.list ([]) .full,.list ([]) .full]] [(6,b.length,c)] (HZ rec n a0 g m b=some r)) n ⟨([]),((.row Rw.length)),([]),((Rw++[.grow 0 6])),ef hs,ef hs,Owns.of_eq (j) Fe,h⟩ ?_
  rintro ml11 e st ⟨b,c,Xl11,Rl11,rfl,rfl,j,h⟩ Ul11 Vl11
  cases ml11 with
  | zero=>cases h
  | succ ml11 =>
  rw [HZ] at h
  exact go (tg (a:=([1,2,3,15,16,17,18],((),()),[1,2,3],()))) h hs s k l i j trivial (q1 p)
 ·clear h;rintro e st ⟨d,f,Xk8,Rk8,rfl,rfl,j,h⟩
  rw [IM] at h
  exact go (tg (a:=([1,2],[2],()))) h hs s k l i j trivial trivial
def TY (n:Nat) (b:Ty) (y:(Int × ByteArray × Int × Ty × List Vl)->Option Bool):Option ((Int × ByteArray × Int × Ty × List Vl) × Bool) :=
 if (!(decide (b.kind=9)))&&(!(decide (b.kind=10))) then
  Av
 else
  (B8 n b.fields y).bind fun q =>
  if decide (q<0) then
   Av
  else
   (D1 b.fields q).bind fun g =>
   (JI (Oq n) n g).bind fun h =>
   some ((h,true))
theorem ZU (w0:World) (n:Nat) (B:Aj) (Rw:Am) (L:An) (a0:Ty) (fa1:FuncId) (ca1:List AV) (a1:(Int × ByteArray × Int × Ty × List Vl)->Option Bool) (ha1:∀ (x0:Int × ByteArray × Int × Ty × List Vl) r,a1 x0=some r->∀ B' rows,B <+: B'->Rw <+: rows->ACalls Tryz.prog w0 fa1 ([.agg (Ag x0.1::(.val (.string x0.2.1)::(Ag x0.2.2.1::((x0.2.2.2.1.cs)++([.list (x0.2.2.2.2.map B6) .none])))))]++ca1) ⟨B',rows,L⟩ fun v s=>v = .val (.bool r)/\s=⟨B',rows,L⟩) (r:(Int × ByteArray × Int × Ty × List Vl) × Bool) (h:TY n a0 a1=some r) :
  ACalls Tryz.prog w0 191 [.agg (a0.cs),.clo fa1 ca1] ⟨B,Rw,L⟩ fun x st=>x = .tup [.agg (Ag r.1.1::(.val (.string r.1.2.1)::(Ag r.1.2.2.1::((r.1.2.2.2.1.cs)++([.list (r.1.2.2.2.2.map B6) .none]))))),.val (.bool r.2)]/\st=⟨B,Rw,L⟩:=by
 rw [TY] at h
 refine hd [.cell 4 109,.tmp 5] Tryz.func191 Tryz.ntmps191 fun M0 W0 m f g c o l hs=>?_
 simp only [As]
 have k:=BJ (o (.clo fa1 ca1) (by simp))
 refine rg [1,2,4] hs ?_
 apply Ah;intro K2 d
 refine rg [1,2,4,14] hs ?_
 refine BA h hs ?_ ?_<;>intro hs h
 ·exact nS h
 refine sk [1,2,4] hs d ?_
 clear d
 obtain ⟨q,j,h⟩:=bind_some h
 refine rc 2 [2,4,6] hs ?_;intro K5 i
 refine Aq _ (DN w0 n _ _ _ a0.fields fa1 ca1 a1 (fun x0 r p e b q1 q2=>ha1 x0 r p e b (List.IsPrefix.trans px q1) (l.pre.trans q2)) _ j) (hv hs) ?_
 exact go (tg (a:=([2,4,6,21],((),()),[2,4,6],[4,5],()))) h hs m f g c l (q1 (RF w0 (Oq n) (YD w0 n) n)) (q1 i)
def Qy (n:Nat) (h:Ty) (g:ByteArray):Option ((Int × ByteArray × Int × Ty × List Vl) × Bool) :=
 (TY n h (fun (q:Int × ByteArray × Int × Ty × List Vl)=>some (Iq q g))).bind fun b =>
 some ((b.1,b.2))
theorem YF (w0:World) (n:Nat) (B:Aj) (Rw:Am) (L:An) (a0:Ty) (a1:ByteArray) (r:(Int × ByteArray × Int × Ty × List Vl) × Bool) (h:Qy n a0 a1=some r) :
  ACalls Tryz.prog w0 137 [.agg (a0.cs),.val (.string a1)] ⟨B,Rw,L⟩ fun x st=>x = .tup [.agg (Ag r.1.1::(.val (.string r.1.2.1)::(Ag r.1.2.2.1::((r.1.2.2.2.1.cs)++([.list (r.1.2.2.2.2.map B6) .none]))))),.val (.bool r.2)]/\st=⟨B,Rw,L⟩:=by
 rw [Qy] at h
 refine hd [.cell 4 109,.tmp 5] Tryz.func137 Tryz.ntmps137 fun M0 W0 i e f a j d hs=>?_
 simp only [As]
 refine rg [2,3,4] hs ?_
 obtain ⟨k,hy3,h⟩:=bind_some h
 refine rc 2 [4,5] hs ?_;intro K2 b
 refine Aq _ (ZU w0 n _ _ _ a0 192 [.box (B.length+1) 0] (fun (x0:Int × ByteArray × Int × Ty × List Vl)=>some (Iq x0 a1)) (fun x0 r hx g rows' hB' c=>by cases hx;exact Uu w0 _ _ _ x0 _ a1 (Ej hB' ev)) _ hy3) (hv hs) ?_
 refine ne hs b ?_
 clear b
 exact rt h hs a d
def Oh (n:Nat) (b:Int × ByteArray × Int × Ty × List Vl) (g:Vl):Option Bool :=
 (Ov n g b.2.1).bind fun h =>
 some ((!h.2)&&(!(decide (b.2.2.1=2))))
theorem XW (w0:World) (n:Nat) (B:Aj) (Rw:Am) (L:An) (a0:Int × ByteArray × Int × Ty × List Vl) (la1:Nat) (a1:Vl) (hla1:B[la1]? = some (a1.cs)) (r:Bool) (h:Oh n a0 a1=some r) :
  ACalls Tryz.prog w0 210 [.agg (Ag a0.1::(.val (.string a0.2.1)::(Ag a0.2.2.1::((a0.2.2.2.1.cs)++([.list (a0.2.2.2.2.map B6) .none]))))),.box la1 0] ⟨B,Rw,L⟩ fun x st=>x = .val (.bool r)/\st=⟨B,Rw,L⟩:=by
 rw [Oh] at h
 refine hd [.tmp 3] Tryz.func210 Tryz.ntmps210 fun M0 W0 g d e b i f hs=>?_
 simp only [As]
 have c:=(Af.1 hla1).1
 have hs:=Ac (AD hla1) hs
 exact go (tg (a:=([1,2],[2,5],[3],()))) h hs g d e b f (q1 (TT w0 n)) trivial
def Cf (n:Nat) (g:List (Int × ByteArray × Int × Ty × List Vl)) (b:(Int × ByteArray × Int × Ty × List Vl)->Option Bool):Option Bool :=
 (B8 n g b).bind fun h =>
 some (decide (0<=h))
theorem E5 (w0:World) (n:Nat) (B:Aj) (Rw:Am) (L:An) (a0:List (Int × ByteArray × Int × Ty × List Vl)) (fa1:FuncId) (ca1:List AV) (a1:(Int × ByteArray × Int × Ty × List Vl)->Option Bool) (ha1:∀ (x0:Int × ByteArray × Int × Ty × List Vl) r,a1 x0=some r->∀ B' rows,B <+: B'->Rw <+: rows->ACalls Tryz.prog w0 fa1 ([.agg (Ag x0.1::(.val (.string x0.2.1)::(Ag x0.2.2.1::((x0.2.2.2.1.cs)++([.list (x0.2.2.2.2.map B6) .none])))))]++ca1) ⟨B',rows,L⟩ fun v s=>v = .val (.bool r)/\s=⟨B',rows,L⟩) (r:Bool) (h:Cf n a0 a1=some r) :
  ACalls Tryz.prog w0 209 [.list (a0.map Gl) .none,.clo fa1 ca1] ⟨B,Rw,L⟩ fun x st=>x = .val (.bool r)/\st=⟨B,Rw,L⟩:=by
 rw [Cf] at h
 refine hd [.tmp 4] Tryz.func209 Tryz.ntmps209 fun M0 W0 m i k b j g hs=>?_
 simp only [As]
 have f:=BJ (j (.clo fa1 ca1) (by simp))
 refine rg [0,1] hs ?_
 obtain ⟨o,e,h⟩:=bind_some h
 refine rc 2 [4] hs ?_;intro K2 c
 refine Aq _ (DN w0 n _ _ _ a0 fa1 ca1 a1 (fun x0 r l d a q1 q2=>ha1 x0 r l d a (List.IsPrefix.trans px q1) (g.pre.trans q2)) _ e) (hv hs) ?_
 refine ne hs c ?_
 clear c
 exact rt h hs b g
def Qz (rec:Ty->Vl->Option Bool) (n:Nat) (h:Ty) (g:Vl):Option Bool :=
 (Cf n h.fields (fun (q:Int × ByteArray × Int × Ty × List Vl)=>Oh n q g)).bind fun b =>
 some (!b)
def N6 (rec:Ty->Vl->Option Bool) (n:Nat) (a0:Ty) (q:Vl):Nat->Int->Option Bool
 | 0,_=>none
 | m+1,b =>
  if decide (b<(q.fields.length:Int)) then
   (D1 q.fields b).bind fun h =>
   (Qy n a0 h.1).bind fun g =>
   if !g.2 then
    Av
   else
    (rec g.1.2.2.2.1 h.2).bind fun y =>
    if !y then
     Av
    else
     if B1 (b+1) then
      (N6 rec n a0 q m) (b+1)
     else none
  else
   Qz rec n a0 q 
def P1 (rec:Ty->Vl->Option Bool) (n:Nat) (g:Ty) (h:Vl) (b:Bool):Option Bool :=
 if b then
  some ((decide (g.min<=h.int)&&decide (h.int<=g.max))&&(decide (h.scale=g.scale)))
 else
  if decide (g.kind=4) then
   Av
  else
   if decide (g.kind=5) then
    Av
   else
    if decide (g.kind=8) then
     Av
    else
     if decide (g.kind=10) then
      Av
     else
      if decide (g.kind=9) then
       N6 rec n g h n 0
      else
       Av
def Wh (rec:Ty->Vl->Option Bool) (n:Nat) (b:Ty) (g:Vl):Option Bool :=
 if !(decide (g.kind=b.kind)) then
  some (false)
 else
  if decide (b.kind=2) then
   P1 rec n b g true
  else
   if decide (b.kind=6) then
    Av
   else
    if decide (b.kind=7) then
     Av
    else
     P1 rec n b g (decide (b.kind=3))
def RZ:Nat->Ty->Vl->Option Bool
 | 0,_,_=>none
 | n+1,g,b=>Wh (RZ n) n g b
def V0 (w0:World) (F:Ty->Vl->Option Bool):Prop:=∀ (B:Aj) (Rw:Am) (L:An) (g:Ty) (b:Vl) (r:Bool),F g b=some r->ACalls Tryz.prog w0 144 [.agg (g.cs),.agg (b.cs)] ⟨B,Rw,L⟩ fun x st=>x = .val (.bool r)/\st=⟨B,Rw,L⟩
theorem YL (w0:World) (rec:Ty->Vl->Option Bool) (ih:V0 w0 rec) (n:Nat):V0 w0 (Wh rec n):=by
 intro B Rw L a0 a1 r h
 rw [Wh] at h
 refine hd [.tmp 4] Tryz.func144 Tryz.ntmps144 fun M0 W0 o g i b C f hs=>?_
 simp only [As]
 refine rg [2,3] hs ?_
 apply Ah;intro K2 k
 refine rg [2,3,15] hs ?_
 refine BA h hs ?_ ?_<;>intro hs h
 ·refine rg [4] hs ?_
  exact rt h hs b f
 refine sk [2,3] hs k ?_
 clear k
 apply Ah;intro K6 v
 refine rg [2,3,17] hs ?_
 apply Ao
 refine AO (fun e st=>∃ (d:Bool),Ck e st B Rw L [(2,true,.box B.length 0),(3,true,.box (B.length+1) 0),(17,true,Ag a0.kind),(18,true,.val (.bool d))] [a0.cs,a1.cs] [] (P1 rec n a0 a1 d=some r)) ?_ ?_
 ·intro K10 q
  exact go (tg (a:=([2,3,17,18],([2,3,17,18],()),[2,3,17,18],((),()),[2,3,17,18],((),()),[2,3,17,18],()))) h hs o g i b f trivial (q1 q)
 ·clear h;rintro e st ⟨d,Xk9,Rk9,rfl,rfl,f,h⟩
  rw [P1] at h
  refine td o g i b f ?_
  refine BA h hs ?_ ?_<;>intro hs h
  ·exact go (tg (a:=([4],()))) h hs o g i b f (q1 (Xm w0)) trivial
  refine rg [2,3,17,37] hs ?_
  refine BA h hs ?_ ?_<;>intro hs h
  ·exact nS h
  refine rg [2,3,17,56] hs ?_
  refine BA h hs ?_ ?_<;>intro hs h
  ·exact nS h
  refine rg [2,3,17,66] hs ?_
  refine BA h hs ?_ ?_<;>intro hs h
  ·exact nS h
  refine rg [2,3,17,83] hs ?_
  refine BA h hs ?_ ?_<;>intro hs h
  ·exact nS h
  refine rg [2,3,102] hs ?_
  refine BA h hs ?_ ?_<;>intro hs h
  ·refine AO (fun e st=>Ck e st B Rw L [(2,true,.box B.length 0),(3,true,.box (B.length+1) 0)] [a0.cs,a1.cs] [] (Qz rec n a0 a1  = some r)) ?_ ?_
   ·intro K31 l
    refine rg [2,3,105,106,107] hs ?_
    apply Ao
    refine AB (fun m e st=>∃ (c:Int),Ck e st B Rw L [(2,true,.box B.length 0),(3,true,.box (B.length+1) 0),(105,true,.list (a1.fields.map B7) .none),(106,true,Ag (a1.fields.length:Int)),(107,true,Ag c)] [a0.cs,a1.cs] [] (N6 rec n a0 a1 m c=some r)) n ⟨0,([]),Rk9,ef hs,ef hs,f,h⟩ ?_
    rintro ml33 e st ⟨c,Xl33,Rl33,rfl,rfl,f,h⟩ Ul33 Vl33
    cases ml33 with
    | zero=>cases h
    | succ ml33 =>
    rw [N6] at h
    exact go (tg (a:=([2,3,105,106,107,108],([2,3,105,106,107],[2,3,8,105,106,107],[2,3,8,9,10,105,106,107],((),()),[2,3,105,106,107,127],((),()),[2,3,105,106,107],[2,3,105,106,107],()),[2,3],()))) h hs o g i b f (q2 (YF w0 n) ih) (q2 l (fun e s=>Vl33 ml33 e s (Nat.lt_succ_self _)))
   ·clear h;rintro e st ⟨Xk30,Rk30,rfl,rfl,f,h⟩
    rw [Qz] at h
    refine td o g i b f ?_
    obtain ⟨w,p,h⟩:=bind_some h
    refine rc 2 [4] hs ?_;intro K47 j
    refine Aq _ (E5 w0 n _ _ _ a0.fields 210 [.box (B.length+1) 0] (fun (t:Int × ByteArray × Int × Ty × List Vl)=>Oh n t a1) (fun t r y z rows' u x=>by exact XW w0 n _ _ _ t _ a1 (Ej u (ef hs)) _ y) _ p) (hv hs) ?_
    refine ne hs j ?_
    clear j
    exact rt h hs b f
  exact nS h
theorem W5 (w0:World):∀ n:Nat,V0 w0 (RZ n)
 | 0=>fun _ _ _ _ _ _ h=>(nomatch h)
 | n+1=>YL w0 (RZ n) (W5 w0 n) n
def ND (n:Nat) (h:Ty) (b:Vl):Option Bool :=
 (HL n b).bind fun q =>
 if decide (q=0) then
  (RZ n h b).bind fun g =>
  some (g)
 else
  Av
theorem Vv (w0:World) (hT:Lib.Utf8Tabs 1 2 w0) (n:Nat) (B:Aj) (Rw:Am) (L:An) (a0:Ty) (a1:Vl) (r:Bool) (h:ND n a0 a1=some r) :
  ACalls Tryz.prog w0 99 [.agg (a0.cs),.agg (a1.cs)] ⟨B,Rw,L⟩ fun x st=>x = .val (.bool r)/\st=⟨B,Rw,L⟩:=by
 rw [ND] at h
 refine hd [.tmp 4] Tryz.func99 Tryz.ntmps99 fun M0 W0 f c d b g e hs=>?_
 simp only [As]
 exact go (tg (a:=([2,3],([4],()),((),())))) h hs f c d b e (q2 (JR w0 hT n) (W5 w0 n)) trivial
def IC (g:Int × ByteArray × Int × Ty × List Vl) (b:Int × ByteArray × Int × Ty × List Vl):Bool :=
 (OA g.2.1 b.2.1)||(decide (g.1=b.1))
theorem Vy (w0:World) (B:Aj) (Rw:Am) (L:An) (a0:Int × ByteArray × Int × Ty × List Vl) (la1:Nat) (a1:Int × ByteArray × Int × Ty × List Vl) (hla1:B[la1]? = some (Ag a1.1::(.val (.string a1.2.1)::(Ag a1.2.2.1::((a1.2.2.2.1.cs)++([.list (a1.2.2.2.2.map B6) .none])))))) (r:Bool) (h:IC a0 a1=r) :
  ACalls Tryz.prog w0 305 [.agg (Ag a0.1::(.val (.string a0.2.1)::(Ag a0.2.2.1::((a0.2.2.2.1.cs)++([.list (a0.2.2.2.2.map B6) .none]))))),.box la1 0] ⟨B,Rw,L⟩ fun x st=>x = .val (.bool r)/\st=⟨B,Rw,L⟩:=by
 rw [IC] at h
 refine hd [.tmp 3] Tryz.func305 Tryz.ntmps305 fun M0 W0 f d e a g c hs=>?_
 simp only [As]
 have b:=(Af.1 hla1).1
 have hs:=Ac (AD hla1) hs
 refine rg [1,2] hs ?_
 refine rg [3] hs ?_
 exact rT h hs a c
theorem UG (w0:World) (B:Aj) (Rw:Am) (L:An) (a0:Int × ByteArray × Int × Ty × List Vl) (la1:Nat) (a1:Int × ByteArray × Int × Ty × List Vl) (hla1:B[la1]? = some (Ag a1.1::(.val (.string a1.2.1)::(Ag a1.2.2.1::((a1.2.2.2.1.cs)++([.list (a1.2.2.2.2.map B6) .none])))))) :
  ACalls Tryz.prog w0 305 [.agg (Ag a0.1::(.val (.string a0.2.1)::(Ag a0.2.2.1::((a0.2.2.2.1.cs)++([.list (a0.2.2.2.2.map B6) .none]))))),.box la1 0] ⟨B,Rw,L⟩ fun x st=>x = .val (.bool (IC a0 a1))/\st=⟨B,Rw,L⟩:=Vy w0 B Rw L a0 la1 a1 hla1 _ rfl
def QS (n:Nat) (h:Ty) (g:Int):Option Int :=
 (D1 h.fields g).bind fun b =>
 if b.2.1.size<=maxLen then
  if !(OG b.2.1) then
   Av
  else
   if !(decide (1<=b.1)&&decide (b.1<=9999)) then
    Av
   else
    if 0<=0/\0<=g/\g<=(h.fields.length:Int) then
     (Cf n (h.fields.take g.toNat) (fun (y:Int × ByteArray × Int × Ty × List Vl)=>some (IC y b))).bind fun q =>
     if q then
      Av
     else
      if (!(decide (1<=b.2.2.1)&&decide (b.2.2.1<=3)))||((decide (h.kind=10))&&(!(decide (b.2.2.1=1)))) then
       Av
      else
       if (decide (b.2.2.1=3))&&(decide ((b.2.2.2.2.length:Int)=0)) then
        Av
       else
        if (decide (1<(b.2.2.2.2.length:Int)))||((!(decide (b.2.2.1=3)))&&(decide (0<(b.2.2.2.2.length:Int)))) then
         Av
        else
         some (0)
    else none
 else none
theorem Yq (w0:World) (n:Nat) (B:Aj) (Rw:Am) (L:An) (a0:Ty) (a1:Int) (r:Int) (h:QS n a0 a1=some r) :
  ACalls Tryz.prog w0 256 [.agg (a0.cs),Ag a1] ⟨B,Rw,L⟩ fun x st=>x=Ag r/\st=⟨B,Rw,L⟩:=by
 rw [QS] at h
 refine hd [.tmp 4] Tryz.func256 Tryz.ntmps256 fun M0 W0 v l o b z t hs=>?_
 simp only [As]
 refine rg [1,2] hs ?_
 obtain ⟨x3,m,h⟩:=bind_some h
 obtain ⟨p,q,e⟩:=Bo m
 have d:=Bq (f:=Gl) e
 have hs:=Ac d hs
 refine rg [1,2,5] hs ?_
 apply Ah;intro K4 k
 apply Ao
 obtain ⟨j,h⟩:=Ak h
 refine rc 2 [1,2,5,11] hs ?_;intro K5 c
 refine Aq _ (Lq w0 _ _ _ x3.2.1 j) (hv hs) ?_
 refine ne hs c ?_
 clear c
 refine BA h hs ?_ ?_<;>intro hs h
 ·exact nS h
 refine rc 2 [1,2,5,16] hs ?_;intro K8 g
 refine Aq _ (Xm w0 _ _ _ x3.1 1 9999) (hv hs) ?_
 refine ne hs g ?_
 clear g
 refine BA h hs ?_ ?_<;>intro hs h
 ·exact nS h
 obtain ⟨s,h⟩:=Ak h
 obtain ⟨w,hy12,h⟩:=bind_some h
 refine rc 2 [2,5,21] hs ?_;intro K10 i
 refine Aq _ (E5 w0 n _ _ _ (a0.fields.take a1.toNat) 305 [.box (B.length+1) 0] (fun (x0:Int × ByteArray × Int × Ty × List Vl)=>some (IC x0 x3)) (fun x0 r hx y rows' hB' u=>by cases hx;exact UG w0 _ _ _ x0 _ x3 (Ej hB' (ef hs))) _ hy12) (hv hs) ?_
 exact go (tg (a:=(((),()),[5,28],((),()),[5,43],((),()),[53],((),()),[],[4],()))) h hs v l o b t (q1 (Xm w0)) (q2 i k)
def TG (b:Ty) (g:Lim):Option Int :=
 if (!g.bounds)&&((!(decide (b.min=0)))||(!(decide (b.max=0)))) then
  Av
 else
  if (!g.scale)&&(!(decide (b.scale=0))) then
   Av
  else
   if (!g.text)&&(decide (0<(b.words.length:Int))) then
    Av
   else
    if (!g.list)&&(decide (0<(b.elem.length:Int))) then
     Av
    else
     if (!g.fields)&&(decide (0<(b.fields.length:Int))) then
      Av
     else
      some (0)
theorem ZL (w0:World) (B:Aj) (Rw:Am) (L:An) (a0:Ty) (a1:Lim) (r:Int) (h:TG a0 a1=some r) :
  ACalls Tryz.prog w0 254 [.agg (a0.cs),.agg (.val (.string a1.name)::(Ag a1.low::(Ag a1.high::(.val (.bool a1.bounds)::(.val (.bool a1.scale)::(.val (.bool a1.text)::(.val (.bool a1.list)::([.val (.bool a1.fields)]))))))))] ⟨B,Rw,L⟩ fun x st=>x=Ag r/\st=⟨B,Rw,L⟩:=by
 rw [TG] at h
 refine hd [.tmp 4] Tryz.func254 Tryz.ntmps254 fun M0 W0 f c d b g e hs=>?_
 simp only [As]
 exact go (tg (a:=([2,3],[2,3,5],((),()),[2,3,5],((),()),[2,3,5],((),()),[2,3,5],((),()),[5],((),()),[],[4],()))) h hs f c d b e trivial trivial
def Ls  : ((List Lim)) :=
 [Lim.mk (⟨#[]⟩:ByteArray) 0 0 false false false false false,Lim.mk ((⟨#[98,111,111,108]⟩:ByteArray)) 0 0 false false false false false,Lim.mk ((⟨#[105,110,116]⟩:ByteArray)) ((-999999999999999)) 999999999999999 true false false false false,Lim.mk ((⟨#[100,101,99,105,109,97,108]⟩:ByteArray)) ((-999999999999999)) 999999999999999 true true false false false,Lim.mk ((⟨#[116,101,120,116]⟩:ByteArray)) 0 1024 true false true false false,Lim.mk ((⟨#[98,121,116,101,115]⟩:ByteArray)) 0 1024 true false false false false,Lim.mk ((⟨#[100,97,116,101]⟩:ByteArray)) ((-719162)) 2932896 true false false false false,Lim.mk ((⟨#[116,105,109,101]⟩:ByteArray)) ((-62135596800000)) 253402300799999 true false false false false,Lim.mk ((⟨#[108,105,115,116]⟩:ByteArray)) 0 256 true false false true false,Lim.mk ((⟨#[114,101,99,111,114,100]⟩:ByteArray)) 0 0 false false false false true,Lim.mk ((⟨#[118,97,114,105,97,110,116]⟩:ByteArray)) 0 0 false false false false true]
theorem Yw (w0:World) (B:Aj) (Rw:Am) (L:An)  (r:(List Lim)) (h:Ls  = r) :
  ACalls Tryz.prog w0 253 [] ⟨B,Rw,L⟩ fun x st=>x = .agg (r.flatMap fun x=>(Vn x).cells)/\st=⟨B,Rw,L⟩:=by
 rw [Ls] at h
 refine hd [.cell 0 333] Tryz.func253 Tryz.ntmps253 fun M0 W0 e c d a f b hs=>?_
 simp only [As]
 refine rg [0] hs ?_
 refine rg [0] (al hs) ?_
 exact rT h hs a b
theorem Xf (w0:World) (B:Aj) (Rw:Am) (L:An)  :
  ACalls Tryz.prog w0 253 [] ⟨B,Rw,L⟩ fun x st=>x = .agg ((Ls ).flatMap fun x=>(Vn x).cells)/\st=⟨B,Rw,L⟩:=Yw w0 B Rw L  _ rfl
def QX (n:Nat)  : Option Int :=
 some (0)
def Oj (n:Nat) (h:Ty):Nat->Int->Option Int
 | 0,_=>none
 | m+1,b =>
  if decide (b<(h.fields.length:Int)) then
   (QS n h b).bind fun g =>
   if !(decide (g=0)) then
    Av
   else
    if B1 (b+1) then
     (Oj n h m) (b+1)
    else none
  else
   QX n 
def VF (n:Nat) (b:Ty):Option Int :=
 if !(decide (1<=b.kind)&&decide (b.kind<=10)) then
  Av
 else
  (D1 (Ls ) b.kind).bind fun g =>
  (TG b g).bind fun h =>
  if !(decide (h=0)) then
   Av
  else
   if (decide (b.kind=4))&&(decide (0<(b.words.length:Int))) then
    Av
   else
    if g.bounds&&(((decide (b.max<b.min))||(decide (b.min<g.low)))||(decide (g.high<b.max))) then
     Av
    else
     if g.scale&&(!(decide (0<=b.scale)&&decide (b.scale<=12))) then
      Av
     else
      if (decide (b.kind=8))&&(decide ((b.elem.length:Int)=0)) then
       Av
      else
       if (decide (b.kind=10))&&(decide ((b.fields.length:Int)=0)) then
        Av
       else
        if (decide (b.kind=8))&&(decide (1<(b.elem.length:Int))) then
         Av
        else
         if decide (64<(b.fields.length:Int)) then
          Av
         else
          Oj n b n 0
theorem Zbg (w0:World) (n:Nat) (B:Aj) (Rw:Am) (L:An) (a0:Ty) (r:Int) (h:VF n a0=some r) :
  ACalls Tryz.prog w0 202 [.agg (a0.cs)] ⟨B,Rw,L⟩ fun x st=>x=Ag r/\st=⟨B,Rw,L⟩:=by
 rw [VF] at h
 refine hd [.tmp 2] Tryz.func202 Tryz.ntmps202 fun M0 W0 K D F g O q hs=>?_
 simp only [As]
 refine rg [1] hs ?_
 apply Ah;intro K2 v
 refine rc 2 [1,11] hs ?_;intro K3 u
 refine Aq _ (Xm w0 _ _ _ a0.kind 1 10) (hv hs) ?_
 refine ne hs u ?_
 clear u
 refine BA h hs ?_ ?_<;>intro hs h
 ·have i:=hs.1
  exact nS h
 have i:=hs.1
 refine sk [1] hs v ?_
 clear v
 apply Ah;intro K5 z
 obtain ⟨d,H,h⟩:=bind_some h
 obtain ⟨J,o,t⟩:=Bo H
 have c:=F9 (f:=fun x=>(Vn x).cells) 8 (fun _=>rfl) t
 have E:(Ls ).length=11:=rfl
 first | rw [E] at o | simp only [List.length_cons,List.length_nil,Nat.reduceAdd,Nat.zero_add] at o
 simp only [A2,A0,AY,A3,AZ,AX,AN,AG,A1,Ax,Az,AH,AM,AL,A5,AK,A6,Gz] at c
 apply DF GP [4,5] [1,3] kr (fun s=>∃ (X:Aj) (rows:Am),s=⟨B++([a0.cs]++X),rows,L⟩) 3 (B.length+1)
 ·simp +decide only [go_sem,Nat.reduceAdd]
 ·rintro s ⟨X,rows,rfl⟩
  refine ⟨2,?_⟩
  rw [Ai];simp +decide only [go_sem,Nat.reduceAdd,BK,i,c]
  have hs:=Ac c hs
  (repeat' apply Ac)<;>first | refine Aq _ (Xf w0 _ _ _ ) (hv hs) ?_ | exact cl
  rw [Ai];simp +decide only [go_sem,Nat.reduceAdd,i,c]
  (repeat' apply Ac)<;>first | rfl | exact cl
 ·exact gd (tg (a:=(4,5,[1,3]))) (Ac c hs)
 simp +decide only [go_sem,Nat.reduceAdd,i,c]
 (repeat' apply Ac)<;>first | refine z _ _ ?_ | exact cl
 clear z
 apply Ah;intro K7 w
 obtain ⟨N,G,h⟩:=bind_some h
 have hs:=Ac c hs
 refine rc 2 [1,3,4] hs ?_;intro K8 C
 refine Aq _ (ZL w0 _ _ _ a0 d _ G) (hv hs) ?_
 refine ne hs C ?_
 clear C
 refine rg [1,3,4,20] hs ?_
 refine BA h hs ?_ ?_<;>intro hs h
 ·exact nS h
 refine sk [1,3] hs w ?_
 clear w
 apply Ah;intro K12 j
 apply Ao
 refine rg [1,3,22] hs ?_
 refine BA h hs ?_ ?_<;>intro hs h
 ·exact nS h
 apply Ah;intro K15 l
 refine rg [1,3,37] hs ?_
 refine BA h hs ?_ ?_<;>intro hs h
 ·exact nS h
 refine rk 2 [1,37] hs ?_
 refine GB _ (fun _=>Xm w0 _ _ _ a0.scale 0 12) (hv hs) ?_
 refine ne hs l ?_
 clear l
 refine BA h hs ?_ ?_<;>intro hs h
 ·exact nS h
 refine sk [1] hs j ?_
 clear j
 apply Ah;intro K19 k
 apply Ao
 apply Ah;intro K20 p
 refine rg [1,69] hs ?_
 refine BA h hs ?_ ?_<;>intro hs h
 ·exact nS h
 refine rl [1,69] hs p ?_
 clear p
 refine BA h hs ?_ ?_<;>intro hs h
 ·exact nS h
 refine rg [1,88] hs ?_
 refine BA h hs ?_ ?_<;>intro hs h
 ·exact nS h
 refine rg [1,98] hs ?_
 refine BA h hs ?_ ?_<;>intro hs h
 ·exact nS h
 refine sk [1] hs k ?_
 clear k
 refine AO (fun e st=>Ck e st B Rw L [] [a0.cs,.val (.string d.name)::(Ag d.low::(Ag d.high::(.val (.bool d.bounds)::(.val (.bool d.scale)::(.val (.bool d.text)::(.val (.bool d.list)::([.val (.bool d.fields)])))))))] [] (QX n  = some r)) ?_ ?_
 ·intro K30 y
  refine rg [1,105,106] hs ?_
  apply Ao
  refine AB (fun m e st=>∃ (b:Int),Ck e st B Rw L [(1,true,.box B.length 0),(105,true,Ag (a0.fields.length:Int)),(106,true,Ag b)] [a0.cs,.val (.string d.name)::(Ag d.low::(Ag d.high::(.val (.bool d.bounds)::(.val (.bool d.scale)::(.val (.bool d.text)::(.val (.bool d.list)::([.val (.bool d.fields)])))))))] [] (Oj n a0 m b=some r)) n ⟨0,([]),Rw,ef hs,ef hs,q,h⟩ ?_
  rintro ml32 e st ⟨b,Xl32,Rl32,rfl,rfl,q,h⟩ Ul32 Vl32
  cases ml32 with
  | zero=>cases h
  | succ ml32 =>
  rw [Oj] at h
  exact go (tg (a:=([1,105,106,107],([1,105,106],[1,6,105,106],[1,7,105,106],[1,7,105,106,113],((),()),[1,105,106],[1,105,106],()),[],()))) h hs K D F g q (q1 (Yq w0 n)) (q2 y (fun e s=>Vl32 ml32 e s (Nat.lt_succ_self _)))
 ·clear h;rintro e st ⟨Xk29,Rk29,rfl,rfl,q,h⟩
  rw [QX] at h
  refine td K D F g q ?_
  refine rg [2] hs ?_
  exact rt h hs g q
def NT (n:Nat)  (b:List Ty):Option ((List Ty)) :=
 some (b)
def Pe (n:Nat)  : Option ((List Ty)) :=
 some ([])
def J2 (n:Nat) (h:Ty):Nat->(List Ty)->Int->Option ((List Ty))
 | 0,_,_=>none
 | m+1,g,b =>
  if decide (b<(h.fields.length:Int)) then
   (D1 h.fields b).bind fun q =>
   if (g.length+1)*104<=140737488355328/\g.length+1<=4611686018427387904 then
    if B1 (b+1) then
     (J2 n h m) (g++([q.2.2.2.1])) (b+1)
    else none
   else none
  else
   NT n g
def LY (n:Nat) (g:Ty) (b:Bool):Option ((List Ty)) :=
 if b then
  if 0<=(g.fields.length:Int)/\(g.fields.length:Int)*104<=140737488355328/\(g.fields.length:Int)<=4611686018427387904 then
   J2 n g n ([]) 0
  else none
 else
  Pe n 
def Qi (n:Nat) (b:Ty):Option ((List Ty)) :=
 if decide (b.kind=8) then
  Av
 else
  if decide (b.kind=9) then
   LY n b true
  else
   LY n b (decide (b.kind=10))
theorem YI (w0:World) (n:Nat) (B:Aj) (Rw:Am) (L:An) (a0:Ty) (r:(List Ty)) (h:Qi n a0=some r) :
  ACalls Tryz.prog w0 203 [.agg (a0.cs)] ⟨B,Rw,L⟩ fun x st=>x = .list (r.map JX) .none/\st=⟨B,Rw,L⟩:=by
 rw [Qi] at h
 refine hd [.tmp 2] Tryz.func203 Tryz.ntmps203 fun M0 W0 q l o b w k hs=>?_
 simp only [As]
 refine rg [1] hs ?_
 refine AO (fun e st=>Ck e st B Rw L [] [a0.cs] [] (Pe n  = some r)) ?_ ?_
 ·intro K4 u
  refine rg [1,7] hs ?_
  apply Ao
  refine rg [1,7,8] hs ?_
  refine BA h hs ?_ ?_<;>intro hs h
  ·exact nS h
  refine AO (fun e st=>∃ (j:Bool),Ck e st B Rw L [(1,true,.box B.length 0),(12,true,.val (.bool j))] [a0.cs] [] (LY n a0 j=some r)) ?_ ?_
  ·intro K10 t
   exact go (tg (a:=([1,7,12],([1,12],()),[1,12],()))) h hs q l o b k trivial (q1 t)
  ·clear h;rintro e st ⟨j,Xk9,Rk9,rfl,rfl,k,h⟩
   rw [LY] at h
   refine td q l o b k ?_
   refine BA h hs ?_ ?_<;>intro hs h
   ·obtain ⟨v,h⟩:=Ak h
    have k:=k.make 7 0
    refine rg [1,3] hs ?_
    refine AO (fun e st=>∃ (c:List Ty) (f:Ev.Own),Ck e st B Rw L [(3,true,.list (c.map JX) f)] [a0.cs] [(7,c.length,f)] (NT n c=some r)) ?_ ?_
    ·intro K19 p
     refine rg [3,20,21,22] hs ?_
     apply Ao
     refine AB (fun m e st=>∃ (d:List Ty) (i:Int) (g:Ev.Own),Ck e st B Rw L [(3,true,.list (d.map JX) g),(20,true,.list (a0.fields.map Gl) .none),(21,true,Ag (a0.fields.length:Int)),(22,true,Ag i)] [a0.cs] [(7,d.length,g)] (J2 n a0 m d i=some r)) n ⟨([]),0,((.row Rk9.length)),([]),((Rk9++[.grow 0 7])),ef hs,ef hs,Owns.of_eq (k) Fe,h⟩ ?_
     rintro ml21 e st ⟨d,i,g,Xl21,Rl21,rfl,rfl,k,h⟩ Ul21 Vl21
     cases ml21 with
     | zero=>cases h
     | succ ml21 =>
     rw [J2] at h
     exact go (tg (a:=([3,20,21,22,23],([3,20,21,22],[3,5,20,21,22],[3,20,21,22],[3,20,21,22],()),[3],()))) h hs q l o b k (q1 (ae ZaI Xy)) (q2 p (fun e s=>Vl21 ml21 e s (Nat.lt_succ_self _)))
    ·clear h;rintro e st ⟨c,f,Xk18,Rk18,rfl,rfl,k,h⟩
     rw [NT] at h
     exact go (tg (a:=([2],()))) h hs q l o b k trivial trivial
   refine sk [] hs u ?_
   exact ⟨([]),Rk9,ef hs,ef hs,k,h⟩
 ·clear h;rintro e st ⟨Xk3,Rk3,rfl,rfl,k,h⟩
  rw [Pe] at h
  refine td q l o b k ?_
  refine rg [2] hs ?_
  exact rt h hs b k
def Nk (rec:Ty->Int->Int->Option (Int × Int)) (n:Nat)  (pla2_k15:Int):Option (Int × Int) :=
 some ((0,pla2_k15))
def KC (rec:Ty->Int->Int->Option (Int × Int)) (n:Nat) (a0:Ty) (a1:Int) (g:(List Ty)):Nat->Int->Int->Option (Int × Int)
 | 0,_,_=>none
 | m+1,b,pla2_l19 =>
  if decide (b<(g.length:Int)) then
   (D1 g b).bind fun q =>
   if B1 (a1+1) then
    (rec q (a1+1) pla2_l19).bind fun h =>
    if !(decide (h.1=0)) then
     Av
    else
     if decide (a0.kind=9) then
      (D1 a0.fields b).bind fun y =>
      if decide (y.2.2.1=3) then
       Av
      else
       if B1 (b+1) then
        (KC rec n a0 a1 g m) (b+1) h.2
       else none
     else
      Av
   else none
  else
   Nk rec n pla2_l19
def QE (rec:Ty->Int->Int->Option (Int × Int)) (n:Nat) (q:Ty) (y:Int) (b:Int):Option (Int × Int) :=
 if decide (b=0) then
  Av
 else
  if decide (8<y) then
   Av
  else
   if B1 (b-1) then
    (VF n q).bind fun h =>
    if !(decide (h=0)) then
     Av
    else
     (Qi n q).bind fun g =>
     KC rec n q y g n 0 (b-1)
   else none
def Om:Nat->Ty->Int->Int->Option (Int × Int)
 | 0,_,_,_=>none
 | n+1,g,b,h=>QE (Om n) n g b h
def Qm (w0:World) (F:Ty->Int->Int->Option (Int × Int)):Prop:=∀ (B:Aj) (Rw:Am) (L:An) (g:Ty) (b:Int) (la2:Nat) (h:Int) (hla2:B[la2]? = some ([Ag h])) (r:Int × Int),F g b h=some r->ACalls Tryz.prog w0 142 [.agg (g.cs),Ag b,.box la2 0] ⟨B,Rw,L⟩ fun x st=>x=Ag r.1/\st=⟨(B.set la2 [Ag r.2]),Rw,L⟩
theorem V6 (w0:World) (rec:Ty->Int->Int->Option (Int × Int)) (ih:Qm w0 rec) (n:Nat):Qm w0 (QE rec n):=by
 intro B Rw L a0 a1 j a2 o r h
 rw [QE] at h
 refine hd [.tmp 6] Tryz.func142 Tryz.ntmps142 fun M0 W0 N i k g hu l hs=>?_
 simp only [As]
 have O:=(Af.1 o).1
 have hs:=Ac (AD o) hs
 refine rg [1,2,3] hs ?_
 apply Ah;intro K2 C
 apply Ao
 refine rg [1,2,3,11] hs ?_
 refine BA h hs ?_ ?_<;>intro hs h
 ·have V:=hs.1
  exact nS h
 have V:=hs.1
 refine rg [1,2,3,16] hs ?_
 refine BA h hs ?_ ?_<;>intro hs h
 ·have Z:=hs.1
  exact nS h
 have Z:=hs.1
 refine sk [1,2,3] hs C ?_
 clear C
 obtain ⟨ab,h⟩:=Ak h
 refine rg [1,2,3] hs ?_
 apply Ah;intro K9 D
 obtain ⟨ae,y,h⟩:=bind_some h
 refine rc 2 [1,2,3,7] hs ?_;intro K10 t
 refine Aq _ (Zbg w0 n _ _ _ a0 _ y) (hv hs) ?_
 refine ne hs t ?_
 clear t
 refine rg [1,2,3,7,27] hs ?_
 refine BA h hs ?_ ?_<;>intro hs h
 ·have F:=hs.1
  exact nS h
 have F:=hs.1
 refine sk [1,2,3] hs D ?_
 clear D
 refine AO (fun e st=>∃ (c:Int) (Xk15:Aj) (Rk15:Am),e=[]/\st=⟨(B.set j ([Ag c]))++([a0.cs]++Xk15),Rk15,L⟩/\Owns Rw Rk15 []/\Nk rec n c=some r) ?_ ?_
 ·intro K16 K
  obtain ⟨v,J,h⟩:=bind_some h
  refine rc 2 [1,2,3,30,31,32] hs ?_;intro K17 u
  refine Aq _ (YI w0 n _ _ _ a0 _ J) (hv hs) ?_
  refine ne hs u ?_
  clear u
  apply Ao
  refine AB (fun m e st=>∃ (d:Int) (b:Int) (Xl19:Aj) (Rl19:Am),e=[(1,true,Ag a1),(2,true,.box j 0),(3,true,.box B.length 0),(30,true,.list (v.map JX) .none),(31,true,Ag (v.length:Int)),(32,true,Ag d)]/\st=⟨(B.set j ([Ag b]))++([a0.cs]++Xl19),Rl19,L⟩/\Owns Rw Rl19 []/\KC rec n a0 a1 v m d b=some r) n ⟨0,(a2-1),([]),Rw,ef hs,ef hs,l,h⟩ ?_
  rintro ml19 e st ⟨d,b,Xl19,Rl19,rfl,rfl,l,h⟩ Ul19 Vl19
  cases ml19 with
  | zero=>cases h
  | succ ml19 =>
  rw [KC] at h
  refine A8 N i k GR (AA g ev) l ow ow ?_
  refine rg [1,2,3,30,31,32,33] hs ?_
  apply Ah;intro K21 p
  refine BA h hs ?_ ?_<;>intro hs h
  rotate_left
  ·refine sx [] hs K ?_
   exact ⟨b,([]),Rl19,ef hs,ef hs,l,h⟩
  refine sk [1,2,3,30,31,32] hs p ?_
  clear p
  apply Ah;intro K23 G
  apply Ao
  obtain ⟨Y,E,h⟩:=bind_some h
  obtain ⟨Q,U,w⟩:=Bo E
  have x:=Bq (f:=JX) w
  have hs:=Ac x hs
  refine rg [1,2,3,8,9,30,31,32] hs ?_
  apply Ah;intro K26 z
  obtain ⟨aa,h⟩:=Ak h
  obtain ⟨ad,H,h⟩:=bind_some h
  refine rc 2 [1,2,3,8,9,10,30,31,32] hs ?_;intro K27 q
  refine Bm _ (ih _ _ _ Y (a1+1) j b (ef hs) _ H) (hv hs) ?_;rintro _ _ ⟨rfl,rfl⟩
  refine ne hs q ?_
  clear q
  exact go (tg (a:=([1,2,3,8,9,10,30,31,32,43],((),()),[1,2,3,8,9,30,31,32],(((),()),[25,1,2,3,30,31,32,69],[1,2,3,30,31,32],[1,2,3,30,31,32],()),((),())))) h hs N i k g l trivial (q3 z G (fun e s=>Vl19 ml19 e s (Nat.lt_succ_self _)))
 ·clear h;rintro e st ⟨c,Xk15,Rk15,rfl,rfl,l,h⟩
  rw [Nk] at h
  refine A8 N i k GR (AA g ev) l ow ow ?_
  exact go (tg (a:=([6],()))) h hs N i k g l trivial trivial
theorem Tj (w0:World):∀ n:Nat,Qm w0 (Om n)
 | 0=>fun _ _ _ _ _ _ _ _ _ h=>(nomatch h)
 | n+1=>V6 w0 (Om n) (Tj w0 n) n
def G3 (rec:Ty->Option Int) (n:Nat)  (b:Int):Option Int :=
 some ((if 4097<b then 4097 else b))
def Gu (rec:Ty->Option Int) (n:Nat) (y:Ty):Nat->Int->Int->Option Int
 | 0,_,_=>none
 | m+1,g,b =>
  if decide (b<(y.fields.length:Int)) then
   (D1 y.fields b).bind fun h =>
   if decide (h.2.2.1=1) then
    (rec h.2.2.2.1).bind fun q =>
    if B1 (g+q) then
     if B1 (b+1) then
      (Gu rec n y m) (g+q) (b+1)
     else none
    else none
   else
    Av
  else
   G3 rec n g
def KH (rec:Ty->Option Int) (n:Nat) (b:Ty):Option Int :=
 if decide (b.kind=8) then
  Av
 else
  if decide (b.kind=10) then
   Av
  else
   if decide (b.kind=9) then
    Gu rec n b n 1 0
   else
    G3 rec n 1
def Ib:Nat->Ty->Option Int
 | 0,_=>none
 | n+1,b=>KH (Ib n) n b
def KF (w0:World) (F:Ty->Option Int):Prop:=∀ (B:Aj) (Rw:Am) (L:An) (b:Ty) (r:Int),F b=some r->ACalls Tryz.prog w0 204 [.agg (b.cs)] ⟨B,Rw,L⟩ fun x st=>x=Ag r/\st=⟨B,Rw,L⟩
theorem QM (w0:World) (rec:Ty->Option Int) (ih:KF w0 rec) (n:Nat):KF w0 (KH rec n):=by
 intro B Rw L a0 r h
 rw [KH] at h
 refine hd [.tmp 2] Tryz.func204 Tryz.ntmps204 fun M0 W0 l i k f o g hs=>?_
 simp only [As]
 refine rg [1] hs ?_
 refine rg [1,3] hs ?_
 refine AO (fun e st=>∃ (d:Int),Ck e st B Rw L [(3,true,Ag d)] [a0.cs] [] (G3 rec n d=some r)) ?_ ?_
 ·intro K5 j
  refine rg [1,3,7] hs ?_
  apply Ao
  refine rg [1,3,7,8] hs ?_
  refine BA h hs ?_ ?_<;>intro hs h
  ·exact nS h
  refine rg [1,3,7,23] hs ?_
  refine BA h hs ?_ ?_<;>intro hs h
  ·exact nS h
  refine rg [1,3,33] hs ?_
  refine BA h hs ?_ ?_<;>intro hs h
  ·refine rg [3,36,37,38] hs ?_
   apply Ao
   refine AB (fun m e st=>∃ (c:Int) (b:Int),Ck e st B Rw L [(3,true,Ag c),(36,true,.list (a0.fields.map Gl) .none),(37,true,Ag (a0.fields.length:Int)),(38,true,Ag b)] [a0.cs] [] (Gu rec n a0 m c b=some r)) n ⟨1,0,([]),Rw,ef hs,ef hs,g,h⟩ ?_
   rintro ml14 e st ⟨c,b,Xl14,Rl14,rfl,rfl,g,h⟩ Ul14 Vl14
   cases ml14 with
   | zero=>cases h
   | succ ml14 =>
   rw [Gu] at h
   exact go (tg (a:=([3,36,37,38,39],([3,36,37,38],[3,5,36,37,38],[3,5,36,37,38,43],[3,5,36,37,38,43,44],([3,36,37,38],[3,36,37,38],()),((),())),[3],()))) h hs l i k f g (q1 ih) (q2 j (fun e s=>Vl14 ml14 e s (Nat.lt_succ_self _)))
  refine sk [3] hs j ?_
  exact ⟨1,([]),Rw,ef hs,ef hs,g,h⟩
 ·clear h;rintro e st ⟨d,Xk4,Rk4,rfl,rfl,g,h⟩
  rw [G3] at h
  refine td l i k f g ?_
  refine rg [2] hs ?_
  exact rt h hs f g
theorem NV (w0:World):∀ n:Nat,KF w0 (Ib n)
 | 0=>fun _ _ _ _ _ h=>(nomatch h)
 | n+1=>QM w0 (Ib n) (NV w0 n) n
def GE (rec:Ty->Option Int) (n:Nat)  (b:Int):Option Int :=
 some (b)
def EY (rec:Ty->Option Int) (n:Nat) (y:Ty):Nat->Int->Int->Option Int
 | 0,_,_=>none
 | m+1,g,b =>
  if decide (b<(y.fields.length:Int)) then
   (D1 y.fields b).bind fun q =>
   (rec q.2.2.2.1).bind fun h =>
   if B1 (b+1) then
    (EY rec n y m) ((if g<h then h else g)) (b+1)
   else none
  else
   GE rec n g
def Hf (rec:Ty->Option Int) (n:Nat) (b:Ty) (g:Int):Option Int :=
 EY rec n b n g 0
def GZ (rec:Ty->Option Int) (n:Nat) (b:Ty) (g:Int):Nat->Option Int
 | 0=>none
 | m+1 =>
  if decide (0<(b.elem.length:Int)) then
   Av
  else
   Hf rec n b g 
def HJ (rec:Ty->Option Int) (n:Nat) (b:Ty):Option Int :=
 (Ib n b).bind fun g =>
 GZ rec n b g n 
def FZ:Nat->Ty->Option Int
 | 0,_=>none
 | n+1,b=>HJ (FZ n) n b
def H2 (w0:World) (F:Ty->Option Int):Prop:=∀ (B:Aj) (Rw:Am) (L:An) (b:Ty) (r:Int),F b=some r->ACalls Tryz.prog w0 143 [.agg (b.cs)] ⟨B,Rw,L⟩ fun x st=>x=Ag r/\st=⟨B,Rw,L⟩
theorem OB (w0:World) (rec:Ty->Option Int) (ih:H2 w0 rec) (n:Nat):H2 w0 (HJ rec n):=by
 intro B Rw L a0 r h
 rw [HJ] at h
 refine hd [.tmp 2] Tryz.func143 Tryz.ntmps143 fun M0 W0 p i j c u g hs=>?_
 simp only [As]
 refine rg [1] hs ?_
 obtain ⟨k,t,h⟩:=bind_some h
 refine rc 2 [1,3] hs ?_;intro K2 l
 refine Aq _ (NV w0 n _ _ _ a0 _ t) (hv hs) ?_
 refine ne hs l ?_
 clear l
 refine AO (fun e st=>Ck e st B Rw L [(1,true,.box B.length 0),(3,true,Ag k)] [a0.cs] [] (Hf rec n a0 k  = some r)) ?_ ?_
 ·intro K6 q
  refine rg [1,3,11,12,13] hs ?_
  apply Ao
  refine AB (fun m e st=>Ck e st B Rw L [(1,true,.box B.length 0),(3,true,Ag k),(11,true,.list (a0.elem.map JX) .none),(12,true,Ag (a0.elem.length:Int)),(13,true,Ag 0)] [a0.cs] [] (GZ rec n a0 k m  = some r)) n ⟨([]),Rw,ef hs,ef hs,g,h⟩ ?_
  rintro ml8 e st ⟨Xl8,Rl8,rfl,rfl,g,h⟩ Ul8 Vl8
  cases ml8 with
  | zero=>cases h
  | succ ml8 =>
  rw [GZ] at h
  exact go (tg (a:=([1,3,11,12,13,14],((),()),[1,3],()))) h hs p i j c g trivial (q1 q)
 ·clear h;rintro e st ⟨Xk5,Rk5,rfl,rfl,g,h⟩
  rw [Hf] at h
  refine td p i j c g ?_
  refine AO (fun e st=>∃ (f:Int),Ck e st B Rw L [(3,true,Ag f)] [a0.cs] [] (GE rec n f=some r)) ?_ ?_
  ·intro K14 o
   refine rg [3,23,24,25] hs ?_
   apply Ao
   refine AB (fun m e st=>∃ (d:Int) (b:Int),Ck e st B Rw L [(3,true,Ag d),(23,true,.list (a0.fields.map Gl) .none),(24,true,Ag (a0.fields.length:Int)),(25,true,Ag b)] [a0.cs] [] (EY rec n a0 m d b=some r)) n ⟨k,0,([]),Rk5,ef hs,ef hs,g,h⟩ ?_
   rintro ml16 e st ⟨d,b,Xl16,Rl16,rfl,rfl,g,h⟩ Ul16 Vl16
   cases ml16 with
   | zero=>cases h
   | succ ml16 =>
   rw [EY] at h
   exact go (tg (a:=([3,23,24,25,26],([3,23,24,25],[3,7,23,24,25],[3,23,24,25],[3,23,24,25],()),[3],()))) h hs p i j c g (q1 ih) (q2 o (fun e s=>Vl16 ml16 e s (Nat.lt_succ_self _)))
  ·clear h;rintro e st ⟨f,Xk13,Rk13,rfl,rfl,g,h⟩
   rw [GE] at h
   refine td p i j c g ?_
   refine rg [2] hs ?_
   exact rt h hs c g
theorem J9 (w0:World):∀ n:Nat,H2 w0 (FZ n)
 | 0=>fun _ _ _ _ _ h=>(nomatch h)
 | n+1=>OB w0 (FZ n) (J9 w0 n) n
def QB (n:Nat) (g:Ty):Option Int :=
 (Om n g 1 4096).bind fun h =>
 if !(decide (h.1=0)) then
  Av
 else
  (FZ n g).bind fun b =>
  if decide (4096<b) then
   Av
  else
   some (0)
theorem Yr (w0:World) (n:Nat) (B:Aj) (Rw:Am) (L:An) (a0:Ty) (r:Int) (h:QB n a0=some r) :
  ACalls Tryz.prog w0 98 [.agg (a0.cs)] ⟨B,Rw,L⟩ fun x st=>x=Ag r/\st=⟨B,Rw,L⟩:=by
 rw [QB] at h
 refine hd [.tmp 2] Tryz.func98 Tryz.ntmps98 fun M0 W0 j e f b k i hs=>?_
 simp only [As]
 refine rg [1] hs ?_
 refine rg [1,3] hs ?_
 apply Ah;intro K3 g
 obtain ⟨l,d,h⟩:=bind_some h
 refine rc 2 [1,4] hs ?_;intro K4 c
 refine Bm _ (Tj w0 n _ _ _ a0 1 (B.length+1) 4096 ev _ d) (hv hs) ?_;rintro _ _ ⟨rfl,rfl⟩
 exact go (tg (a:=([1,4,8],((),()),[1],[12],((),()),[],[2],()))) h hs j e f b i (q1 (J9 w0 n)) (q2 c g)
def Kx (n:Nat) (b:Ty) (h:Vl):Option Bool :=
 (QB n b).bind fun q =>
 if decide (q=0) then
  (ND n b h).bind fun g =>
  some (g)
 else
  Av
theorem PH (w0:World) (hT:Lib.Utf8Tabs 1 2 w0) (n:Nat) (B:Aj) (Rw:Am) (L:An) (a0:Ty) (a1:Vl) (r:Bool) (h:Kx n a0 a1=some r) :
  ACalls Tryz.prog w0 71 [.agg (a0.cs),.agg (a1.cs)] ⟨B,Rw,L⟩ fun x st=>x = .val (.bool r)/\st=⟨B,Rw,L⟩:=by
 rw [Kx] at h
 refine hd [.tmp 4] Tryz.func71 Tryz.ntmps71 fun M0 W0 f c d b g e hs=>?_
 simp only [As]
 exact go (tg (a:=([2,3],([4],()),((),())))) h hs f c d b e (q2 (Yr w0 n) (Vv w0 hT n)) trivial
def Jm (n:Nat) (q:Msg) (h:Int × List Int):Option Msg :=
 (Dc n q).bind fun b =>
 (BI h).bind fun g =>
 some (Msg.mk g b.mass b.origins b.body)
theorem MJ (w0:World) (n:Nat) (B:Aj) (Rw:Am) (L:An) (a0:Msg) (a1:Int × List Int) (r:Msg) (h:Jm n a0 a1=some r) :
  ACalls Tryz.prog w0 101 [.agg (T8 a0),.agg (Ag a1.1::([.list (a1.2.map CE) .none]))] ⟨B,Rw,L⟩ fun x st=>x = .agg (T8 r)/\st=⟨B,Rw,L⟩:=by
 rw [Jm] at h
 refine hd [.cell 4 62] Tryz.func101 Tryz.ntmps101 fun M0 W0 j d f b l i hs=>?_
 simp only [As]
 refine rg [2,3,4] hs ?_
 obtain ⟨k,e,h⟩:=bind_some h
 refine rc 2 [2,3,4] hs ?_;intro K2 c
 refine Aq _ (Dt w0 n _ _ _ a0 _ e) (hv hs) ?_
 refine ne hs c ?_
 clear c
 obtain ⟨m,g,h⟩:=bind_some h
 have hs:=Ac (Vl.cs_eqs k.body) hs
 exact go (tg (a:=([2,4],[4],()))) h hs j d f b i (q1 (CZ w0)) trivial
end Go.Proofs.YtcpmjgdlioggjaaGreatDoor
