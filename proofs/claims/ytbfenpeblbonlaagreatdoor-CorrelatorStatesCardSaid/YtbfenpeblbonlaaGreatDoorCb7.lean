/-
  Part 7 of the proof: rules and walks that the claim's last text uses.
-/
import Derived.Test.YtbfenpeblbonlaaGreatDoorCb1
import Derived.Test.YtbfenpeblbonlaaGreatDoorCb2
import Derived.Test.YtbfenpeblbonlaaGreatDoorCb3
import Derived.Test.YtbfenpeblbonlaaGreatDoorCb4
import Derived.Test.YtbfenpeblbonlaaGreatDoorCb5
import Derived.Test.YtbfenpeblbonlaaGreatDoorCb6
set_option linter.unusedSimpArgs false
set_option linter.unusedVariables false
set_option maxRecDepth 100000
set_option maxHeartbeats 4000000
namespace Go.Proofs.YtbfenpeblbonlaaGreatDoor
open Go Go.RowKit Go.Ev
def Oq (b:ByteArray) (g:ByteArray):Option ByteArray :=
 if MY b (⟨#[]⟩:ByteArray) then
  some (g)
 else
  AM
theorem W8 (w0:World) (B:Ao) (Rw:Ap) (L:Aq) (a0:ByteArray) (a1:ByteArray) (r:ByteArray) (h:Oq a0 a1=some r) :
  ACalls Tryz.prog w0 189 [.val (.string a0),.val (.string a1)] ⟨B,Rw,L⟩ fun x st=>x = .val (.string r)/\st=⟨B,Rw,L⟩:=by
 rw [Oq] at h
 refine hd [.tmp 4] Tryz.func189 Tryz.ntmps189 fun M0 W0 f c d b g e hs=>?_
 simp only [Ax]
 exact go (tg (a:=([0,1],[0,1,6],([4],()),((),())))) h hs f c d b e trivial trivial
def Jy (b:ByteArray × Vl) (g:ByteArray):Bool :=
 MY b.1 g
theorem Xz (w0:World) (B:Ao) (Rw:Ap) (L:Aq) (a0:ByteArray × Vl) (la1:Nat) (a1:ByteArray) (hla1:B[la1]? = some ([.val (.string a1)])) (r:Bool) (h:Jy a0 a1=r) :
  ACalls Tryz.prog w0 234 [.agg (.val (.string a0.1)::(a0.2.cs)),.box la1 0] ⟨B,Rw,L⟩ fun x st=>x = .val (.bool r)/\st=⟨B,Rw,L⟩:=by
 rw [Jy] at h
 refine hd [.tmp 3] Tryz.func234 Tryz.ntmps234 fun M0 W0 g c e a f d hs=>?_
 simp only [Ax]
 have b:=(Aj.1 hla1).1
 have hs:=Ad (AH hla1) hs
 refine rg [1,2] hs ?_
 refine rg [3] hs ?_
 exact rT h hs a d
theorem VM (w0:World) (B:Ao) (Rw:Ap) (L:Aq) (a0:ByteArray × Vl) (la1:Nat) (a1:ByteArray) (hla1:B[la1]? = some ([.val (.string a1)])) :
  ACalls Tryz.prog w0 234 [.agg (.val (.string a0.1)::(a0.2.cs)),.box la1 0] ⟨B,Rw,L⟩ fun x st=>x = .val (.bool (Jy a0 a1))/\st=⟨B,Rw,L⟩:=Xz w0 B Rw L a0 la1 a1 hla1 _ rfl
def O6 (n:Nat) (b:Vl) (q:ByteArray):Option Int :=
 (Ek n b.fields (fun (h:ByteArray × Vl)=>some (Jy h q))).bind fun g =>
 some (g)
theorem Uk (w0:World) (n:Nat) (B:Ao) (Rw:Ap) (L:Aq) (a0:Vl) (a1:ByteArray) (r:Int) (h:O6 n a0 a1=some r) :
  ACalls Tryz.prog w0 180 [.agg (a0.cs),.val (.string a1)] ⟨B,Rw,L⟩ fun x st=>x=Ak r/\st=⟨B,Rw,L⟩:=by
 rw [O6] at h
 refine hd [.tmp 4] Tryz.func180 Tryz.ntmps180 fun M0 W0 k c e a j d hs=>?_
 simp only [Ax]
 refine rg [2,3] hs ?_
 obtain ⟨i,hy3,h⟩:=bind_some h
 refine rc 2 [4] hs ?_;intro K2 b
 refine Av _ (GZ w0 n _ _ _ a0.fields 234 [.box (B.length+1) 0] (fun (x0:ByteArray × Vl)=>some (Jy x0 a1)) (fun x0 r hx g rows' hB' f=>by cases hx;exact VM w0 _ _ _ x0 _ a1 (I6 hB' ev)) _ hy3) (hv hs) ?_
 refine ne hs b ?_
 clear b
 exact rt h hs a d
def Rz (n:Nat) (b:Vl) (y:ByteArray):Option (Vl × Bool) :=
 (O6 n b y).bind fun g =>
 if (!(decide (b.kind=9)))||(decide (g<0)) then
  AM
 else
  (Dw b.fields g).bind fun q =>
  (B8 n q.2).bind fun h =>
  some ((h,true))
theorem YW (w0:World) (n:Nat) (B:Ao) (Rw:Ap) (L:Aq) (a0:Vl) (a1:ByteArray) (r:Vl × Bool) (h:Rz n a0 a1=some r) :
  ACalls Tryz.prog w0 131 [.agg (a0.cs),.val (.string a1)] ⟨B,Rw,L⟩ fun x st=>x = .tup [.agg (r.1.cs),.val (.bool r.2)]/\st=⟨B,Rw,L⟩:=by
 rw [Rz] at h
 refine hd [.cell 4 49,.tmp 5] Tryz.func131 Tryz.ntmps131 fun M0 W0 f c d b g e hs=>?_
 simp only [Ax]
 exact go (tg (a:=([1,2,4],[2,4,6],[2,4,6,16],((),()),[2,4,6],[4,5],()))) h hs f c d b e (q2 (Uk w0 n) (CZ w0 n)) trivial
def EU (rec:Bool->Bool->Ty->Vl->ByteArray->Option (Bool × Bool)) (n:Nat) (y:Ty) (q:Vl) (pla0_k3_1:Bool) (plx0_ok_k3:Bool):Nat->Int->Option (Bool × Bool)
 | 0,_=>none
 | m+1,b =>
  if decide (b<(q.fields.length:Int)) then
   (Dw q.fields b).bind fun h =>
   (Fp n y h.1).bind fun g =>
   if !g.2 then
    AM
   else
    if BN (b+1) then
     (EU rec n y q pla0_k3_1 plx0_ok_k3 m) (b+1)
    else none
  else
   some ((pla0_k3_1,plx0_ok_k3))
def Hl (rec:Bool->Bool->Ty->Vl->ByteArray->Option (Bool × Bool)) (n:Nat) (b:Ty) (g:Vl) (pla0_k3_1:Bool) (plx0_ok_k3:Bool):Option (Bool × Bool) :=
 EU rec n b g pla0_k3_1 plx0_ok_k3 n 0
def FK (rec:Bool->Bool->Ty->Vl->ByteArray->Option (Bool × Bool)) (n:Nat) (y:Ty) (a2:Vl) (a3:ByteArray):Nat->Int->Bool->Bool->Option (Bool × Bool)
 | 0,_,_,_=>none
 | m+1,b,pla0_l6_1,plx0_ok_l6 =>
  if decide (b<(y.fields.length:Int)) then
   (Dw y.fields b).bind fun g =>
   (Rz n a2 g.2.1).bind fun q =>
   if q.2 then
    (Oq a3 g.2.1).bind fun y17 =>
    (rec pla0_l6_1 plx0_ok_l6 g.2.2.2.1 q.1 y17).bind fun h =>
    if BN (b+1) then
     (FK rec n y a2 a3 m) (b+1) h.1 h.2
    else none
   else
    AM
  else
   Hl rec n y a2 pla0_l6_1 plx0_ok_l6
def HO (rec:Bool->Bool->Ty->Vl->ByteArray->Option (Bool × Bool)) (n:Nat) (a0_done:Bool) (x0_ok:Bool) (g:Ty) (h:Vl) (b:ByteArray):Option (Bool × Bool) :=
 FK rec n g h b n 0 a0_done x0_ok
theorem OM (w0:World) (rec:Bool->Bool->Ty->Vl->ByteArray->Option (Bool × Bool)) (ih:∀ (B:Ao) (Rw:Ap) (L:Aq) (lx0_ok:Nat) (la0:Nat) (a0_done:Bool) (hla0:B[la0]? = some ([.clo 100 [.box lx0_ok 0],.val (.bool a0_done)])) (x0_ok:Bool) (hlx0_ok:B[lx0_ok]? = some ([.val (.bool x0_ok)])) (hne_lx0_ok_la0:lx0_ok≠la0) (a1:Ty) (a2:Vl) (a3:ByteArray) (r:Bool × Bool) (h:rec a0_done x0_ok a1 a2 a3=some r),ACalls Tryz.prog w0 101 [.box la0 0,.agg (a1.cs),.agg (a2.cs),.val (.string a3)] ⟨B,Rw,L⟩ fun x st=>x = .tup []/\st=⟨((B.set la0 ([.clo 100 [.box lx0_ok 0],.val (.bool r.1)])).set lx0_ok [.val (.bool r.2)]),Rw,L⟩) (n:Nat) (B:Ao) (Rw:Ap) (L:Aq) (lx0_ok:Nat) (la0:Nat) (a0_done:Bool) (hla0:B[la0]? = some ([.clo 100 [.box lx0_ok 0],.val (.bool a0_done)])) (x0_ok:Bool) (hlx0_ok:B[lx0_ok]? = some ([.val (.bool x0_ok)])) (hne_lx0_ok_la0:lx0_ok≠la0) (a1:Ty) (a2:Vl) (a3:ByteArray) (r:Bool × Bool) (h:HO rec n a0_done x0_ok a1 a2 a3=some r) :
  ACalls Tryz.prog w0 142 [.box la0 0,.agg (a1.cs),.agg (a2.cs),.val (.string a3)] ⟨B,Rw,L⟩ fun x st=>x = .tup []/\st=⟨((B.set la0 ([.clo 100 [.box lx0_ok 0],.val (.bool r.1)])).set lx0_ok [.val (.bool r.2)]),Rw,L⟩:=by
 rw [HO] at h
 refine hd [] Tryz.func142 Tryz.ntmps142 fun M0 W0 Y y z k hu w hs=>?_
 simp only [Ax]
 have Z:=(Aj.1 hla0).1
 have H:=(Aj.1 hlx0_ok).1
 have p:=Ad (AH hla0) (Ad (AH hlx0_ok) (Ad (FD hla0 hne_lx0_ok_la0) (Ad (FD hlx0_ok (Ne.symm hne_lx0_ok_la0)) (Ad (QN hne_lx0_ok_la0) (Ad (Lu hla0 lx0_ok) (Ad (Lu hlx0_ok la0) (Ad (Lt hla0 la0 lx0_ok) (Ad (Lt hlx0_ok la0 lx0_ok) (Ad (JL lx0_ok) (Ad (JL la0) (Ad (Xo hla0 hne_lx0_ok_la0) (TD hlx0_ok (Ne.symm hne_lx0_ok_la0)))))))))))))
 have hs:=Ad p hs
 refine rg [0,3,5,6] hs ?_
 refine AD (fun e st=>∃ (g:Bool) (c:Bool) (Xk3:Ao) (Rk3:Ap),e=[(0,true,.box la0 0),(3,true,.val (.string a3)),(5,true,.box B.length 0),(6,true,.box (B.length+1) 0)]/\st=⟨((B.set la0 ([.clo 100 [.box lx0_ok 0],.val (.bool g)])).set lx0_ok ([.val (.bool c)]))++([a1.cs,a2.cs]++Xk3),Rk3,L⟩/\Owns Rw Rk3 []/\Hl rec n a1 a2 g c=some r) ?_ ?_
 ·intro K4 ad
  refine rg [0,3,5,6,17,18,19] hs ?_
  apply Ar
  refine AA (fun m e st=>∃ (q:Int) (d:Bool) (b:Bool) (Xl6:Ao) (Rl6:Ap),e=[(0,true,.box la0 0),(3,true,.val (.string a3)),(5,true,.box B.length 0),(6,true,.box (B.length+1) 0),(17,true,.list (a1.fields.map N3) .none),(18,true,Ak (a1.fields.length:Int)),(19,true,Ak q)]/\st=⟨((B.set la0 ([.clo 100 [.box lx0_ok 0],.val (.bool d)])).set lx0_ok ([.val (.bool b)]))++([a1.cs,a2.cs]++Xl6),Rl6,L⟩/\Owns Rw Rl6 []/\FK rec n a1 a2 a3 m q d b=some r) n ⟨0,a0_done,x0_ok,([]),Rw,ef hs,ef hs,w,h⟩ ?_
  rintro ml6 e st ⟨q,d,b,Xl6,Rl6,rfl,rfl,w,h⟩ Ul6 Vl6
  cases ml6 with
  | zero=>cases h
  | succ ml6 =>
  rw [FK] at h
  refine AO Y y z MZ (AK (AK k ow) ow) w ow ow ?_
  refine rg [0,3,5,6,17,18,19,20] hs ?_
  apply Am;intro K8 J
  refine B6 h hs ?_ ?_<;>intro hs h
  rotate_left
  ·have t:=hs.1
   refine sx [0,3,5,6] hs ad ?_
   exact ⟨d,b,([]),Rl6,ef hs,ef hs,w,h⟩
  have t:=hs.1
  refine sk [0,3,5,6,17,18,19] hs J ?_
  clear J
  apply Am;intro K10 E
  apply Ar
  obtain ⟨v,O,h⟩:=bind_some h
  obtain ⟨ab,ae,G⟩:=Bo O
  have j:=Bz (f:=N3) G
  have hs:=Ad j hs
  refine rg [0,3,5,6,9,17,18,19] hs ?_
  obtain ⟨U,V,h⟩:=bind_some h
  refine rc 2 [0,3,5,6,9,10,11,17,18,19] hs ?_;intro K13 D
  refine Av _ (YW w0 n _ _ _ a2 v.2.1 _ V) (hv hs) ?_
  refine ne hs D ?_
  clear D
  refine rg [0,3,5,6,9,10,17,18,19,30] hs ?_
  refine B6 h hs ?_ ?_<;>intro hs h
  ·have l:=hs.1
   obtain ⟨aa,N,h⟩:=bind_some h
   obtain ⟨af,Q,h⟩:=bind_some h
   apply D9 G6 [8] [0,3,5,6,17,18,19] kr (fun s=>∃ (X:Ao) (rows:Ap) (F:List AV) (u:List AV),s=⟨((B.set la0 F).set lx0_ok u)++([a1.cs,a2.cs,Ak v.1::(.val (.string v.2.1)::(Ak v.2.2.1::((v.2.2.2.1.cs)++([.list (v.2.2.2.2.map En) .none])))),U.1.cs]++X),rows,L⟩) 2 (B.length+4)
   ·simp +decide only [go_sem,Nat.reduceAdd]
   ·rintro s ⟨X,rows,F,u,rfl⟩
    refine ⟨2,?_⟩
    rw [An];simp +decide only [go_sem,Nat.reduceAdd,Bh,p,t,j,l]
    (repeat' apply Ad)<;>first | refine Av _ (W8 w0 _ _ _ a3 v.2.1 _ N) (hv hs) ?_ | exact cl
    rw [An];simp +decide only [go_sem,Nat.reduceAdd,p,t,j,l]
    (repeat' apply Ad)<;>first | rfl | exact cl
   ·refine Good.mk [8] kr ⟨[],_,_,_,by first | rfl | simp only [List.append_nil,List.nil_append]⟩ ?_ ?_
    ·intro h;exact absurd h (by decide)
    ·intro i hi;simp only [List.mem_cons,List.not_mem_nil,or_false] at hi
     subst hi
     ·apply Bl rfl rfl ev
      ·simp +decide only [go_sem,Nat.reduceAdd,Cd,p,t,j,l]
       (repeat' with_reducible apply Ad)<;>first | exact MD (ih _ _ _ lx0_ok la0 d (ef hs) b (ef hs) nq v.2.2.2.1 U.1 aa _ Q) (hv hs) | rfl | exact cl
      ·simp +decide only [go_sem,Nat.reduceAdd,p,t,j,l]
       refine Good.mk [] kr ⟨[],_,_,_,by first | rfl | simp only [List.append_nil,List.nil_append]⟩ ?_ ?_
       ·intro _;apply EB [0,3,5,6,17,18,19];first | (simp +decide only [go_sem,Nat.reduceAdd,p,t,j,l];done) | (simp +decide only [go_sem,Nat.reduceAdd,p,t,j,l];rfl)
       ·intro i hi;cases hi
   simp +decide only [go_sem,Nat.reduceAdd,p,t,j,l]
   (repeat' apply Ad)<;>first | refine E _ _ ?_ | exact cl
   clear E
   exact go (tg (a:=([0,3,5,6,17,18,19],()))) h hs Y y z k w trivial (q1 (fun e s=>Vl6 ml6 e s (Nat.lt_succ_self _)))
  have l:=hs.1
  exact nS h
 ·clear h;rintro e st ⟨g,c,Xk3,Rk3,rfl,rfl,w,h⟩
  rw [Hl] at h
  refine AO Y y z MZ (AK (AK k ow) ow) w ow ow ?_
  refine rg [0,3,5,51,52,53] hs ?_
  apply Ar
  refine AA (fun m e st=>∃ (o:Int) (Xl21:Ao) (Rl21:Ap),e=[(0,true,.box la0 0),(3,true,.val (.string a3)),(5,true,.box B.length 0),(51,true,.list (a2.fields.map Di) .none),(52,true,Ak (a2.fields.length:Int)),(53,true,Ak o)]/\st=⟨((B.set la0 ([.clo 100 [.box lx0_ok 0],.val (.bool g)])).set lx0_ok ([.val (.bool c)]))++([a1.cs,a2.cs]++Xl21),Rl21,L⟩/\Owns Rw Rl21 []/\EU rec n a1 a2 g c m o=some r) n ⟨0,([]),Rk3,ef hs,ef hs,w,h⟩ ?_
  rintro ml21 e st ⟨o,Xl21,Rl21,rfl,rfl,w,h⟩ Ul21 Vl21
  cases ml21 with
  | zero=>cases h
  | succ ml21 =>
  rw [EU] at h
  refine AO Y y z MZ (AK (AK k ow) ow) w ow ow ?_
  refine rg [0,3,5,51,52,53,54] hs ?_
  apply Am;intro K23 K
  refine B6 h hs ?_ ?_<;>intro hs h
  rotate_left
  ·have C:=hs.1
   refine EZ (C9 [] _) ?_ (BI _ _)
   apply Gn;simp +decide only [go_sem,Nat.reduceAdd]
   (repeat' with_reducible apply Ad)<;>first | exact cl | skip
   have hgt:=Option.some.inj h;subst hgt
   first | refine FV (AK (AK k ow) ow) MZ w.pre ev ⟨?_,by first | rfl | (simp only [Bd hla0,Bd hlx0_ok];done)⟩ | refine HM (AK (AK k ow) ow) MZ w.pre ev ⟨?_,by first | rfl | (simp only [Bd hla0,Bd hlx0_ok];done)⟩
   first | rfl | (simp +decide only [go_sem,Nat.reduceAdd,p,C];done) | (simp +decide only [go_sem,Nat.reduceAdd,Vl.cs,Ty.cs,p,C];done)
  have C:=hs.1
  exact go (tg (a:=([0,3,5,51,52,53],[0,3,5,13,51,52,53],[0,3,5,13,15,51,52,53],[0,3,5,13,51,52,53,65],((),()),[0,3,5,51,52,53],[0,3,5,51,52,53],()))) h hs Y y z k w (q1 (Hr w0 n)) (q2 K (fun e s=>Vl21 ml21 e s (Nat.lt_succ_self _)))
def F5 (rec:Bool->Bool->Ty->Vl->ByteArray->Option (Bool × Bool)) (n:Nat) (x0_ok:Bool) (a0_done:Bool) (g:Ty) (a2:Vl) (y:ByteArray) (b:Bool):Option (Bool × Bool) :=
 if b then
  (G8 a0_done x0_ok g y a2.int).bind fun q =>
  some ((q.1,q.2))
 else
  if decide (g.kind=3) then
   AM
  else
   if decide (g.kind=4) then
    AM
   else
    if decide (g.kind=5) then
     AM
    else
     if decide (g.kind=8) then
      AM
     else
      if decide (g.kind=9) then
       (HO rec n a0_done x0_ok g a2 y).bind fun h =>
       some ((h.1,h.2))
      else
       AM
def IC (rec:Bool->Bool->Ty->Vl->ByteArray->Option (Bool × Bool)) (n:Nat) (a0_done:Bool) (x0_ok:Bool) (b:Ty) (g:Vl) (h:ByteArray):Option (Bool × Bool) :=
 if a0_done then
  AM
 else
  if ((decide (b.kind<1))||(decide (10<b.kind)))||(!(decide (g.kind=b.kind))) then
   AM
  else
   (Kp n g).bind fun q =>
   if !q then
    AM
   else
    if decide (b.kind=2) then
     F5 rec n x0_ok a0_done b g h true
    else
     if decide (b.kind=6) then
      AM
     else
      F5 rec n x0_ok a0_done b g h (decide (b.kind=7))
def G5:Nat->Bool->Bool->Ty->Vl->ByteArray->Option (Bool × Bool)
 | 0,_,_,_,_,_=>none
 | n+1,a0_done,x0_ok,g,h,b=>IC (G5 n) n a0_done x0_ok g h b
def IE (w0:World) (F:Bool->Bool->Ty->Vl->ByteArray->Option (Bool × Bool)):Prop:=∀ (B:Ao) (Rw:Ap) (L:Aq) (lx0_ok:Nat) (la0:Nat) (a0_done:Bool) (hla0:B[la0]? = some ([.clo 100 [.box lx0_ok 0],.val (.bool a0_done)])) (x0_ok:Bool) (hlx0_ok:B[lx0_ok]? = some ([.val (.bool x0_ok)])) (hne_lx0_ok_la0:lx0_ok≠la0) (g:Ty) (h:Vl) (b:ByteArray) (r:Bool × Bool),F a0_done x0_ok g h b=some r->ACalls Tryz.prog w0 101 [.box la0 0,.agg (g.cs),.agg (h.cs),.val (.string b)] ⟨B,Rw,L⟩ fun x st=>x = .tup []/\st=⟨((B.set la0 ([.clo 100 [.box lx0_ok 0],.val (.bool r.1)])).set lx0_ok [.val (.bool r.2)]),Rw,L⟩
theorem On (w0:World) (rec:Bool->Bool->Ty->Vl->ByteArray->Option (Bool × Bool)) (ih:IE w0 rec) (n:Nat):IE w0 (IC rec n):=by
 intro B Rw L d x j f w c b a1 a2 a3 r h
 rw [IC] at h
 refine hd [] Tryz.func101 Tryz.ntmps101 fun M0 W0 Q F H i Y C hs=>?_
 simp only [Ax]
 have N:=(Aj.1 f).1
 have z:=(Aj.1 c).1
 have p:=Ad (AH f) (Ad (AH c) (Ad (FD f b) (Ad (FD c (Ne.symm b)) (Ad (QN b) (Ad (Lu f d) (Ad (Lu c x) (Ad (Lt f x d) (Ad (Lt c x d) (Ad (JL d) (Ad (JL x) (Ad (Xo f b) (TD c (Ne.symm b)))))))))))))
 have hs:=Ad p hs
 refine rg [0,3,5,6] hs ?_
 apply Am;intro K2 J
 apply Ar
 refine rg [0,3,5,6,13] hs ?_
 refine B6 h hs ?_ ?_<;>intro hs h
 ·have o:=hs.1
  exact nS h
 have o:=hs.1
 refine rg [0,3,5,6,18] hs ?_
 refine B6 h hs ?_ ?_<;>intro hs h
 ·have m:=hs.1
  exact nS h
 have m:=hs.1
 obtain ⟨Z,O,h⟩:=bind_some h
 refine rc 2 [0,3,5,6,37] hs ?_;intro K7 E
 refine Av _ (PS w0 n _ _ _ a2 _ O) (hv hs) ?_
 refine ne hs E ?_
 clear E
 refine B6 h hs ?_ ?_<;>intro hs h
 ·have l:=hs.1
  exact nS h
 have l:=hs.1
 refine sk [0,3,5,6] hs J ?_
 clear J
 refine rg [0,3,5,6,45] hs ?_
 apply Ar
 refine AD (fun e st=>∃ (k:Bool),Ck e st B Rw L [(0,true,.box x 0),(3,true,.val (.string a3)),(5,true,.box B.length 0),(6,true,.box (B.length+1) 0),(45,true,Ak a1.kind),(46,true,.val (.bool k))] [a1.cs,a2.cs] [] (F5 rec n w j a1 a2 a3 k=some r)) ?_ ?_
 ·intro K13 D
  exact go (tg (a:=([0,3,5,6,45,46],([0,3,5,6,45,46],()),[0,3,5,6,45,46],((),()),[0,3,5,6,45,46],()))) h hs Q F H i C trivial (q1 D)
 ·clear h;rintro e st ⟨k,Xk12,Rk12,rfl,rfl,C,h⟩
  rw [F5] at h
  refine td Q F H i C ?_
  refine B6 h hs ?_ ?_<;>intro hs h
  ·have g:=hs.1
   obtain ⟨V,G,h⟩:=bind_some h
   apply As 2 []
   rw [An];simp +decide only [go_sem,Nat.reduceAdd,p,o,m,l,g]
   (repeat' apply Ad)<;>first | (refine BE _ (Oe w0 _ _ _ d x j (ef hs) w (ef hs) nq a1 a3 a2.int _ G) (hv hs) ?_;rintro _ _ ⟨rfl,rfl⟩) | exact cl
   rw [An];simp +decide only [go_sem,Nat.reduceAdd,p,o,m,l,g]
   (repeat' with_reducible apply Ad)<;>first | exact cl | skip
   have hgt:=Option.some.inj h;subst hgt
   first | refine FV (AK (AK i ow) ow) MZ C.pre ev ⟨?_,by first | rfl | (simp only [Bd f,Bd c];done)⟩ | refine HM (AK (AK i ow) ow) MZ C.pre ev ⟨?_,by first | rfl | (simp only [Bd f,Bd c];done)⟩
   first | rfl | (simp +decide only [go_sem,Nat.reduceAdd,p,o,m,l,g];done) | (simp +decide only [go_sem,Nat.reduceAdd,Vl.cs,Ty.cs,p,o,m,l,g];done)
  have g:=hs.1
  refine rg [0,3,5,6,45,56] hs ?_
  refine B6 h hs ?_ ?_<;>intro hs h
  ·have q:=hs.1
   exact nS h
  have q:=hs.1
  apply Am;intro K22 y
  refine rg [0,3,5,6,45,72] hs ?_
  refine B6 h hs ?_ ?_<;>intro hs h
  ·have v:=hs.1
   exact nS h
  have v:=hs.1
  refine rl [0,3,5,6,45,72] hs y ?_
  clear y
  refine B6 h hs ?_ ?_<;>intro hs h
  ·have u:=hs.1
   exact nS h
  have u:=hs.1
  refine rg [0,3,5,6,45,100] hs ?_
  refine B6 h hs ?_ ?_<;>intro hs h
  ·have s:=hs.1
   exact nS h
  have s:=hs.1
  refine rg [0,3,5,6,45,139] hs ?_
  refine B6 h hs ?_ ?_<;>intro hs h
  ·have t:=hs.1
   obtain ⟨U,K,h⟩:=bind_some h
   apply As 2 []
   rw [An];simp +decide only [go_sem,Nat.reduceAdd,p,o,m,l,g,q,v,u,s,t]
   (repeat' apply Ad)<;>first | (refine BE _ (OM w0 rec ih n _ _ _ d x j (ef hs) w (ef hs) nq a1 a2 a3 _ K) (hv hs) ?_;rintro _ _ ⟨rfl,rfl⟩) | exact cl
   rw [An];simp +decide only [go_sem,Nat.reduceAdd,p,o,m,l,g,q,v,u,s,t]
   (repeat' with_reducible apply Ad)<;>first | exact cl | skip
   have hgt:=Option.some.inj h;subst hgt
   first | refine FV (AK (AK i ow) ow) MZ C.pre ev ⟨?_,by first | rfl | (simp only [Bd f,Bd c];done)⟩ | refine HM (AK (AK i ow) ow) MZ C.pre ev ⟨?_,by first | rfl | (simp only [Bd f,Bd c];done)⟩
   first | rfl | (simp +decide only [go_sem,Nat.reduceAdd,p,o,m,l,g,q,v,u,s,t];done) | (simp +decide only [go_sem,Nat.reduceAdd,Vl.cs,Ty.cs,p,o,m,l,g,q,v,u,s,t];done)
  have t:=hs.1
  exact nS h
theorem KN (w0:World):∀ n:Nat,IE w0 (G5 n)
 | 0=>fun _ _ _ _ _ _ _ _ _ _ _ _ _ _ h=>(nomatch h)
 | n+1=>On w0 (G5 n) (KN w0 n) n
def Gz (n:Nat) (b:Ty) (h:Vl):Option Bool :=
 (G5 n false true b h (⟨#[]⟩:ByteArray)).bind fun g =>
 some (g.2)
theorem Ol (w0:World) (n:Nat) (B:Ao) (Rw:Ap) (L:Aq) (a0:Ty) (a1:Vl) (r:Bool) (h:Gz n a0 a1=some r) :
  ACalls Tryz.prog w0 70 [.agg (a0.cs),.agg (a1.cs)] ⟨B,Rw,L⟩ fun x st=>x = .val (.bool r)/\st=⟨B,Rw,L⟩:=by
 rw [Gz] at h
 refine hd [.tmp 4] Tryz.func70 Tryz.ntmps70 fun M0 W0 g d f a j e hs=>?_
 simp only [Ax]
 refine rg [2,3] hs ?_
 refine rg [2,3,5] hs ?_
 refine rg [2,3,5,6] hs ?_
 obtain ⟨i,c,h⟩:=bind_some h
 refine rc 2 [5] hs ?_;intro K4 b
 refine BE _ (KN w0 n _ _ _ (B.length+2) (B.length+3) false ev true ev nq a0 a1 (⟨#[]⟩:ByteArray) _ c) (hv hs) ?_;rintro _ _ ⟨rfl,rfl⟩
 refine ne hs b ?_
 clear b
 refine rg [4] hs ?_
 exact rt h hs a e
def KU (n:Nat) (g:Ty) (y:Vl):Option (Vl × Int) :=
 (IU n g y).bind fun h =>
 (Gz n g h).bind fun q =>
 if !q then
  some ((Vl.mk 0 0 0 (⟨#[]⟩:ByteArray) ([]) ([]),18))
 else
  (B8 n h).bind fun b =>
  some ((b,0))
theorem Tn (w0:World) (n:Nat) (B:Ao) (Rw:Ap) (L:Aq) (a0:Ty) (a1:Vl) (r:Vl × Int) (h:KU n a0 a1=some r) :
  ACalls Tryz.prog w0 93 [.agg (a0.cs),.agg (a1.cs)] ⟨B,Rw,L⟩ fun x st=>x = .tup [.agg (r.1.cs),Ak r.2]/\st=⟨B,Rw,L⟩:=by
 rw [KU] at h
 refine hd [.cell 4 49,.tmp 5] Tryz.func93 Tryz.ntmps93 fun M0 W0 f c d b g e hs=>?_
 simp only [Ax]
 exact go (tg (a:=([2,3,4],[2,4,6],[4,6,13],([4,5],()),[4,6],[4,5],()))) h hs f c d b e (q3 (NU w0 n) (Ol w0 n) (CZ w0 n)) trivial
def Gf (b:Part):Bool :=
 !(decide (b.kind=1))
theorem Ri (w0:World) (B:Ao) (Rw:Ap) (L:Aq) (a0:Part) (r:Bool) (h:Gf a0=r) :
  ACalls Tryz.prog w0 123 [.agg (Ak a0.kind::(Ak a0.index::([.val (.string a0.name)])))] ⟨B,Rw,L⟩ fun x st=>x = .val (.bool r)/\st=⟨B,Rw,L⟩:=by
 rw [Gf] at h
 refine hd [.tmp 2] Tryz.func123 Tryz.ntmps123 fun M0 W0 f b d a e c hs=>?_
 simp only [Ax]
 refine rg [1] hs ?_
 refine rg [2] hs ?_
 exact rT h hs a c
theorem Qg (w0:World) (B:Ao) (Rw:Ap) (L:Aq) (a0:Part) :
  ACalls Tryz.prog w0 123 [.agg (Ak a0.kind::(Ak a0.index::([.val (.string a0.name)])))] ⟨B,Rw,L⟩ fun x st=>x = .val (.bool (Gf a0))/\st=⟨B,Rw,L⟩:=Ri w0 B Rw L a0 _ rfl
def Jj (n:Nat) (h:List Part) (q:List Part):Nat->Option Bool
 | 0=>none
 | m+1 =>
  if decide (0<(h.length:Int)) then
   (Dw h 0).bind fun b =>
   (Dw q 0).bind fun g =>
   if !(decide (b.kind=g.kind)&&(decide (b.index=g.index)&&(MY b.name g.name))) then
    some (false)
   else
    AM
  else
   AM
def J0 (n:Nat) (b:List Part) (g:List Part):Option Bool :=
 if !(decide ((b.length:Int)=(g.length:Int))) then
  AM
 else
  Jj n b g n 
theorem RF (w0:World) (n:Nat) (B:Ao) (Rw:Ap) (L:Aq) (a0:List Part) (a1:List Part) (r:Bool) (h:J0 n a0 a1=some r) :
  ACalls Tryz.prog w0 175 [.list (a0.map DI) .none,.list (a1.map DI) .none] ⟨B,Rw,L⟩ fun x st=>x = .val (.bool r)/\st=⟨B,Rw,L⟩:=by
 rw [J0] at h
 refine hd [.tmp 4] Tryz.func175 Tryz.ntmps175 fun M0 W0 j d g b k f hs=>?_
 simp only [Ax]
 refine rg [0,1] hs ?_
 apply Am;intro K2 c
 refine rg [0,1,10] hs ?_
 refine B6 h hs ?_ ?_<;>intro hs h
 ·exact nS h
 refine sk [0,1] hs c ?_
 clear c
 apply Am;intro K5 i
 refine rg [0,1,12,13] hs ?_
 apply Ar
 refine AA (fun m e st=>Ck e st B Rw L [(0,true,.list (a0.map DI) .none),(1,true,.list (a1.map DI) .none),(12,true,Ak (a0.length:Int)),(13,true,Ak 0)] [] [] (Jj n a0 a1 m  = some r)) n ⟨([]),Rw,ef hs,ef hs,f,h⟩ ?_
 rintro ml7 e st ⟨Xl7,Rl7,rfl,rfl,f,h⟩ Ul7 Vl7
 cases ml7 with
 | zero=>cases h
 | succ ml7 =>
 rw [Jj] at h
 exact go (tg (a:=([0,1,12,13,14],([0,1,12,13],[0,1,5,12,13],[9,0,1,12,13,24],([4],()),((),())),((),())))) h hs j d g b f trivial trivial
def Ht (n:Nat) (g:List Part) (b:List Part):Option Bool :=
 if decide ((b.length:Int)<=(g.length:Int)) then
  if 0<=0/\0<=(b.length:Int)/\(b.length:Int)<=(g.length:Int) then
   (J0 n (g.take b.length) b).bind fun h =>
   some (h)
  else none
 else
  AM
theorem Rj (w0:World) (n:Nat) (B:Ao) (Rw:Ap) (L:Aq) (a0:List Part) (a1:List Part) (r:Bool) (h:Ht n a0 a1=some r) :
  ACalls Tryz.prog w0 126 [.list (a0.map DI) .none,.list (a1.map DI) .none] ⟨B,Rw,L⟩ fun x st=>x = .val (.bool r)/\st=⟨B,Rw,L⟩:=by
 rw [Ht] at h
 refine hd [.tmp 4] Tryz.func126 Tryz.ntmps126 fun M0 W0 f c d b g e hs=>?_
 simp only [Ax]
 exact go (tg (a:=([0,1],([4],()),((),())))) h hs f c d b e (q1 (RF w0 n)) trivial
def HB (n:Nat) (b:List Part) (g:List Part):Option Bool :=
 (Ht n g b).bind fun h =>
 if h then
  AM
 else
  (Ht n b g).bind fun q =>
  some (q)
theorem Q6 (w0:World) (n:Nat) (B:Ao) (Rw:Ap) (L:Aq) (a0:List Part) (la1:Nat) (a1:List Part) (hla1:B[la1]? = some ([.list (a1.map DI) .none])) (r:Bool) (h:HB n a0 a1=some r) :
  ACalls Tryz.prog w0 125 [.list (a0.map DI) .none,.box la1 0] ⟨B,Rw,L⟩ fun x st=>x = .val (.bool r)/\st=⟨B,Rw,L⟩:=by
 rw [HB] at h
 refine hd [.tmp 3] Tryz.func125 Tryz.ntmps125 fun M0 W0 g d e b i f hs=>?_
 simp only [Ax]
 have c:=(Aj.1 hla1).1
 have hs:=Ad (AH hla1) hs
 exact go (tg (a:=([0,1],((),()),[3],()))) h hs g d e b f (q1 (Rj w0 n)) trivial
def GY (n:Nat)  : Option Int :=
 some ((-1))
def EX (n:Nat) (g:List (List Part)) (y:(List Part)->Option Bool):Nat->Int->Option Int
 | 0,_=>none
 | m+1,b =>
  if decide (b<(g.length:Int)) then
   (Dw g b).bind fun h =>
   (y h).bind fun q =>
   if q then
    AM
   else
    if BN (b+1) then
     (EX n g y m) (b+1)
    else none
  else
   GY n 
def Hj (n:Nat) (b:List (List Part)) (g:(List Part)->Option Bool):Option Int :=
 EX n b g n 0
theorem Oc (w0:World) (n:Nat) (B:Ao) (Rw:Ap) (L:Aq) (a0:List (List Part)) (fa1:FuncId) (ca1:List AV) (a1:(List Part)->Option Bool) (ha1:∀ (x0:List Part) r,a1 x0=some r->∀ B' rows,B <+: B'->Rw <+: rows->ACalls Tryz.prog w0 fa1 ([.list (x0.map DI) .none]++ca1) ⟨B',rows,L⟩ fun v s=>v = .val (.bool r)/\s=⟨B',rows,L⟩) (r:Int) (h:Hj n a0 a1=some r) :
  ACalls Tryz.prog w0 174 [.list (a0.map (S3 DI)) .none,.clo fa1 ca1] ⟨B,Rw,L⟩ fun x st=>x=Ak r/\st=⟨B,Rw,L⟩:=by
 rw [Hj] at h
 refine hd [.tmp 4] Tryz.func174 Tryz.ntmps174 fun M0 W0 j g i b l f hs=>?_
 simp only [Ax]
 have c:=Cc (l (.clo fa1 ca1) (by simp))
 refine rg [0,1] hs ?_
 refine AD (fun e st=>Ck e st B Rw L [] [] [] (GY n  = some r)) ?_ ?_
 ·intro K4 k
  refine rg [0,1,7,8] hs ?_
  apply Ar
  refine AA (fun m e st=>∃ (d:Int),Ck e st B Rw L [(0,true,.list (a0.map (S3 DI)) .none),(1,true,.clo fa1 ca1),(7,true,Ak (a0.length:Int)),(8,true,Ak d)] [] [] (EX n a0 a1 m d=some r)) n ⟨0,([]),Rw,ef hs,ef hs,f,h⟩ ?_
  rintro ml6 e st ⟨d,Xl6,Rl6,rfl,rfl,f,h⟩ Ul6 Vl6
  cases ml6 with
  | zero=>cases h
  | succ ml6 =>
  rw [EX] at h
  refine AO j g i rfl b f (H8 c f) (H8 c f) ?_
  exact go (tg (a:=([0,1,7,8,9],([0,1,7,8],[0,1,5,7,8],[0,1,5,7,8,16],((),()),[0,1,7,8],[0,1,7,8],()),[],()))) h hs j g i b f (q1 ha1) (q2 k (fun e s=>Vl6 ml6 e s (Nat.lt_succ_self _)))
 ·clear h;rintro e st ⟨Xk3,Rk3,rfl,rfl,f,h⟩
  rw [GY] at h
  refine AO j g i rfl b f (H8 c f) (H8 c f) ?_
  refine rg [4] hs ?_
  exact rt h hs b f
def Gi (n:Nat) (g:List (List Part)) (b:(List Part)->Option Bool):Option Bool :=
 (Hj n g b).bind fun h =>
 some (decide (0<=h))
theorem LU (w0:World) (n:Nat) (B:Ao) (Rw:Ap) (L:Aq) (a0:List (List Part)) (fa1:FuncId) (ca1:List AV) (a1:(List Part)->Option Bool) (ha1:∀ (x0:List Part) r,a1 x0=some r->∀ B' rows,B <+: B'->Rw <+: rows->ACalls Tryz.prog w0 fa1 ([.list (x0.map DI) .none]++ca1) ⟨B',rows,L⟩ fun v s=>v = .val (.bool r)/\s=⟨B',rows,L⟩) (r:Bool) (h:Gi n a0 a1=some r) :
  ACalls Tryz.prog w0 124 [.list (a0.map (S3 DI)) .none,.clo fa1 ca1] ⟨B,Rw,L⟩ fun x st=>x = .val (.bool r)/\st=⟨B,Rw,L⟩:=by
 rw [Gi] at h
 refine hd [.tmp 4] Tryz.func124 Tryz.ntmps124 fun M0 W0 o j l b k g hs=>?_
 simp only [Ax]
 have e:=Cc (k (.clo fa1 ca1) (by simp))
 refine rg [0,1] hs ?_
 obtain ⟨m,d,h⟩:=bind_some h
 refine rc 2 [4] hs ?_;intro K2 c
 refine Av _ (Oc w0 n _ _ _ a0 fa1 ca1 a1 (fun x0 r i f a q1 q2=>ha1 x0 r i f a (List.IsPrefix.trans px q1) (g.pre.trans q2)) _ d) (hv hs) ?_
 refine ne hs c ?_
 clear c
 exact rt h hs b g
def JP (n:Nat)  : Option Int :=
 some (0)
def Hu (n:Nat) (a0:List (ByteArray × Ex)):Nat->(List (List Part))->Int->Option Int
 | 0,_,_=>none
 | m+1,g,b =>
  if decide (b<(a0.length:Int)) then
   (Dw a0 b).bind fun y =>
   (Kx n y.1).bind fun h =>
   if !(decide (h.2=0)) then
    AM
   else
    (DJ n h.1 (fun (q:Part)=>some (Gf q))).bind fun y23 =>
    if y23 then
     AM
    else
     (Gi n g (fun (q:List Part)=>HB n q h.1)).bind fun y26 =>
     if y26 then
      AM
     else
      if (g.length+1)*24<=140737488355328/\g.length+1<=4611686018427387904 then
       if BN (b+1) then
        (Hu n a0 m) (g++([h.1])) (b+1)
       else none
      else none
  else
   JP n 
def KI (n:Nat) (b:List (ByteArray × Ex)):Option Int :=
 if decide (256<(b.length:Int)) then
  AM
 else
  Hu n b n ([]) 0
theorem Tm (w0:World) (n:Nat) (B:Ao) (Rw:Ap) (L:Aq) (a0:List (ByteArray × Ex)) (r:Int) (h:KI n a0=some r) :
  ACalls Tryz.prog w0 89 [.agg ([.list (a0.map FT) .none])] ⟨B,Rw,L⟩ fun x st=>x=Ak r/\st=⟨B,Rw,L⟩:=by
 rw [KI] at h
 refine hd [.tmp 2] Tryz.func89 Tryz.ntmps89 fun M0 W0 K t u g Z i hs=>?_
 simp only [Ax]
 refine rg [1] hs ?_
 apply Am;intro K2 y
 refine rg [1,11] hs ?_
 refine B6 h hs ?_ ?_<;>intro hs h
 ·exact nS h
 refine sk [1] hs y ?_
 clear y
 refine rg [1,3] hs ?_
 refine AD (fun e st=>Ck e st B Rw L [] [[.list (a0.map FT) .none]] [] (JP n  = some r)) ?_ ?_
 ·intro K8 G
  refine rg [3,13,14,15] hs ?_
  apply Ar
  refine AA (fun m e st=>∃ (b:List (List Part)) (d:Int) (c:Ev.Own),Ck e st B Rw L [(3,true,.list (b.map (S3 DI)) c),(13,true,.list (a0.map FT) .none),(14,true,Ak (a0.length:Int)),(15,true,Ak d)] [[.list (a0.map FT) .none]] [(1,b.length,c)] (Hu n a0 m b d=some r)) n ⟨([]),0,.full,([]),Rw,ef hs,ef hs,Owns.of_eq ((i).full 1 0) Fh,h⟩ ?_
  rintro ml10 e st ⟨b,d,c,Xl10,Rl10,rfl,rfl,i,h⟩ Ul10 Vl10
  cases ml10 with
  | zero=>cases h
  | succ ml10 =>
  rw [Hu] at h
  have V:=i.unders
  simp only [List.mem_cons,List.not_mem_nil,or_false,forall_eq_or_imp,forall_eq] at V
  refine td K t u g i ?_
  refine rg [3,13,14,15,16] hs ?_
  apply Am;intro K12 k
  refine B6 h hs ?_ ?_<;>intro hs h
  rotate_left
  ·refine sx [] hs G ?_
   exact ⟨([]),Rl10,ef hs,ef hs,(i).sub (List.sublist_append_left [] [(1,b.length,c)]),h⟩
  refine sk [3,13,14,15] hs k ?_
  clear k
  apply Am;intro K14 C
  apply Ar
  obtain ⟨J,D,h⟩:=bind_some h
  obtain ⟨O,N,v⟩:=Bo D
  have q:=Bz (f:=FT) v
  have hs:=Ad q hs
  refine rg [3,5,13,14,15] hs ?_
  obtain ⟨p,w,h⟩:=bind_some h
  refine rc 2 [3,6,7,13,14,15] hs ?_;intro K17 j
  refine Av _ (Nx w0 n _ _ _ J.1 _ w) (hv hs) ?_
  refine ne hs j ?_
  clear j
  apply Am;intro K19 E
  apply Ar
  refine rg [3,6,7,13,14,15,25] hs ?_
  refine B6 h hs ?_ ?_<;>intro hs h
  ·exact nS h
  obtain ⟨U,hy23,h⟩:=bind_some h
  refine rc 2 [3,6,13,14,15,29] hs ?_;intro K22 l
  refine Av _ (Gh w0 n _ _ _ p.1 123 [] (fun (x0:Part)=>some (Gf x0)) (fun x0 r hx Y rows' z H=>by cases hx;exact Qg w0 _ _ _ x0) _ hy23) (hv hs) ?_
  refine ne hs l ?_
  clear l
  refine B6 h hs ?_ ?_<;>intro hs h
  ·exact nS h
  obtain ⟨Q,F,h⟩:=bind_some h
  refine rc 2 [3,6,13,14,15,32] hs ?_;intro K25 o
  refine Av _ (LU w0 n _ _ _ b 125 [.box (B.length+2) 0] (fun (x0:List Part)=>HB n x0 p.1) (fun x0 r hx Y rows' z H=>by exact Q6 w0 n _ _ _ x0 _ p.1 (I6 z (ef hs)) _ hx) _ F) (hv hs) ?_
  refine ne hs o ?_
  clear o
  exact go (tg (a:=(((),()),[3,6,13,14,15],[3,13,14,15],[3,13,14,15],()))) h hs K t u g i (q1 (ae ZaH V9)) (q3 E C (fun e s=>Vl10 ml10 e s (Nat.lt_succ_self _)))
 ·clear h;rintro e st ⟨Xk7,Rk7,rfl,rfl,i,h⟩
  rw [JP] at h
  refine td K t u g i ?_
  refine rg [2] hs ?_
  exact rt h hs g i
def Gy (n:Nat)  : Option Int :=
 some ((-1))
def EI (n:Nat) (h:List (ByteArray × Vl)) (y:(ByteArray × Vl)->Option Bool):Nat->Int->Option Int
 | 0,_=>none
 | m+1,b =>
  if decide (b<(h.length:Int)) then
   (Dw h b).bind fun g =>
   (y g).bind fun q =>
   if q then
    some (b)
   else
    if BN (b+1) then
     (EI n h y m) (b+1)
    else none
  else
   Gy n 
def GV (n:Nat) (b:List (ByteArray × Vl)) (g:(ByteArray × Vl)->Option Bool):Option Int :=
 EI n b g n 0
theorem Ny (w0:World) (n:Nat) (B:Ao) (Rw:Ap) (L:Aq) (oa0:VO) (a0:List (ByteArray × Vl)) (hVa0:VP Rw oa0 7 (a0.flatMap fun x=>(Di x).cells)) (fa1:FuncId) (ca1:List AV) (a1:(ByteArray × Vl)->Option Bool) (ha1:∀ (x0:ByteArray × Vl) r,a1 x0=some r->∀ B' rows,B <+: B'->Rw <+: rows->ACalls Tryz.prog w0 fa1 ([.agg (.val (.string x0.1)::(x0.2.cs))]++ca1) ⟨B',rows,L⟩ fun v s=>v = .val (.bool r)/\s=⟨B',rows,L⟩) (r:Int) (h:GV n a0 a1=some r) :
  ACalls Tryz.prog w0 146 [G7 oa0 a0.length,.clo fa1 ca1] ⟨B,Rw,L⟩ fun x st=>x=Ak r/\st=⟨B,Rw,L⟩:=by
 rw [GV] at h
 refine hd [.tmp 4] Tryz.func146 Tryz.ntmps146 fun M0 W0 G q t c Q g hs=>?_
 simp only [Ax]
 have d:=Cc (Q (.clo fa1 ca1) (by simp))
 refine rg [0,1] hs ?_
 refine AD (fun e st=>Ck e st B Rw L [] [] [] (Gy n  = some r)) ?_ ?_
 ·intro K4 E
  apply Am;intro K5 D
  have w:=(hVa0.up g).lenV (by decide:0<7) (CH (f:=Di) (sz:=7) (fun _=>by simp +decide only [go_sem]) a0) Tryz.prog 47
  simp +decide only [go_sem] at w
  have hs:=Ad w hs
  refine rl [0,1,7,8] hs D ?_
  clear D
  apply Ar
  refine AA (fun m e st=>∃ (i:Int),Ck e st B Rw L [(0,true,G7 oa0 a0.length),(1,true,.clo fa1 ca1),(7,true,Ak (a0.length:Int)),(8,true,Ak i)] [] [] (EI n a0 a1 m i=some r)) n ⟨0,([]),Rw,ef hs,ef hs,g,h⟩ ?_
  rintro ml7 e st ⟨i,Xl7,Rl7,rfl,rfl,g,h⟩ Ul7 Vl7
  cases ml7 with
  | zero=>cases h
  | succ ml7 =>
  rw [EI] at h
  have b:=(hVa0.up g).under;(try simp only [Q0] at b)
  refine AO G q t rfl c g (H8 d g) (H8 d g) ?_
  refine rg [0,1,7,8,9] hs ?_
  apply Am;intro K9 z
  refine B6 h hs ?_ ?_<;>intro hs h
  rotate_left
  ·refine sx [] hs E ?_
   exact ⟨([]),Rl7,ef hs,ef hs,g,h⟩
  refine sk [0,1,7,8] hs z ?_
  clear z
  apply Am;intro K11 y
  apply Ar
  refine rg [0,1,5,7,8] hs ?_
  apply Am;intro K13 u
  obtain ⟨U,C,h⟩:=bind_some h
  obtain ⟨H,K,p⟩:=Bo C
  obtain ⟨O,F,hqx14,J,o⟩:=(hVa0.up g).row (by rw [(CH (f:=Di) (sz:=7) (fun _=>by simp +decide only [go_sem]) _)];exact Nat.mul_pos (by omega) (by decide))
  subst hqx14
  have l:=QQ (f:=Di) (sz:=7) (fun _=>by simp +decide only [go_sem]) p
  have k:=GB (f:=fun x=>(Di x).cells) 7 (fun _=>by simp +decide only [go_sem]) p
  have j:=CH (f:=Di) (sz:=7) (fun _=>by simp +decide only [go_sem]) a0
  simp only [Fe,E6,E9,E8,Fb,EP,D2,D4,E3,CJ,CL,D1,DX,DZ,Fa,DW,E5,IM,Fj] at l k o j
  obtain ⟨V,N,h⟩:=bind_some h
  have hs:=Ad l hs
  have hs:=Ad k hs
  have hs:=Ad o hs
  have hs:=Ad j hs
  exact go (tg (a:=([0,1,5,7,8,16],([4],()),[0,1,7,8],[0,1,7,8],()))) h hs G q t c g (q1 ha1) (q3 u y (fun e s=>Vl7 ml7 e s (Nat.lt_succ_self _)))
 ·clear h;rintro e st ⟨Xk3,Rk3,rfl,rfl,g,h⟩
  rw [Gy] at h
  have b:=(hVa0.up g).under;(try simp only [Q0] at b)
  refine AO G q t rfl c g (H8 d g) (H8 d g) ?_
  refine rg [4] hs ?_
  exact rt h hs c g
def Ns (n:Nat) (b:Vl) (b2_k23_4:List Vl) (b2_k23_5:List (ByteArray × Vl)):Option Vl :=
 some (Vl.mk b.kind b.int b.scale b.text b2_k23_4 b2_k23_5)
def J6 (n:Nat) (h:Vl):Nat->Int->(List Vl)->(List (ByteArray × Vl))->Option Vl
 | 0,_,_,_=>none
 | m+1,b,b2_l26_4,b2_l26_5 =>
  if decide (b<(h.fields.length:Int)) then
   (Dw h.fields b).bind fun g =>
   (B8 n g.2).bind fun q =>
   if (b2_l26_5.length+1)*104<=140737488355328/\b2_l26_5.length+1<=4611686018427387904 then
    if BN (b+1) then
     (J6 n h m) (b+1) b2_l26_4 (b2_l26_5++[(g.1,q)])
    else none
   else none
  else
   Ns n h b2_l26_4 b2_l26_5
def Ox (n:Nat) (b:Vl) (b2_k5_4:List Vl) (b2_k5_5:List (ByteArray × Vl)):Option Vl :=
 J6 n b n 0 b2_k5_4 b2_k5_5
def LQ (n:Nat) (g:Vl):Nat->Int->(List Vl)->(List (ByteArray × Vl))->Option Vl
 | 0,_,_,_=>none
 | m+1,b,b2_l8_4,b2_l8_5 =>
  if decide (b<(g.list.length:Int)) then
   (Dw g.list b).bind fun q =>
   (B8 n q).bind fun h =>
   if (b2_l8_4.length+1)*88<=140737488355328/\b2_l8_4.length+1<=4611686018427387904 then
    if BN (b+1) then
     (LQ n g m) (b+1) (b2_l8_4++([h])) b2_l8_5
    else none
   else none
  else
   Ox n g b2_l8_4 b2_l8_5
def Qq (n:Nat) (b:Vl):Option Vl :=
 LQ n b n 0 ([]) ([])
theorem Yf (w0:World) (n:Nat) (B:Ao) (Rw:Ap) (L:Aq) (a0:Vl) (r:Vl) (h:Qq n a0=some r) :
  ACalls Tryz.prog w0 57 [.agg (a0.cs)] ⟨B,Rw,L⟩ fun x st=>∃ (o0:VO) (rows:Ap),x = .agg ([Ak r.kind,Ak r.int,Ak r.scale,.val (.string r.text),.list (r.list.map En) .none,G7 o0 r.fields.length])/\st=⟨B,rows,L⟩/\Owns Rw rows [] .none [(o0,7,(r.fields).flatMap fun x=>(Di x).cells)]:=by
 rw [Qq] at h
 refine ACalls.finV (Qo [true,true,true,true,true,false] (rs:=[.cell 2 49]) Tryz.func57 rfl rfl Tryz.ntmps57 (AL Tryz.func57 rfl (by decide)) (Nat.le_of_ble_eq_true rfl) ?_)
 intro M0 W0 hN J K E hu
 dsimp only at hN J K E hu
 simp only [Ax]
 have z:=Owns.none Rw
 have hs:=Uu
 refine rg [1,2] hs ?_
 refine rg [1,2,3] hs ?_
 have hs:=Ad (Vl.cs_eqs a0) hs
 refine rg [1,2,3] hs ?_
 refine AD (fun e st=>∃ (k:List Vl) (l:List (ByteArray × Vl)) (p:Ev.Own) (u:VO) (Xk5:Ao) (Rk5:Ap),e=[(1,true,.box B.length 0),(2,true,.box (B.length+1) 0),(3,true,.box (B.length+2) 0)]/\st=⟨B++([a0.cs,CQ,[Ak a0.kind,Ak a0.int,Ak a0.scale,.val (.string a0.text),.list (k.map En) p,G7 u l.length]]++Xk5),Rk5,L⟩/\Owns Rw Rk5 [(6,k.length,p)] .none [(u,7,l.flatMap fun x=>(Di x).cells)]/\Ox n a0 k l=some r) ?_ ?_
 ·intro K6 ay
  refine rg [1,2,3,12,13,14] hs ?_
  apply Ar
  refine NF (B.length+2) 5 (by simp only [Ea,Da,EF,DR];rfl) rfl ?_;simp +decide only [go_sem,Nat.reduceAdd,List.set_cons_zero,List.set_cons_succ]
  have z:=z.nilV 7
  refine AA (fun m e st=>∃ (F:Int) (c:List Vl) (g:List (ByteArray × Vl)) (t:Ev.Own) (i:VO) (Xl8:Ao) (Rl8:Ap),e=[(1,true,.box B.length 0),(2,true,.box (B.length+1) 0),(3,true,.box (B.length+2) 0),(12,true,.list (a0.list.map En) .none),(13,true,Ak (a0.list.length:Int)),(14,true,Ak F)]/\st=⟨B++([a0.cs,CQ,[Ak a0.kind,Ak a0.int,Ak a0.scale,.val (.string a0.text),.list (c.map En) t,G7 i g.length]]++Xl8),Rl8,L⟩/\Owns Rw Rl8 [(6,c.length,t)] .none [(i,7,g.flatMap fun x=>(Di x).cells)]/\LQ n a0 m F c g=some r) n ⟨0,([]),([]),.full,.nil,([]),Rw,ef hs,ef hs,Owns.eqV (Owns.of_eq ((z).full 6 0) Fh) N6,h⟩ ?_
  rintro ml8 e st ⟨F,c,g,t,i,Xl8,Rl8,rfl,rfl,z,h⟩ Ul8 Vl8
  cases ml8 with
  | zero=>cases h
  | succ ml8 =>
  rw [LQ] at h
  have hU:=z.unders
  simp only [List.mem_cons,List.not_mem_nil,or_false,forall_eq_or_imp,forall_eq] at hU
  have G:=z.underV
  simp only [List.mem_cons,List.not_mem_nil,or_false,forall_eq_or_imp,forall_eq] at G
  refine AO hN J K rfl E z ow ow ?_ (vu @KY)
  refine rg [1,2,3,12,13,14,15] hs ?_
  apply Am;intro K11 V
  refine B6 h hs ?_ ?_<;>intro hs h
  rotate_left
  ·refine sx [1,2,3] hs ay ?_
   exact ⟨c,g,t,i,([]),Rl8,ef hs,ef hs,Owns.eqV (Owns.of_eq (z) Fh) N6,h⟩
  refine sk [1,2,3,12,13,14] hs V ?_
  clear V
  apply Am;intro K13 U
  apply Ar
  obtain ⟨aj,ak,h⟩:=bind_some h
  obtain ⟨az,aq,af⟩:=Bo ak
  have ad:=Bz (f:=En) af
  have hs:=Ad ad hs
  refine rg [1,2,3,5,12,13,14] hs ?_
  obtain ⟨au,ap,h⟩:=bind_some h
  obtain ⟨Z,h⟩:=Au h
  obtain ⟨ar,O,z,D⟩:=z.append (P:=Tryz.prog) P7 (by rw [KJ];rfl) (by decide) 1 Z.1 Z.2
  replace D:=fun (ys:List AV) B L o2=>D (c.map En) ys B L o2 Fh
  replace D:=fun (y:AV) B L o2=>D [y] B L o2 Fh ev
  try simp only [List.mem_singleton,List.mem_cons,List.not_mem_nil,or_false,forall_eq_or_imp,forall_eq,List.map_append,List.map_cons,List.map_nil,Fe,E6,E9,E8,Fb,EP,D2,D4,E3,CJ,CL,D1,DX,DZ,Fa,DW,E5] at D
  have hs:=Ad D hs
  refine dk 5 2 1 [1,2,3,12,13,14] hs G6 ?_
  refine Av _ (CZ w0 n _ _ _ aj _ ap) (hv hs) ?_
  refine dn hs U ?_
  clear U
  obtain ⟨a2,h⟩:=Au h
  refine rl [1,2,3,12,13,14] hs (fun e s=>Vl8 ml8 e s (Nat.lt_succ_self _)) ?_
  exact ⟨(F+1),(c++([au])),g,ar,i,([aj.cs]),O,ef hs,ef hs,Owns.eqV (Owns.of_eq (z) Fh) N6,h⟩
 ·clear h;rintro e st ⟨k,l,p,u,Xk5,Rk5,rfl,rfl,z,h⟩
  rw [Ox] at h
  have hU:=z.unders
  simp only [List.mem_cons,List.not_mem_nil,or_false,forall_eq_or_imp,forall_eq] at hU
  have G:=z.underV
  simp only [List.mem_cons,List.not_mem_nil,or_false,forall_eq_or_imp,forall_eq] at G
  refine AO hN J K rfl E z ow ow ?_ (vu @KY)
  refine AD (fun e st=>∃ (o:List Vl) (q:List (ByteArray × Vl)) (v:Ev.Own) (w:VO) (Xk23:Ao) (Rk23:Ap),e=[(2,true,.box (B.length+1) 0),(3,true,.box (B.length+2) 0)]/\st=⟨B++([a0.cs,CQ,[Ak a0.kind,Ak a0.int,Ak a0.scale,.val (.string a0.text),.list (o.map En) v,G7 w q.length]]++Xk23),Rk23,L⟩/\Owns Rw Rk23 [(6,o.length,v)] .none [(w,7,q.flatMap fun x=>(Di x).cells)]/\Ns n a0 o q=some r) ?_ ?_
  ·intro K24 ao
   refine rg [2,3,27,28,29] hs ?_
   apply Ar
   refine AA (fun m e st=>∃ (C:Int) (b:List Vl) (a:List (ByteArray × Vl)) (d:Ev.Own) (j:VO) (Xl26:Ao) (Rl26:Ap),e=[(2,true,.box (B.length+1) 0),(3,true,.box (B.length+2) 0),(27,true,.list (a0.fields.map Di) .none),(28,true,Ak (a0.fields.length:Int)),(29,true,Ak C)]/\st=⟨B++([a0.cs,CQ,[Ak a0.kind,Ak a0.int,Ak a0.scale,.val (.string a0.text),.list (b.map En) d,G7 j a.length]]++Xl26),Rl26,L⟩/\Owns Rw Rl26 [(6,b.length,d)] .none [(j,7,a.flatMap fun x=>(Di x).cells)]/\J6 n a0 m C b a=some r) n ⟨0,k,l,p,u,([]),Rk5,ef hs,ef hs,Owns.eqV (Owns.of_eq (z) Fh) N6,h⟩ ?_
   rintro ml26 e st ⟨C,b,a,d,j,Xl26,Rl26,rfl,rfl,z,h⟩ Ul26 Vl26
   cases ml26 with
   | zero=>cases h
   | succ ml26 =>
   rw [J6] at h
   have hU:=z.unders
   simp only [List.mem_cons,List.not_mem_nil,or_false,forall_eq_or_imp,forall_eq] at hU
   have G:=z.underV
   simp only [List.mem_cons,List.not_mem_nil,or_false,forall_eq_or_imp,forall_eq] at G
   refine AO hN J K rfl E z ow ow ?_ (vu @KY)
   refine rg [2,3,27,28,29,30] hs ?_
   apply Am;intro K28 ab
   refine B6 h hs ?_ ?_<;>intro hs h
   rotate_left
   ·refine sx [2,3] hs ao ?_
    exact ⟨b,a,d,j,([]),Rl26,ef hs,ef hs,Owns.eqV (Owns.of_eq (z) Fh) N6,h⟩
   refine sk [2,3,27,28,29] hs ab ?_
   clear ab
   apply Am;intro K30 aa
   apply Ar
   obtain ⟨H,ai,h⟩:=bind_some h
   obtain ⟨av,ax,ag⟩:=Bo ai
   have ae:=Bz (f:=Di) ag
   have hs:=Ad ae hs
   refine rg [2,3,7,27,28,29] hs ?_
   obtain ⟨ah,am,h⟩:=bind_some h
   obtain ⟨Y,h⟩:=Au h
   obtain ⟨aw,Q,z,N⟩:=z.appendV (P:=Tryz.prog) (n:=a.length) (m:=1) SG (by rw [MC];rfl) (by decide) ((CH (f:=Di) (sz:=7) (fun _=>by simp +decide only [go_sem]) _)) Y.1 Y.2 [Di ((H.1,ah))] rfl ((a++[(H.1,ah)]).flatMap fun x=>(Di x).cells) (by simp only [List.flatMap_append,List.flatMap_cons,List.flatMap_nil,List.append_nil,List.nil_append,Vp])
   simp only [List.mem_singleton,forall_eq,Fe,E6,E9,E8,Fb,EP,D2,D4,E3,CJ,CL,D1,DX,DZ,Fa,DW,E5,IM] at N
   have hs:=Ad N hs
   refine dk 9 2 1 [2,3,27,28,29] hs G6 ?_
   refine Av _ (CZ w0 n _ _ _ H.2 _ am) (hv hs) ?_
   refine dn hs aa ?_
   clear aa
   obtain ⟨a1,h⟩:=Au h
   refine rl [2,3,27,28,29] hs (fun e s=>Vl26 ml26 e s (Nat.lt_succ_self _)) ?_
   exact ⟨(C+1),b,(a++[(H.1,ah)]),d,aw,([.val (.string H.1)::(H.2.cs)]),Q,ef hs,ef hs,Owns.eqV (Owns.of_eq (z) Fh) N6,h⟩
  ·clear h;rintro e st ⟨o,q,v,w,Xk23,Rk23,rfl,rfl,z,h⟩
   rw [Ns] at h
   have hU:=z.unders
   simp only [List.mem_cons,List.not_mem_nil,or_false,forall_eq_or_imp,forall_eq] at hU
   have G:=z.underV
   simp only [List.mem_cons,List.not_mem_nil,or_false,forall_eq_or_imp,forall_eq] at G
   refine AO hN J K rfl E z ow ow ?_ (vu @KY)
   refine rg [2] hs ?_
   apply BB;simp +decide only [go_sem,Nat.reduceAdd,Vl.cs_eqs a0]
   have hgt:=Option.some.inj h;subst hgt
   have G:=z.underV
   simp only [List.mem_cons,List.not_mem_nil,or_false,forall_eq_or_imp,forall_eq] at G
   refine Zp z E rfl (by (simp +decide only [go_sem,Nat.reduceAdd,Vl.cs_eqs a0])<;>(try (repeat' apply Ad))<;>first | omega | assumption) (vu @KY) ⟨_,_,?_,rfl,z.sub (List.nil_sublist _)⟩
   first | rfl | (simp +decide only [go_sem,Nat.reduceAdd,Vl.cs_eqs a0];done) | (simp +decide only [go_sem,Nat.reduceAdd,Vl.cs,Ty.cs,Vl.cs_eqs a0];done)
def KP (b:ByteArray × Vl) (g:ByteArray):Bool :=
 !(sLt b.1 g||MY b.1 g)
theorem Yw (w0:World) (B:Ao) (Rw:Ap) (L:Aq) (a0:ByteArray × Vl) (la1:Nat) (a1:ByteArray) (hla1:B[la1]? = some ([.val (.string a1)])) (r:Bool) (h:KP a0 a1=r) :
  ACalls Tryz.prog w0 181 [.agg (.val (.string a0.1)::(a0.2.cs)),.box la1 0] ⟨B,Rw,L⟩ fun x st=>x = .val (.bool r)/\st=⟨B,Rw,L⟩:=by
 rw [KP] at h
 refine hd [.tmp 3] Tryz.func181 Tryz.ntmps181 fun M0 W0 g c e a f d hs=>?_
 simp only [Ax]
 have b:=(Aj.1 hla1).1
 have hs:=Ad (AH hla1) hs
 refine rg [1,2] hs ?_
 refine rg [3] hs ?_
 exact rT h hs a d
theorem Xx (w0:World) (B:Ao) (Rw:Ap) (L:Aq) (a0:ByteArray × Vl) (la1:Nat) (a1:ByteArray) (hla1:B[la1]? = some ([.val (.string a1)])) :
  ACalls Tryz.prog w0 181 [.agg (.val (.string a0.1)::(a0.2.cs)),.box la1 0] ⟨B,Rw,L⟩ fun x st=>x = .val (.bool (KP a0 a1))/\st=⟨B,Rw,L⟩:=Yw w0 B Rw L a0 la1 a1 hla1 _ rfl
def Ux (n:Nat) (h:Vl) (g:ByteArray) (a2:Vl):Option (Vl × Int) :=
 (O6 n h g).bind fun y3 =>
 if !(decide (h.kind=9)) then
  AM
 else
  if g.size<=maxLen then
   if !(QK g) then
    AM
   else
    if ES a2 then
     AM
    else
     if (decide (y3<0))&&(decide (64<=(h.fields.length:Int))) then
      AM
     else
      (Qq n h).bind fun b =>
      if decide (0<=y3) then
       AM
      else
       (GV n b.fields (fun (x0:ByteArray × Vl)=>some (KP x0 g))).bind fun y =>
       if decide (y<0) then
        (B8 n a2).bind fun q =>
        if (0<=(b.fields.length:Int)/\(b.fields.length:Int)<=(b.fields.length:Int))/\(b.fields.length+1)*104<=140737488355328/\b.fields.length+1<=4611686018427387904 then
         some ((Vl.mk b.kind b.int b.scale b.text b.list (IY b.fields (b.fields.length:Int) ((g,q))),0))
        else none
       else
        AM
  else none
theorem ZbQ (w0:World) (n:Nat) (B:Ao) (Rw:Ap) (L:Aq) (a0:Vl) (a1:ByteArray) (a2:Vl) (r:Vl × Int) (h:Ux n a0 a1 a2=some r) :
  ACalls Tryz.prog w0 132 [.agg (a0.cs),.val (.string a1),.agg (a2.cs)] ⟨B,Rw,L⟩ fun x st=>x = .tup [.agg (r.1.cs),Ak r.2]/\st=⟨B,Rw,L⟩:=by
 rw [Ux] at h
 refine hd [.cell 6 49,.tmp 7] Tryz.func132 Tryz.ntmps132 fun M0 W0 hN Y Z s hu c hs=>?_
 simp only [Ax]
 refine rg [3,4,5,6] hs ?_
 obtain ⟨y3,O,h⟩:=bind_some h
 refine rc 2 [3,4,5,6,8] hs ?_;intro K2 D
 refine Av _ (Uk w0 n _ _ _ a0 a1 _ O) (hv hs) ?_
 refine ne hs D ?_
 clear D
 apply Am;intro K4 y
 apply Ar
 refine rg [3,4,5,6,8,14] hs ?_
 refine B6 h hs ?_ ?_<;>intro hs h
 ·have C:=hs.1
  exact nS h
 have C:=hs.1
 obtain ⟨N,h⟩:=Au h
 refine rc 2 [3,4,5,6,8,19] hs ?_;intro K7 w
 refine Av _ (Pe w0 _ _ _ a1 N) (hv hs) ?_
 refine ne hs w ?_
 clear w
 refine B6 h hs ?_ ?_<;>intro hs h
 ·have u:=hs.1
  exact nS h
 have u:=hs.1
 refine rc 2 [3,4,5,6,8,24] hs ?_;intro K10 i
 refine Av _ (Gw w0 _ _ _ a2) (hv hs) ?_
 refine ne hs i ?_
 clear i
 refine B6 h hs ?_ ?_<;>intro hs h
 ·have e:=hs.1
  exact nS h
 have e:=hs.1
 refine rg [3,4,5,6,8,28] hs ?_
 refine B6 h hs ?_ ?_<;>intro hs h
 ·have d:=hs.1
  exact nS h
 have d:=hs.1
 refine sk [3,4,5,6,8] hs y ?_
 clear y
 obtain ⟨q,E,h⟩:=bind_some h
 refine rc 2 [4,5,6,8,9] hs ?_;intro K14 k
 refine BE _ (Yf w0 n _ _ _ a0 _ E) (hv hs) ?_;rintro _ _ ⟨K,Rv18,rfl,rfl,b⟩
 have c:=c.callV b
 refine ne hs k ?_
 clear k
 apply Am;intro K19 o
 refine rg [4,5,6,8,9,41] hs ?_
 refine B6 h hs ?_ ?_<;>intro hs h
 ·have g:=hs.1
  exact nS h
 have g:=hs.1
 refine sk [4,5,6,9] hs o ?_
 clear o
 apply Am;intro K22 j
 obtain ⟨V,hy23,h⟩:=bind_some h
 refine IL 0 (by decide) ?_
 refine rk 2 [4,5,6,9,10] hs ?_
 refine Zcl [false,true] _ (Ny w0 n _ _ _ K q.fields c.vp 181 [.box (B.length+1) 0] (fun (x0:ByteArray × Vl)=>some (KP x0 a1)) (fun x0 r hx B' rows' hB' U=>by cases hx;exact Xx w0 _ _ _ x0 _ a1 (I6 hB' (ef hs))) _ hy23) (hv hs) ?_
 refine ne hs j ?_
 clear j
 apply Am;intro K24 m
 refine rg [4,5,6,9,10,55] hs ?_
 refine B6 h hs ?_ ?_<;>intro hs h
 ·have l:=hs.1
  have a:=c.lenV (by decide:0<7) (CH (f:=Di) (sz:=7) (fun _=>by simp +decide only [go_sem]) q.fields) Tryz.prog 47
  simp +decide only [go_sem] at a
  have hs:=Ad a hs
  refine rl [4,5,6,9,10] hs m ?_
  clear m
  apply Am;intro K28 p
  obtain ⟨H,z,h⟩:=bind_some h
  obtain ⟨v,h⟩:=Au h
  obtain ⟨Q,J,G,c,t⟩:=YU w0 c (q.fields.length:Int) v ((a1,H))
  refine IL 0 (by decide) ?_
  refine dk 8 2 2 [6,9] hs G6 ?_
  refine Av _ (CZ w0 n _ _ _ a2 _ z) (hv hs) ?_
  refine dx hs ?_
  refine Jd [false,true,true] _ (t _ _ _) (hv hs) ?_;rintro _ _ ⟨rfl,rfl⟩
  refine ne hs p ?_
  clear p
  refine rg [6,7] hs ?_
  refine LK (B.length+3) 5 (by first | rfl | (simp only [Ea,Da];rfl) | (simp +decide only [go_sem,Nat.reduceAdd,C,u,e,d,g,l,a])) (by first | rfl | (simp only [QA,List.length_set];rfl)) c true (.inl rfl) (by decide) ((CH (f:=Di) (sz:=7) (fun _=>by simp +decide only [go_sem]) _)) (QB (f:=Di) 7 (fun _=>rfl) (fun _=>by simp +decide only [go_sem]) _) (fun F c=>?_)
  simp +decide only [go_sem,Nat.reduceAdd,List.set_cons_zero,List.set_cons_succ]
  exact rt h hs s c
 have l:=hs.1
 exact nS h
def LY (n:Nat) (y:Vl) (g:List Part) (h:Vl):Option (Vl × Int) :=
 if (decide ((g.length:Int)=1))&&(ES h) then
  AM
 else
  (Dw g 0).bind fun q =>
  if decide (1<(g.length:Int)) then
   AM
  else
   (Ux n y q.name h).bind fun b =>
   some ((b.1,b.2))
theorem Ud (w0:World) (n:Nat) (B:Ao) (Rw:Ap) (L:Aq) (a0:Vl) (a1:List Part) (a2:Vl) (r:Vl × Int) (h:LY n a0 a1 a2=some r) :
  ACalls Tryz.prog w0 92 [.agg (a0.cs),.list (a1.map DI) .none,.agg (a2.cs)] ⟨B,Rw,L⟩ fun x st=>x = .tup [.agg (r.1.cs),Ak r.2]/\st=⟨B,Rw,L⟩:=by
 rw [LY] at h
 refine hd [.cell 6 49,.tmp 7] Tryz.func92 Tryz.ntmps92 fun M0 W0 i e f b j g hs=>?_
 simp only [Ax]
 refine rg [1,3,5,6] hs ?_
 apply Am;intro K2 c
 refine rc 2 [1,3,5,6,18] hs ?_;intro K3 d
 refine Jl _ (fun _=>Gw w0 _ _ _ a2) (hv hs) ?_
 exact go (tg (a:=(((),()),[1,3,5,6],[1,3,5,6,8],[1,3,5,6,8,26],((),()),[3,5,6,8],[6,7],()))) h hs i e f b g (q1 (ZbQ w0 n)) (q2 d c)
def Gu (b:Int) (g:Int) (h:Int):Option Int :=
 if (decide (b<g))||(decide (h<b)) then
  AM
 else
  some (0)
theorem Iu (w0:World) (B:Ao) (Rw:Ap) (L:Aq) (a0:Int) (a1:Int) (a2:Int) (r:Int) (h:Gu a0 a1 a2=some r) :
  ACalls Tryz.prog w0 151 [Ak a0,Ak a1,Ak a2] ⟨B,Rw,L⟩ fun x st=>x=Ak r/\st=⟨B,Rw,L⟩:=by
 rw [Gu] at h
 refine hd [.tmp 6] Tryz.func151 Tryz.ntmps151 fun M0 W0 f c d b g e hs=>?_
 simp only [Ax]
 exact go (tg (a:=([0,1,2],[14],((),()),[],[6],()))) h hs f c d b e trivial trivial
def OR (b:Vl):Option Int :=
 (Gu b.int 0 1).bind fun g =>
 some (g)
theorem Xa (w0:World) (B:Ao) (Rw:Ap) (L:Aq) (a0:Vl) (r:Int) (h:OR a0=some r) :
  ACalls Tryz.prog w0 150 [.agg (a0.cs)] ⟨B,Rw,L⟩ fun x st=>x=Ak r/\st=⟨B,Rw,L⟩:=by
 rw [OR] at h
 refine hd [.tmp 2] Tryz.func150 Tryz.ntmps150 fun M0 W0 f c d b g e hs=>?_
 simp only [Ax]
 exact go (tg (a:=([1],[2],()))) h hs f c d b e (q1 (Iu w0)) trivial
def NH (b:Vl):Option Int :=
 if b.text.size<=maxLen then
  if !(QK b.text) then
   AM
  else
   AM
 else none
theorem VQ (w0:World) (B:Ao) (Rw:Ap) (L:Aq) (a0:Vl) (r:Int) (h:NH a0=some r) :
  ACalls Tryz.prog w0 164 [.agg (a0.cs)] ⟨B,Rw,L⟩ fun x st=>x=Ak r/\st=⟨B,Rw,L⟩:=by
 rw [NH] at h
 refine hd [.tmp 2] Tryz.func164 Tryz.ntmps164 fun M0 W0 f c d b g e hs=>?_
 simp only [Ax]
 exact go (tg (a:=([1],[1,3],((),()),((),())))) h hs f c d b e (q1 (Pe w0)) trivial
def OK (b:Vl):Option Int :=
 (Gu b.int ((-999999999999999)) 999999999999999).bind fun g =>
 some (g)
theorem Xi (w0:World) (B:Ao) (Rw:Ap) (L:Aq) (a0:Vl) (r:Int) (h:OK a0=some r) :
  ACalls Tryz.prog w0 152 [.agg (a0.cs)] ⟨B,Rw,L⟩ fun x st=>x=Ak r/\st=⟨B,Rw,L⟩:=by
 rw [OK] at h
 refine hd [.tmp 2] Tryz.func152 Tryz.ntmps152 fun M0 W0 f c d b g e hs=>?_
 simp only [Ax]
 exact go (tg (a:=([1],[2],()))) h hs f c d b e (q1 (Iu w0)) trivial
def Qn (n:Nat) (b:List Int):Nat->Option Int
 | 0=>none
 | m+1 =>
  if decide (0<(b.length:Int)) then
   AM
  else
   AM
def R9 (n:Nat) (b:List Int):Option Int :=
 Qn n b n 
theorem Zr (w0:World) (n:Nat) (B:Ao) (Rw:Ap) (L:Aq) (a0:List Int) (r:Int) (h:R9 n a0=some r) :
  ACalls Tryz.prog w0 154 [.list (a0.map Ci) .none] ⟨B,Rw,L⟩ fun x st=>x=Ak r/\st=⟨B,Rw,L⟩:=by
 rw [R9] at h
 refine hd [.tmp 2] Tryz.func154 Tryz.ntmps154 fun M0 W0 i c f b j d hs=>?_
 simp only [Ax]
 refine rg [0] hs ?_
 apply Am;intro K2 g
 refine rg [5,6,7] hs ?_
 apply Ar
 refine AA (fun m e st=>Ck e st B Rw L [(5,true,.list (a0.map Ci) .none),(6,true,Ak (a0.length:Int)),(7,true,Ak 0)] [] [] (Qn n a0 m  = some r)) n ⟨([]),Rw,ef hs,ef hs,d,h⟩ ?_
 rintro ml4 e st ⟨Xl4,Rl4,rfl,rfl,d,h⟩ Ul4 Vl4
 cases ml4 with
 | zero=>cases h
 | succ ml4 =>
 rw [Qn] at h
 exact go (tg (a:=([5,6,7,8],((),()),((),())))) h hs i c f b d trivial trivial
def Oo (n:Nat) (b:Vl):Option Int :=
 (Gu b.int ((-999999999999999)) 999999999999999).bind fun q =>
 (Gu b.scale 0 12).bind fun g =>
 (R9 n ([q,g])).bind fun h =>
 some (h)
theorem WF (w0:World) (n:Nat) (B:Ao) (Rw:Ap) (L:Aq) (a0:Vl) (r:Int) (h:Oo n a0=some r) :
  ACalls Tryz.prog w0 153 [.agg (a0.cs)] ⟨B,Rw,L⟩ fun x st=>x=Ak r/\st=⟨B,Rw,L⟩:=by
 rw [Oo] at h
 refine hd [.tmp 2] Tryz.func153 Tryz.ntmps153 fun M0 W0 f c d b g e hs=>?_
 simp only [Ax]
 exact go (tg (a:=([1],[9,2],()))) h hs f c d b e (q2 (Iu w0) (Zr w0 n)) trivial
def MK (b:Int) (g:Int) (h:Int):Option Int :=
 if decide (g<b) then
  AM
 else
  some (0)
theorem Pj (w0:World) (B:Ao) (Rw:Ap) (L:Aq) (a0:Int) (a1:Int) (a2:Int) (r:Int) (h:MK a0 a1 a2=some r) :
  ACalls Tryz.prog w0 156 [Ak a0,Ak a1,Ak a2] ⟨B,Rw,L⟩ fun x st=>x=Ak r/\st=⟨B,Rw,L⟩:=by
 rw [MK] at h
 refine hd [.tmp 6] Tryz.func156 Tryz.ntmps156 fun M0 W0 f c d b g e hs=>?_
 simp only [Ax]
 exact go (tg (a:=([0,1,2],[2,9],((),()),[],[6],()))) h hs f c d b e trivial trivial
def Oh (b:Vl):Option Int :=
 (MK (b.text.size:Int) 1024 5).bind fun g =>
 if decide (g=0) then
  if b.text.size<=maxLen then
   if !(Lib.validD b.text.data.toList) then
    AM
   else
    AM
  else none
 else
  some (g)
theorem Xw (w0:World) (hT:Lib.Utf8Tabs 1 2 w0) (B:Ao) (Rw:Ap) (L:Aq) (a0:Vl) (r:Int) (h:Oh a0=some r) :
  ACalls Tryz.prog w0 155 [.agg (a0.cs)] ⟨B,Rw,L⟩ fun x st=>x=Ak r/\st=⟨B,Rw,L⟩:=by
 rw [Oh] at h
 refine hd [.tmp 2] Tryz.func155 Tryz.ntmps155 fun M0 W0 f c d b g e hs=>?_
 simp only [Ax]
 exact go (tg (a:=([1],[1,3],([3,15],((),()),((),())),[3,15],[3],[2],()))) h hs f c d b e (q2 (Pj w0) (Zl w0)) trivial
def OI (b:Vl):Option Int :=
 (MK (b.text.size:Int) 1024 5).bind fun g =>
 some (g)
theorem Xj (w0:World) (B:Ao) (Rw:Ap) (L:Aq) (a0:Vl) (r:Int) (h:OI a0=some r) :
  ACalls Tryz.prog w0 158 [.agg (a0.cs)] ⟨B,Rw,L⟩ fun x st=>x=Ak r/\st=⟨B,Rw,L⟩:=by
 rw [OI] at h
 refine hd [.tmp 2] Tryz.func158 Tryz.ntmps158 fun M0 W0 f c d b g e hs=>?_
 simp only [Ax]
 exact go (tg (a:=([1],[2],()))) h hs f c d b e (q1 (Pj w0)) trivial
def Oz (b:Vl):Option Int :=
 (Gu b.int ((-719162)) 2932896).bind fun g =>
 some (g)
theorem Xf (w0:World) (B:Ao) (Rw:Ap) (L:Aq) (a0:Vl) (r:Int) (h:Oz a0=some r) :
  ACalls Tryz.prog w0 159 [.agg (a0.cs)] ⟨B,Rw,L⟩ fun x st=>x=Ak r/\st=⟨B,Rw,L⟩:=by
 rw [Oz] at h
 refine hd [.tmp 2] Tryz.func159 Tryz.ntmps159 fun M0 W0 f c d b g e hs=>?_
 simp only [Ax]
 exact go (tg (a:=([1],[2],()))) h hs f c d b e (q1 (Iu w0)) trivial
def OG (b:Vl):Option Int :=
 (Gu b.int ((-62135596800000)) 253402300799999).bind fun g =>
 some (g)
theorem WT (w0:World) (B:Ao) (Rw:Ap) (L:Aq) (a0:Vl) (r:Int) (h:OG a0=some r) :
  ACalls Tryz.prog w0 160 [.agg (a0.cs)] ⟨B,Rw,L⟩ fun x st=>x=Ak r/\st=⟨B,Rw,L⟩:=by
 rw [OG] at h
 refine hd [.tmp 2] Tryz.func160 Tryz.ntmps160 fun M0 W0 f c d b g e hs=>?_
 simp only [Ax]
 exact go (tg (a:=([1],[2],()))) h hs f c d b e (q1 (Iu w0)) trivial
def Om (b:Vl):Option Int :=
 (MK (b.list.length:Int) 256 9).bind fun g =>
 some (g)
theorem WX (w0:World) (B:Ao) (Rw:Ap) (L:Aq) (a0:Vl) (r:Int) (h:Om a0=some r) :
  ACalls Tryz.prog w0 161 [.agg (a0.cs)] ⟨B,Rw,L⟩ fun x st=>x=Ak r/\st=⟨B,Rw,L⟩:=by
 rw [Om] at h
 refine hd [.tmp 2] Tryz.func161 Tryz.ntmps161 fun M0 W0 f c d b g e hs=>?_
 simp only [Ax]
 exact go (tg (a:=([1],[2],()))) h hs f c d b e (q1 (Pj w0)) trivial
def Nu (n:Nat)  : Option Int :=
 some (0)
def HW (n:Nat) (h:Vl):Nat->Int->Option Int
 | 0,_=>none
 | m+1,b =>
  if decide (b<(h.fields.length:Int)) then
   (Dw h.fields b).bind fun g =>
   if g.1.size<=maxLen then
    if !(QK g.1) then
     AM
    else
     if decide (0<b) then
      if BN (b-1) then
       (Dw h.fields (b-1)).bind fun q =>
       if MY g.1 q.1 then
        AM
       else
        if BN (b-1) then
         if sLt g.1 q.1 then
          AM
         else
          if BN (b+1) then
           (HW n h m) (b+1)
          else none
        else none
      else none
     else
      if BN (b+1) then
       (HW n h m) (b+1)
      else none
   else none
  else
   Nu n 
def OJ (n:Nat) (b:Vl):Option Int :=
 (MK (b.fields.length:Int) 64 9).bind fun g =>
 if !(decide (g=0)) then
  AM
 else
  HW n b n 0
theorem WW (w0:World) (n:Nat) (B:Ao) (Rw:Ap) (L:Aq) (a0:Vl) (r:Int) (h:OJ n a0=some r) :
  ACalls Tryz.prog w0 162 [.agg (a0.cs)] ⟨B,Rw,L⟩ fun x st=>x=Ak r/\st=⟨B,Rw,L⟩:=by
 rw [OJ] at h
 refine hd [.tmp 2] Tryz.func162 Tryz.ntmps162 fun M0 W0 o i j c q d hs=>?_
 simp only [Ax]
 refine rg [1] hs ?_
 apply Am;intro K2 f
 obtain ⟨p,k,h⟩:=bind_some h
 refine rc 2 [1,3] hs ?_;intro K3 g
 refine Av _ (Pj w0 _ _ _ (a0.fields.length:Int) 64 9 _ k) (hv hs) ?_
 refine ne hs g ?_
 clear g
 refine rg [1,3,11] hs ?_
 refine B6 h hs ?_ ?_<;>intro hs h
 ·exact nS h
 refine sk [1] hs f ?_
 clear f
 refine AD (fun e st=>Ck e st B Rw L [] [a0.cs] [] (Nu n  = some r)) ?_ ?_
 ·intro K9 l
  refine rg [1,14,15,16] hs ?_
  apply Ar
  refine AA (fun m e st=>∃ (b:Int),Ck e st B Rw L [(1,true,.box B.length 0),(14,true,.list (a0.fields.map Di) .none),(15,true,Ak (a0.fields.length:Int)),(16,true,Ak b)] [a0.cs] [] (HW n a0 m b=some r)) n ⟨0,([]),Rw,ef hs,ef hs,d,h⟩ ?_
  rintro ml11 e st ⟨b,Xl11,Rl11,rfl,rfl,d,h⟩ Ul11 Vl11
  cases ml11 with
  | zero=>cases h
  | succ ml11 =>
  rw [HW] at h
  exact go (tg (a:=([1,14,15,16,17],([1,14,15,16],[1,4,5,14,15,16],[1,4,5,14,15,16,21],((),()),([15,1,4,5,14,15,16,26],((),()),[15,1,14,15,16,41],((),()),[1,14,15,16],[1,14,15,16],()),[15,1,4,5,14,15,16,26],[15,1,14,15,16,41],[1,14,15,16],[1,14,15,16],()),[],()))) h hs o i j c d (q1 (Pe w0)) (q2 l (fun e s=>Vl11 ml11 e s (Nat.lt_succ_self _)))
 ·clear h;rintro e st ⟨Xk8,Rk8,rfl,rfl,d,h⟩
  rw [Nu] at h
  refine td o i j c d ?_
  refine rg [2] hs ?_
  exact rt h hs c d
def Q1 (b:Vl):Bool :=
 (((((((((decide (b.kind=1))||(decide (b.kind=2)))||(decide (b.kind=6)))||(decide (b.kind=7)))||(decide (b.kind=3)))||(decide (b.int=0)))&&((decide (b.kind=3))||(decide (b.scale=0))))&&((((decide (b.kind=4))||(decide (b.kind=5)))||(decide (b.kind=10)))||(MY b.text (⟨#[]⟩:ByteArray))))&&(((decide (b.kind=8))||(decide (b.kind=10)))||(decide ((b.list.length:Int)=0))))&&((decide (b.kind=9))||(decide ((b.fields.length:Int)=0)))
theorem Zbj (w0:World) (B:Ao) (Rw:Ap) (L:Aq) (a0:Vl) (r:Bool) (h:Q1 a0=r) :
  ACalls Tryz.prog w0 117 [.agg (a0.cs)] ⟨B,Rw,L⟩ fun x st=>x = .val (.bool r)/\st=⟨B,Rw,L⟩:=by
 rw [Q1] at h
 refine hd [.tmp 2] Tryz.func117 Tryz.ntmps117 fun M0 W0 f c d b g e hs=>?_
 simp only [Ax]
 exact go (tg (a:=([1],[1,3],[1,3,4],[1,3,4,5],[2],()))) h (al hs) f c d b e trivial trivial
theorem Zk (w0:World) (B:Ao) (Rw:Ap) (L:Aq) (a0:Vl) :
  ACalls Tryz.prog w0 117 [.agg (a0.cs)] ⟨B,Rw,L⟩ fun x st=>x = .val (.bool (Q1 a0))/\st=⟨B,Rw,L⟩:=Zbj w0 B Rw L a0 _ rfl
def Dz (n:Nat)  : List (Nat × Vl)->Int->Option Int
 | [],b3_r7 =>
  some (0)
 | p_r7::rest,b3_r7 =>
  if BN (b3_r7+1) then
   if decide (4096<(b3_r7+1)) then
    AM
   else
    if decide (8<(p_r7.1:Int)) then
     AM
    else
     if ES p_r7.2 then
      AM
     else
      if (decide (p_r7.2.kind<1))||(decide (10<p_r7.2.kind)) then
       AM
      else
       if !(Q1 p_r7.2) then
        AM
       else
        if decide (p_r7.2.kind=0) then
         none
        else
         if decide (p_r7.2.kind=1) then
          (OR p_r7.2).bind fun y27 =>
          if !(decide (y27=0)) then
           AM
          else
           (Dz n rest) (b3_r7+1)
         else
          if decide (p_r7.2.kind=2) then
           (OK p_r7.2).bind fun y32 =>
           if !(decide (y32=0)) then
            AM
           else
            (Dz n rest) (b3_r7+1)
          else
           if decide (p_r7.2.kind=3) then
            (Oo n p_r7.2).bind fun h =>
            if !(decide (h=0)) then
             AM
            else
             (Dz n rest) (b3_r7+1)
           else
            if decide (p_r7.2.kind=4) then
             (Oh p_r7.2).bind fun y =>
             if !(decide (y=0)) then
              AM
             else
              (Dz n rest) (b3_r7+1)
            else
             if decide (p_r7.2.kind=5) then
              (OI p_r7.2).bind fun y47 =>
              if !(decide (y47=0)) then
               AM
              else
               (Dz n rest) (b3_r7+1)
             else
              if decide (p_r7.2.kind=6) then
               (Oz p_r7.2).bind fun g =>
               if !(decide (g=0)) then
                AM
               else
                (Dz n rest) (b3_r7+1)
              else
               if decide (p_r7.2.kind=7) then
                (OG p_r7.2).bind fun y57 =>
                if !(decide (y57=0)) then
                 AM
                else
                 (Dz n rest) (b3_r7+1)
               else
                if decide (p_r7.2.kind=8) then
                 (Om p_r7.2).bind fun y62 =>
                 if !(decide (y62=0)) then
                  AM
                 else
                  (Dz n rest) (b3_r7+1)
                else
                 if decide (p_r7.2.kind=9) then
                  (OJ n p_r7.2).bind fun q =>
                  if !(decide (q=0)) then
                   AM
                  else
                   (Dz n rest) (b3_r7+1)
                 else
                  if decide (p_r7.2.kind=10) then
                   (NH p_r7.2).bind fun b =>
                   if !(decide (b=0)) then
                    AM
                   else
                    (Dz n rest) (b3_r7+1)
                  else
                   none
  else none
def RL (n:Nat) (b:Vl):Option Int :=
 if b.depth<4611686018427387904/\b.wide=true then
  Dz n (JR 1 b) 0
 else none
theorem ZF (w0:World) (hT:Lib.Utf8Tabs 1 2 w0) (n:Nat) (B:Ao) (Rw:Ap) (L:Aq) (a0:Vl) (r:Int) (h:RL n a0=some r) :
  ACalls Tryz.prog w0 84 [.agg (a0.cs)] ⟨B,Rw,L⟩ fun x st=>x=Ak r/\st=⟨B,Rw,L⟩:=by
 rw [RL] at h
 refine hd [.cell 2 89] Tryz.func84 Tryz.ntmps84 fun M0 W0 hN ad af j hu e hs=>?_
 simp only [Ax]
 refine rg [1,2] hs ?_
 apply Am;intro K2 G
 apply As 2 [1,2,3]
 rw [An];simp +decide only [go_sem,Nat.reduceAdd,Vr]
 (repeat' apply Ad)<;>first | refine Av _ (Zdn w0 _ _ _ ) (by first | rfl | (simp +decide only [go_sem,Nat.reduceAdd,Vr];done) | (simp +decide only [go_sem,Nat.reduceAdd,Vl.cs,Ty.cs,Vr];done)) ?_ | exact cl
 rw [An];simp +decide only [go_sem,Nat.reduceAdd,Vr]
 (repeat' apply Ad)<;>first | refine G _ _ ?_ | exact cl
 clear G
 refine rg [1,2,3,4] hs ?_
 apply Am;intro K4 w
 refine rc 2 [2,3,4,10] hs ?_;intro K5 H
 refine BE _ (Yi w0 _ _ _ a0) (hv hs) ?_;rintro _ _ ⟨rfl,rfl⟩
 refine ne hs H ?_
 clear H
 apply Ar
 obtain ⟨ae,h⟩:=Au h
 refine Wp (Ll a0) (fun st=>st.boxes[(B.length+4)]? = some a0.cs) (fun i st=>∃ (c:Int) (Rr7:Ap),st=⟨B++([a0.cs,[Ak 0],[.val .nilFunc,.clo 150 [],.clo 152 [],.clo 153 [],.clo 155 [],.clo 158 [],.clo 159 [],.clo 160 [],.clo 161 [],.clo 162 [],.clo 164 []],[Ak c],a0.cs]),Rr7,L⟩/\Owns Rw Rr7 []/\Dz n ((JR 1 a0).drop i) c=some r) (fun ex st=>ex = .ret/\∃ (z0:List AV) (z2:List AV) (z3:List AV) (z4:List AV) (rows:Ap),st=⟨B++[z0,[Ak r],z2,z3,z4],rows,L⟩/\Owns Rw rows []) ev ev (Vy w0 a0 ae _) (fun x hx=>Z4 a0 x hx) (by decide) ?_ ⟨0,Rw,ef hs,e,h⟩ (fun _ _ h => .inl h.1) ?_ ?_ ?_
 ·rintro i st la ⟨c,Rr7,rfl,e,h⟩ _ _;simp +decide [St.push]
 ·rintro i s1 ⟨XB,XR,XL⟩ x M1 W1 l la au hX hI ah ab hx f K hK
  obtain ⟨a,ag,rfl,hi⟩:=Y8 a0 i x hx
  (try simp only at hX)
  subst hX
  obtain ⟨c,Rr7,rfl,e,h⟩:=hI
  rw [XX ag,Dz] at h
  have b:=e
  simp only [St.ext,St.push,List.append_assoc,List.append_nil]
  refine rg [2,3,4,5,12] hs ?_
  apply As 1 [2,3,4,5,6]
  rw [An];simp +decide only [go_sem,Nat.reduceAdd]
  (repeat' apply Ad)<;>first | refine hK _ _ (by simp [St.ext,St.push]) (fun KQ g=>?_) | exact cl
  clear hK
  dsimp only [St.ext,St.push]
  apply Ar
  obtain ⟨aj,h⟩:=Au h
  refine rg [2,3,4,5,6] hs ?_
  apply Am;intro K11 o
  apply Ar
  refine rg [2,3,5,6,15] hs ?_
  refine B6 h hs ?_ ?_<;>intro hs h
  ·exact nS h
  refine rg [2,3,6,18] hs ?_
  refine B6 h hs ?_ ?_<;>intro hs h
  ·exact nS h
  refine rc 2 [2,3,6,21] hs ?_;intro K16 m
  refine Av _ (Gw w0 _ _ _ a.2) (hv hs) ?_
  refine ne hs m ?_
  clear m
  refine B6 h hs ?_ ?_<;>intro hs h
  ·exact nS h
  refine rg [2,3,6,24] hs ?_
  refine B6 h hs ?_ ?_<;>intro hs h
  ·exact nS h
  refine rc 2 [2,3,6,33] hs ?_;intro K20 k
  refine Av _ (Zk w0 _ _ _ a.2) (hv hs) ?_
  refine ne hs k ?_
  clear k
  refine B6 h hs ?_ ?_<;>intro hs h
  ·exact nS h
  refine sk [2,3,6] hs o ?_
  clear o
  apply Am;intro K22 d
  rcases Bool.eq_false_or_eq_true (decide (a.2.kind=0)) with hf23 | hf23
  ·replace h:=Cj h hf23
   have ai:a.2.kind=0:=of_decide_eq_true hf23
   cases h
  ·replace h:=Cm h hf23
   rcases Bool.eq_false_or_eq_true (decide (a.2.kind=1)) with hf25 | hf25
   ·replace h:=Cj h hf25
    have z:a.2.kind=1:=of_decide_eq_true hf25
    obtain ⟨aq,O,h⟩:=bind_some h
    have hs:=Ad hf23 hs
    have hs:=Ad hf25 hs
    have hs:=Ad z hs
    refine dk 7 2 1 [2,7] hs G6 ?_
    refine Av _ (Xa w0 _ _ _ a.2 _ O) (hv hs) ?_
    refine dn hs d ?_
    clear d
    refine rg [2,7,44] hs ?_
    refine B6 h hs ?_ ?_<;>intro hs h
    ·exact nS h
    refine EZ (C9 [] _) ?_ (BI _ _)
    apply Bq;simp +decide only [go_sem,Nat.reduceAdd]
    (repeat' apply Ad)<;>first | refine g _ _ _ ⟨⟨B++[a0.cs,[Ak 0],[.val .nilFunc,.clo 150 [],.clo 152 [],.clo 153 [],.clo 155 [],.clo 158 [],.clo 159 [],.clo 160 [],.clo 161 [],.clo 162 [],.clo 164 []],[Ak (c+1)],a0.cs],Rr7,L⟩,[a.2.cs],by first | rfl | (simp only [List.append_assoc,List.append_nil,List.cons_append,List.nil_append];done),⟨by simp,by first | exact Nat.le_refl _ | (have:=e.len;simp;omega),rfl⟩,rfl,⟨(c+1),Rr7,ef hs,e,h⟩,?_⟩ | exact cl
    exact .inr (EQ f b e rfl (ln e b) ap_ ow)
   ·replace h:=Cm h hf25
    rcases Bool.eq_false_or_eq_true (decide (a.2.kind=2)) with hf30 | hf30
    ·replace h:=Cj h hf30
     have p:a.2.kind=2:=of_decide_eq_true hf30
     obtain ⟨ay,E,h⟩:=bind_some h
     have hs:=Ad hf23 hs
     have hs:=Ad hf25 hs
     have hs:=Ad hf30 hs
     have hs:=Ad p hs
     refine dk 7 2 1 [2,7] hs G6 ?_
     refine Av _ (Xi w0 _ _ _ a.2 _ E) (hv hs) ?_
     refine dn hs d ?_
     clear d
     refine rg [2,7,44] hs ?_
     refine B6 h hs ?_ ?_<;>intro hs h
     ·exact nS h
     refine EZ (C9 [] _) ?_ (BI _ _)
     apply Bq;simp +decide only [go_sem,Nat.reduceAdd]
     (repeat' apply Ad)<;>first | refine g _ _ _ ⟨⟨B++[a0.cs,[Ak 0],[.val .nilFunc,.clo 150 [],.clo 152 [],.clo 153 [],.clo 155 [],.clo 158 [],.clo 159 [],.clo 160 [],.clo 161 [],.clo 162 [],.clo 164 []],[Ak (c+1)],a0.cs],Rr7,L⟩,[a.2.cs],by first | rfl | (simp only [List.append_assoc,List.append_nil,List.cons_append,List.nil_append];done),⟨by simp,by first | exact Nat.le_refl _ | (have:=e.len;simp;omega),rfl⟩,rfl,⟨(c+1),Rr7,ef hs,e,h⟩,?_⟩ | exact cl
     exact .inr (EQ f b e rfl (ln e b) ap_ ow)
    ·replace h:=Cm h hf30
     rcases Bool.eq_false_or_eq_true (decide (a.2.kind=3)) with hf35 | hf35
     ·replace h:=Cj h hf35
      have Y:a.2.kind=3:=of_decide_eq_true hf35
      obtain ⟨aw,J,h⟩:=bind_some h
      have hs:=Ad hf23 hs
      have hs:=Ad hf25 hs
      have hs:=Ad hf30 hs
      have hs:=Ad hf35 hs
      have hs:=Ad Y hs
      refine dk 7 2 1 [2,7] hs G6 ?_
      refine Av _ (WF w0 n _ _ _ a.2 _ J) (hv hs) ?_
      refine dn hs d ?_
      clear d
      refine rg [2,7,44] hs ?_
      refine B6 h hs ?_ ?_<;>intro hs h
      ·exact nS h
      refine EZ (C9 [] _) ?_ (BI _ _)
      apply Bq;simp +decide only [go_sem,Nat.reduceAdd]
      (repeat' apply Ad)<;>first | refine g _ _ _ ⟨⟨B++[a0.cs,[Ak 0],[.val .nilFunc,.clo 150 [],.clo 152 [],.clo 153 [],.clo 155 [],.clo 158 [],.clo 159 [],.clo 160 [],.clo 161 [],.clo 162 [],.clo 164 []],[Ak (c+1)],a0.cs],Rr7,L⟩,[a.2.cs],by first | rfl | (simp only [List.append_assoc,List.append_nil,List.cons_append,List.nil_append];done),⟨by simp,by first | exact Nat.le_refl _ | (have:=e.len;simp;omega),rfl⟩,rfl,⟨(c+1),Rr7,ef hs,e,h⟩,?_⟩ | exact cl
      exact .inr (EQ f b e rfl (ln e b) ap_ ow)
     ·replace h:=Cm h hf35
      rcases Bool.eq_false_or_eq_true (decide (a.2.kind=4)) with hf40 | hf40
      ·replace h:=Cj h hf40
       have D:a.2.kind=4:=of_decide_eq_true hf40
       obtain ⟨am,Q,h⟩:=bind_some h
       have hs:=Ad hf23 hs
       have hs:=Ad hf25 hs
       have hs:=Ad hf30 hs
       have hs:=Ad hf35 hs
       have hs:=Ad hf40 hs
       have hs:=Ad D hs
       refine dk 7 2 1 [2,7] hs G6 ?_
       refine Av _ (Xw w0 hT _ _ _ a.2 _ Q) (hv hs) ?_
       refine dn hs d ?_
       clear d
       refine rg [2,7,44] hs ?_
       refine B6 h hs ?_ ?_<;>intro hs h
       ·exact nS h
       refine EZ (C9 [] _) ?_ (BI _ _)
       apply Bq;simp +decide only [go_sem,Nat.reduceAdd]
       (repeat' apply Ad)<;>first | refine g _ _ _ ⟨⟨B++[a0.cs,[Ak 0],[.val .nilFunc,.clo 150 [],.clo 152 [],.clo 153 [],.clo 155 [],.clo 158 [],.clo 159 [],.clo 160 [],.clo 161 [],.clo 162 [],.clo 164 []],[Ak (c+1)],a0.cs],Rr7,L⟩,[a.2.cs],by first | rfl | (simp only [List.append_assoc,List.append_nil,List.cons_append,List.nil_append];done),⟨by simp,by first | exact Nat.le_refl _ | (have:=e.len;simp;omega),rfl⟩,rfl,⟨(c+1),Rr7,ef hs,e,h⟩,?_⟩ | exact cl
       exact .inr (EQ f b e rfl (ln e b) ap_ ow)
      ·replace h:=Cm h hf40
       rcases Bool.eq_false_or_eq_true (decide (a.2.kind=5)) with hf45 | hf45
       ·replace h:=Cj h hf45
        have u:a.2.kind=5:=of_decide_eq_true hf45
        obtain ⟨ao,aa,h⟩:=bind_some h
        have hs:=Ad hf23 hs
        have hs:=Ad hf25 hs
        have hs:=Ad hf30 hs
        have hs:=Ad hf35 hs
        have hs:=Ad hf40 hs
        have hs:=Ad hf45 hs
        have hs:=Ad u hs
        refine dk 7 2 1 [2,7] hs G6 ?_
        refine Av _ (Xj w0 _ _ _ a.2 _ aa) (hv hs) ?_
        refine dn hs d ?_
        clear d
        refine rg [2,7,44] hs ?_
        refine B6 h hs ?_ ?_<;>intro hs h
        ·exact nS h
        refine EZ (C9 [] _) ?_ (BI _ _)
        apply Bq;simp +decide only [go_sem,Nat.reduceAdd]
        (repeat' apply Ad)<;>first | refine g _ _ _ ⟨⟨B++[a0.cs,[Ak 0],[.val .nilFunc,.clo 150 [],.clo 152 [],.clo 153 [],.clo 155 [],.clo 158 [],.clo 159 [],.clo 160 [],.clo 161 [],.clo 162 [],.clo 164 []],[Ak (c+1)],a0.cs],Rr7,L⟩,[a.2.cs],by first | rfl | (simp only [List.append_assoc,List.append_nil,List.cons_append,List.nil_append];done),⟨by simp,by first | exact Nat.le_refl _ | (have:=e.len;simp;omega),rfl⟩,rfl,⟨(c+1),Rr7,ef hs,e,h⟩,?_⟩ | exact cl
        exact .inr (EQ f b e rfl (ln e b) ap_ ow)
       ·replace h:=Cm h hf45
        rcases Bool.eq_false_or_eq_true (decide (a.2.kind=6)) with hf50 | hf50
        ·replace h:=Cj h hf50
         have t:a.2.kind=6:=of_decide_eq_true hf50
         obtain ⟨ak,F,h⟩:=bind_some h
         have hs:=Ad hf23 hs
         have hs:=Ad hf25 hs
         have hs:=Ad hf30 hs
         have hs:=Ad hf35 hs
         have hs:=Ad hf40 hs
         have hs:=Ad hf45 hs
         have hs:=Ad hf50 hs
         have hs:=Ad t hs
         refine dk 7 2 1 [2,7] hs G6 ?_
         refine Av _ (Xf w0 _ _ _ a.2 _ F) (hv hs) ?_
         refine dn hs d ?_
         clear d
         refine rg [2,7,44] hs ?_
         refine B6 h hs ?_ ?_<;>intro hs h
         ·exact nS h
         refine EZ (C9 [] _) ?_ (BI _ _)
         apply Bq;simp +decide only [go_sem,Nat.reduceAdd]
         (repeat' apply Ad)<;>first | refine g _ _ _ ⟨⟨B++[a0.cs,[Ak 0],[.val .nilFunc,.clo 150 [],.clo 152 [],.clo 153 [],.clo 155 [],.clo 158 [],.clo 159 [],.clo 160 [],.clo 161 [],.clo 162 [],.clo 164 []],[Ak (c+1)],a0.cs],Rr7,L⟩,[a.2.cs],by first | rfl | (simp only [List.append_assoc,List.append_nil,List.cons_append,List.nil_append];done),⟨by simp,by first | exact Nat.le_refl _ | (have:=e.len;simp;omega),rfl⟩,rfl,⟨(c+1),Rr7,ef hs,e,h⟩,?_⟩ | exact cl
         exact .inr (EQ f b e rfl (ln e b) ap_ ow)
        ·replace h:=Cm h hf50
         rcases Bool.eq_false_or_eq_true (decide (a.2.kind=7)) with hf55 | hf55
         ·replace h:=Cj h hf55
          have Z:a.2.kind=7:=of_decide_eq_true hf55
          obtain ⟨ar,N,h⟩:=bind_some h
          have hs:=Ad hf23 hs
          have hs:=Ad hf25 hs
          have hs:=Ad hf30 hs
          have hs:=Ad hf35 hs
          have hs:=Ad hf40 hs
          have hs:=Ad hf45 hs
          have hs:=Ad hf50 hs
          have hs:=Ad hf55 hs
          have hs:=Ad Z hs
          refine dk 7 2 1 [2,7] hs G6 ?_
          refine Av _ (WT w0 _ _ _ a.2 _ N) (hv hs) ?_
          refine dn hs d ?_
          clear d
          refine rg [2,7,44] hs ?_
          refine B6 h hs ?_ ?_<;>intro hs h
          ·exact nS h
          refine EZ (C9 [] _) ?_ (BI _ _)
          apply Bq;simp +decide only [go_sem,Nat.reduceAdd]
          (repeat' apply Ad)<;>first | refine g _ _ _ ⟨⟨B++[a0.cs,[Ak 0],[.val .nilFunc,.clo 150 [],.clo 152 [],.clo 153 [],.clo 155 [],.clo 158 [],.clo 159 [],.clo 160 [],.clo 161 [],.clo 162 [],.clo 164 []],[Ak (c+1)],a0.cs],Rr7,L⟩,[a.2.cs],by first | rfl | (simp only [List.append_assoc,List.append_nil,List.cons_append,List.nil_append];done),⟨by simp,by first | exact Nat.le_refl _ | (have:=e.len;simp;omega),rfl⟩,rfl,⟨(c+1),Rr7,ef hs,e,h⟩,?_⟩ | exact cl
          exact .inr (EQ f b e rfl (ln e b) ap_ ow)
         ·replace h:=Cm h hf55
          rcases Bool.eq_false_or_eq_true (decide (a.2.kind=8)) with hf60 | hf60
          ·replace h:=Cj h hf60
           have q:a.2.kind=8:=of_decide_eq_true hf60
           obtain ⟨ax,C,h⟩:=bind_some h
           have hs:=Ad hf23 hs
           have hs:=Ad hf25 hs
           have hs:=Ad hf30 hs
           have hs:=Ad hf35 hs
           have hs:=Ad hf40 hs
           have hs:=Ad hf45 hs
           have hs:=Ad hf50 hs
           have hs:=Ad hf55 hs
           have hs:=Ad hf60 hs
           have hs:=Ad q hs
           refine dk 7 2 1 [2,7] hs G6 ?_
           refine Av _ (WX w0 _ _ _ a.2 _ C) (hv hs) ?_
           refine dn hs d ?_
           clear d
           refine rg [2,7,44] hs ?_
           refine B6 h hs ?_ ?_<;>intro hs h
           ·exact nS h
           refine EZ (C9 [] _) ?_ (BI _ _)
           apply Bq;simp +decide only [go_sem,Nat.reduceAdd]
           (repeat' apply Ad)<;>first | refine g _ _ _ ⟨⟨B++[a0.cs,[Ak 0],[.val .nilFunc,.clo 150 [],.clo 152 [],.clo 153 [],.clo 155 [],.clo 158 [],.clo 159 [],.clo 160 [],.clo 161 [],.clo 162 [],.clo 164 []],[Ak (c+1)],a0.cs],Rr7,L⟩,[a.2.cs],by first | rfl | (simp only [List.append_assoc,List.append_nil,List.cons_append,List.nil_append];done),⟨by simp,by first | exact Nat.le_refl _ | (have:=e.len;simp;omega),rfl⟩,rfl,⟨(c+1),Rr7,ef hs,e,h⟩,?_⟩ | exact cl
           exact .inr (EQ f b e rfl (ln e b) ap_ ow)
          ·replace h:=Cm h hf60
           rcases Bool.eq_false_or_eq_true (decide (a.2.kind=9)) with hf65 | hf65
           ·replace h:=Cj h hf65
            have y:a.2.kind=9:=of_decide_eq_true hf65
            obtain ⟨ap,U,h⟩:=bind_some h
            have hs:=Ad hf23 hs
            have hs:=Ad hf25 hs
            have hs:=Ad hf30 hs
            have hs:=Ad hf35 hs
            have hs:=Ad hf40 hs
            have hs:=Ad hf45 hs
            have hs:=Ad hf50 hs
            have hs:=Ad hf55 hs
            have hs:=Ad hf60 hs
            have hs:=Ad hf65 hs
            have hs:=Ad y hs
            refine dk 7 2 1 [2,7] hs G6 ?_
            refine Av _ (WW w0 n _ _ _ a.2 _ U) (hv hs) ?_
            refine dn hs d ?_
            clear d
            refine rg [2,7,44] hs ?_
            refine B6 h hs ?_ ?_<;>intro hs h
            ·exact nS h
            refine EZ (C9 [] _) ?_ (BI _ _)
            apply Bq;simp +decide only [go_sem,Nat.reduceAdd]
            (repeat' apply Ad)<;>first | refine g _ _ _ ⟨⟨B++[a0.cs,[Ak 0],[.val .nilFunc,.clo 150 [],.clo 152 [],.clo 153 [],.clo 155 [],.clo 158 [],.clo 159 [],.clo 160 [],.clo 161 [],.clo 162 [],.clo 164 []],[Ak (c+1)],a0.cs],Rr7,L⟩,[a.2.cs],by first | rfl | (simp only [List.append_assoc,List.append_nil,List.cons_append,List.nil_append];done),⟨by simp,by first | exact Nat.le_refl _ | (have:=e.len;simp;omega),rfl⟩,rfl,⟨(c+1),Rr7,ef hs,e,h⟩,?_⟩ | exact cl
            exact .inr (EQ f b e rfl (ln e b) ap_ ow)
           ·replace h:=Cm h hf65
            rcases Bool.eq_false_or_eq_true (decide (a.2.kind=10)) with hf70 | hf70
            ·replace h:=Cj h hf70
             have V:a.2.kind=10:=of_decide_eq_true hf70
             obtain ⟨av,v,h⟩:=bind_some h
             have hs:=Ad hf23 hs
             have hs:=Ad hf25 hs
             have hs:=Ad hf30 hs
             have hs:=Ad hf35 hs
             have hs:=Ad hf40 hs
             have hs:=Ad hf45 hs
             have hs:=Ad hf50 hs
             have hs:=Ad hf55 hs
             have hs:=Ad hf60 hs
             have hs:=Ad hf65 hs
             have hs:=Ad hf70 hs
             have hs:=Ad V hs
             refine dk 7 2 1 [2,7] hs G6 ?_
             refine Av _ (VQ w0 _ _ _ a.2 _ v) (hv hs) ?_
             refine dn hs d ?_
             clear d
             refine rg [2,7,44] hs ?_
             refine B6 h hs ?_ ?_<;>intro hs h
             ·exact nS h
             refine EZ (C9 [] _) ?_ (BI _ _)
             apply Bq;simp +decide only [go_sem,Nat.reduceAdd]
             (repeat' apply Ad)<;>first | refine g _ _ _ ⟨⟨B++[a0.cs,[Ak 0],[.val .nilFunc,.clo 150 [],.clo 152 [],.clo 153 [],.clo 155 [],.clo 158 [],.clo 159 [],.clo 160 [],.clo 161 [],.clo 162 [],.clo 164 []],[Ak (c+1)],a0.cs],Rr7,L⟩,[a.2.cs],by first | rfl | (simp only [List.append_assoc,List.append_nil,List.cons_append,List.nil_append];done),⟨by simp,by first | exact Nat.le_refl _ | (have:=e.len;simp;omega),rfl⟩,rfl,⟨(c+1),Rr7,ef hs,e,h⟩,?_⟩ | exact cl
             exact .inr (EQ f b e rfl (ln e b) ap_ ow)
            ·replace h:=Cm h hf70
             cases h
 ·rintro s la ⟨XB,XR,XL⟩ hXR ⟨c,Rr7,rfl,e,h⟩ _ _
  simp only at hXR
  subst hXR
  rw [List.drop_eq_nil_of_le (by rw [Vx];exact Nat.le_refl _),Dz] at h
  simp only [St.ext,St.push,List.append_assoc,List.append_nil]
  (repeat' apply Ad)<;>first | refine w _ _ ?_ | exact cl
  clear w
  refine Wb (bs:=[a0.cs,[Ak 0],[.val .nilFunc,.clo 150 [],.clo 152 [],.clo 153 [],.clo 155 [],.clo 158 [],.clo 159 [],.clo 160 [],.clo 161 [],.clo 162 [],.clo 164 []],[Ak c],a0.cs]) hN ad af rfl j e ow ow ?_
  refine rg [2] hs ?_
  exact rt h hs j e
 ·rintro ex s la ⟨XB,XR,XL⟩ hXR ⟨rfl,z0,z2,z3,z4,rows,rfl,e⟩ _ _
  simp only at hXR
  subst hXR
  simp only [St.ext,St.push,List.append_assoc,List.append_nil]
  simp +decide only [go_sem,Nat.reduceAdd]
  (repeat' with_reducible apply Ad)<;>first | refine Zl6 j rfl e.pre ev ⟨?_,rfl⟩ | (intros;omega) | (intros;simp_all;done)
  first | rfl | (simp +decide only [go_sem,Nat.reduceAdd];done)
def Gq (n:Nat) (g:List (ByteArray × Vl)) (b:(ByteArray × Vl)->Option Bool):Option Bool :=
 (Ek n g b).bind fun h =>
 some (decide (0<=h))
theorem L0 (w0:World) (n:Nat) (B:Ao) (Rw:Ap) (L:Aq) (a0:List (ByteArray × Vl)) (fa1:FuncId) (ca1:List AV) (a1:(ByteArray × Vl)->Option Bool) (ha1:∀ (x0:ByteArray × Vl) r,a1 x0=some r->∀ B' rows,B <+: B'->Rw <+: rows->ACalls Tryz.prog w0 fa1 ([.agg (.val (.string x0.1)::(x0.2.cs))]++ca1) ⟨B',rows,L⟩ fun v s=>v = .val (.bool r)/\s=⟨B',rows,L⟩) (r:Bool) (h:Gq n a0 a1=some r) :
  ACalls Tryz.prog w0 108 [.list (a0.map Di) .none,.clo fa1 ca1] ⟨B,Rw,L⟩ fun x st=>x = .val (.bool r)/\st=⟨B,Rw,L⟩:=by
 rw [Gq] at h
 refine hd [.tmp 4] Tryz.func108 Tryz.ntmps108 fun M0 W0 o j l b k g hs=>?_
 simp only [Ax]
 have e:=Cc (k (.clo fa1 ca1) (by simp))
 refine rg [0,1] hs ?_
 obtain ⟨m,d,h⟩:=bind_some h
 refine rc 2 [4] hs ?_;intro K2 c
 refine Av _ (GZ w0 n _ _ _ a0 fa1 ca1 a1 (fun x0 r i f a q1 q2=>ha1 x0 r i f a (List.IsPrefix.trans px q1) (g.pre.trans q2)) _ d) (hv hs) ?_
 refine ne hs c ?_
 clear c
 exact rt h hs b g
def IR (b:ByteArray × Vl) (g:ByteArray × Vl):Bool :=
 (MY b.1 g.1)&&(!(ES b.2))
theorem VA (w0:World) (B:Ao) (Rw:Ap) (L:Aq) (a0:ByteArray × Vl) (la1:Nat) (a1:ByteArray × Vl) (hla1:B[la1]? = some (.val (.string a1.1)::(a1.2.cs))) (r:Bool) (h:IR a0 a1=r) :
  ACalls Tryz.prog w0 109 [.agg (.val (.string a0.1)::(a0.2.cs)),.box la1 0] ⟨B,Rw,L⟩ fun x st=>x = .val (.bool r)/\st=⟨B,Rw,L⟩:=by
 rw [IR] at h
 refine hd [.tmp 3] Tryz.func109 Tryz.ntmps109 fun M0 W0 i d f a g e hs=>?_
 simp only [Ax]
 have c:=(Aj.1 hla1).1
 have hs:=Ad (AH hla1) hs
 refine rg [1,2] hs ?_
 refine rc 2 [3] hs ?_;intro K2 b
 refine Jl _ (fun _=>Gw w0 _ _ _ a0.2) (hv hs) ?_
 refine ne hs b ?_
 clear b
 exact rT h hs a e
theorem Va (w0:World) (B:Ao) (Rw:Ap) (L:Aq) (a0:ByteArray × Vl) (la1:Nat) (a1:ByteArray × Vl) (hla1:B[la1]? = some (.val (.string a1.1)::(a1.2.cs))) :
  ACalls Tryz.prog w0 109 [.agg (.val (.string a0.1)::(a0.2.cs)),.box la1 0] ⟨B,Rw,L⟩ fun x st=>x = .val (.bool (IR a0 a1))/\st=⟨B,Rw,L⟩:=VA w0 B Rw L a0 la1 a1 hla1 _ rfl
structure VPre (Rw rows:Ap):Prop where
 pre:Rw <+: rows
def ZlD:ByteArray × Vl:=(⟨#[]⟩,Vl.mk 0 0 0 ⟨#[]⟩ [] [])
def N2 (l:List (ByteArray × Vl)):List (ByteArray × Vl):=OW Prod.fst ZlD l
theorem Rh (l:List (ByteArray × Vl)):(N2 l).length=l.length:=by simp only [N2,OW,List.length_map];exact Go.Ev.Hv _ _
theorem J5 (x:ByteArray × Vl):(Di x).cells.length=7/\AP (Di x)=true:=by simp +decide only [go_sem,and_self]
theorem ZR (x:ByteArray × Vl):(Di x).pub=Di x:=by simp +decide only [go_sem]
theorem Xu (x:ByteArray × Vl):∀ c∈(Di x).cells,∀ a b d,Under a b d c:=by
 intro c hc a b d
 simp only [Di,AV.cells,List.mem_cons] at hc
 rcases hc with rfl | hc
 ·exact .val _
 ·exact x.2.under a b d c hc
theorem Zbm (w0:World) (st:St):ACalls Tryz.prog w0 110 [.list [] .none,.clo 111 []] st fun r s=>r = .tup []/\s=st:=by
 refine ⟨AL Tryz.func110 rfl (by decide),fun M w c e d=>?_⟩
 obtain ⟨v0,v1,rfl⟩:∃ v0 v1,c = #[v0,v1]:=by
  have hs:=d.1
  simp only [List.length_cons,List.length_nil] at hs
  match c,hs with
  | ⟨[a,b]⟩,_=>exact ⟨a,b,rfl⟩
 have h0:R w0 M w v0 (.list [] .none):=d.2 0 (by simp) (by simp)
 obtain ⟨p,cap,rfl⟩:∃ p cap,v0 = .slice p 0 cap:=by
  generalize hx:AV.list [] Ev.Own.none=x at h0
  cases h0 with
  | nil ho=>exact ⟨_,_,rfl⟩
  | emp ho=>exact ⟨_,_,rfl⟩
  | list sz us hc hm hcell hu ho=>cases hx;exact ⟨_,_,rfl⟩
  | _=>cases hx
 have h:=AnyF.slices_SortFunc_none (P:=Tryz.prog) (ρ:=Tryz.laysSort_ren) Tryz.laysSort p cap v1 w
 refine h.mono ?_
 rintro en g ⟨rfl,rfl⟩
 exact ⟨.tuple #[],M,.tup [],st,rfl,⟨rfl,rfl⟩,.refl _ _ _,e,.tup rfl (fun i f _=>absurd f (by simp))⟩
theorem Zbr (w0:World) {st:St} {id ver:Nat} (l:List (ByteArray × Vl)) (hid:st.rows[id]? = some (.vec ver 7 (l.flatMap fun x=>(Di x).cells))) (hn:0<l.length) (hz:l.length<4611686018427387904) :
  ACalls Tryz.prog w0 110 [.vec id ver 0 l.length,.clo 111 []] st fun r s=>r = .tup []/\s={ st with rows:=st.rows.set id (.vec ver 7 ((N2 l).flatMap fun x=>(Di x).cells)) } :=
 ZaV (ρ:=Tryz.laysSort_ren) Tryz.laysSort (AL Tryz.func110 rfl (by decide)) 6 Tryz.isAgg68 Tryz.sizeOf68 111 (AL Tryz.func111 rfl (by decide))
  (fun s a r f W d e c b=>Zo s a r f W d e c b) Di Prod.fst ZlD l (fun x=>⟨x.2.cs,rfl,Vl.cs_length _⟩) hid hn hz
def Kr (n:Nat) (g:Int->(List (ByteArray × Vl))->Option Vl) (b:Int) (b1_k12_5:List (ByteArray × Vl)):Option Vl :=
 if BN (b+1) then
  g (b+1) b1_k12_5
 else none
def OP (n:Nat)  (b1_k4_5:List (ByteArray × Vl)):Option Vl :=
 if b1_k4_5.length<4611686018427387904 then
  (B8 n (Vl.mk 9 0 0 (⟨#[]⟩:ByteArray) ([]) (N2 b1_k4_5))).bind fun b =>
  some (b)
 else none
def Is (n:Nat) (g:List (ByteArray × Vl)):Nat->Int->(List (ByteArray × Vl))->Option Vl
 | 0,_,_=>none
 | m+1,b,b1_l7_5 =>
  if decide (b<(g.length:Int)) then
   (Dw g b).bind fun h =>
   if BN (b+1) then
    if 0<=b+1/\b+1<=(g.length:Int)/\(g.length:Int)<=(g.length:Int) then
     (Gq n (g.drop (b+1).toNat) (fun (y:ByteArray × Vl)=>some (IR y h))).bind fun q =>
     if (!(ES h.2))&&(!q) then
      if (b1_l7_5.length+1)*104<=140737488355328/\b1_l7_5.length+1<=4611686018427387904 then
       Kr n (Is n g m) b (b1_l7_5++([h]))
      else none
     else
      Kr n (Is n g m) b b1_l7_5
    else none
   else none
  else
   OP n b1_l7_5
def FU (n:Nat) (b:List (ByteArray × Vl)):Option Vl :=
 Is n b n 0 ([])
theorem LE (w0:World) (n:Nat) (B:Ao) (Rw:Ap) (L:Aq) (a0:List (ByteArray × Vl)) (r:Vl) (h:FU n a0=some r) :
  ACalls Tryz.prog w0 77 [.list (a0.map Di) .none] ⟨B,Rw,L⟩ fun x st=>x = .agg (r.cs)/\st=⟨B,Rw,L⟩:=by
 rw [FU] at h
 refine hd [.cell 2 49] Tryz.func77 Tryz.ntmps77 fun M0 W0 O t u l hu o hs=>?_
 simp only [Ax]
 refine rg [0,2] hs ?_
 apply Am;intro K2 Q
 apply As 1 [0,2,3]
 rw [An];simp +decide only [go_sem,Nat.reduceAdd,QS,OA,J1]
 (repeat' apply Ad)<;>first | refine Q _ _ ?_ | exact cl
 clear Q
 refine AD (fun e st=>∃ (b:List (ByteArray × Vl)) (k:AV) (Xk4:Ao) (Rk4:Ap),e=[(2,true,.box B.length 0),(3,true,.box (B.length+1) 0)]/\st=⟨B++([CQ,[Ak 9,Ak 0,Ak 0,.val (.string (⟨#[]⟩:ByteArray)),.list ([]) .full,k]]++Xk4),Rk4,L⟩/\VOne Rw Rk4 7 (b.map Di) k/\OP n b=some r) ?_ ?_
 ·intro K5 ab
  refine NF (B.length+1) 5 (by first | rfl | (simp only [Ea,Da];rfl)) rfl ?_;simp +decide only [go_sem,Nat.reduceAdd,List.set_cons_succ,List.set_cons_zero]
  refine rg [0,2,3,8,9,10] hs ?_
  apply Ar
  refine AA (fun m e st=>∃ (i:Int) (d:List (ByteArray × Vl)) (c:AV) (Xl7:Ao) (Rl7:Ap),e=[(0,true,.list (a0.map Di) .none),(2,true,.box B.length 0),(3,true,.box (B.length+1) 0),(8,true,.list (a0.map Di) .none),(9,true,Ak (a0.length:Int)),(10,true,Ak i)]/\st=⟨B++([CQ,[Ak 9,Ak 0,Ak 0,.val (.string (⟨#[]⟩:ByteArray)),.list ([]) .full,c]]++Xl7),Rl7,L⟩/\VOne Rw Rl7 7 (d.map Di) c/\Is n a0 m i d=some r) n ⟨0,[],.list [] .seed,[],Rw,ef hs,ef hs,VOne.none Rw 7,h⟩ ?_
  rintro ml7 e st ⟨i,d,c,Xl7,Rl7,rfl,rfl,o,h⟩ Ul7 Vl7
  cases ml7 with
  | zero=>cases h
  | succ ml7 =>
  rw [Is] at h
  have hU:=o.under (B.length+2) L.length
  refine tdV O t u l o ?_
  refine rg [0,2,3,8,9,10,11] hs ?_
  apply Am;intro K9 K
  refine B6 h hs ?_ ?_<;>intro hs h
  rotate_left
  ·refine sx [2,3] hs ab ?_
   exact ⟨d,c,([]),Rl7,ef hs,ef hs,VOne.of_eq o (by simp only [List.map_append,List.map_cons,List.map_nil]),h⟩
  refine sk [0,2,3,8,9,10] hs K ?_
  clear K
  refine AD (fun e st=>∃ (j:List (ByteArray × Vl)) (g:AV) (Xk12:Ao) (Rk12:Ap),e=[(0,true,.list (a0.map Di) .none),(2,true,.box B.length 0),(3,true,.box (B.length+1) 0),(8,true,.list (a0.map Di) .none),(9,true,Ak (a0.length:Int)),(10,true,Ak i)]/\st=⟨B++([CQ,[Ak 9,Ak 0,Ak 0,.val (.string (⟨#[]⟩:ByteArray)),.list ([]) .full,g]]++Xk12),Rk12,L⟩/\VOne Rw Rk12 7 (j.map Di) g/\Kr n (Is n a0 ml7) i j=some r) ?_ ?_
  ·intro K13 C
   apply Ar
   obtain ⟨x15,J,h⟩:=bind_some h
   obtain ⟨af,Y,H⟩:=Bo J
   have G:=Bz (f:=Di) H
   have hs:=Ad G hs
   refine rg [0,2,3,4,5,8,9,10] hs ?_
   obtain ⟨ah,h⟩:=Au h
   obtain ⟨ai,h⟩:=Au h
   obtain ⟨ak,hy19,h⟩:=bind_some h
   refine rc 2 [0,2,3,5,6,8,9,10] hs ?_;intro K16 D
   refine Av _ (L0 w0 n _ _ _ (a0.drop (i+1).toNat) 109 [.box (B.length+2) 0] (fun (x0:ByteArray × Vl)=>some (IR x0 x15)) (fun x0 r hx B' rows' hB' aj=>by cases hx;exact Va w0 _ _ _ x0 _ x15 (I6 hB' (ef hs))) _ hy19) (hv hs) ?_
   refine ne hs D ?_
   clear D
   refine rc 2 [0,2,3,5,8,9,10,28] hs ?_;intro K20 w
   refine Av _ (Gw w0 _ _ _ x15.2) (hv hs) ?_
   refine ne hs w ?_
   clear w
   refine B6 h hs ?_ ?_<;>intro hs h
   ·obtain ⟨F,h⟩:=Au h
    obtain ⟨ad,v,o,p⟩:=o.append (P:=Tryz.prog) (y:=Di x15) SG (by rw [MC];rfl) (by decide) (by rw [List.length_map];exact F.1) (by rw [List.length_map];exact F.2) (J5 x15) (ZR x15) (Xu x15) (fun z hz=>by obtain ⟨y,_,rfl⟩:=List.mem_map.1 hz;exact (J5 y).1)
    simp only [EP] at p
    replace p:=Ad p o.cell
    have hs:=Ad p hs
    refine rl [0,2,3,8,9,10] hs C ?_
    exact ⟨(d++([x15])),ad,([.val (.string x15.1)::(x15.2.cs)]),v,ef hs,ef hs,VOne.of_eq o (by simp only [List.map_append,List.map_cons,List.map_nil]),h⟩
   refine sk [0,2,3,8,9,10] hs C ?_
   exact ⟨d,c,([.val (.string x15.1)::(x15.2.cs)]),Rl7,ef hs,ef hs,VOne.of_eq o (by simp only [List.map_append,List.map_cons,List.map_nil]),h⟩
  ·clear h;rintro e st ⟨j,g,Xk12,Rk12,rfl,rfl,o,h⟩
   rw [Kr] at h
   have hU:=o.under (B.length+2) L.length
   refine tdV O t u l o ?_
   obtain ⟨ag,h⟩:=Au h
   refine rl [0,2,3,8,9,10] hs (fun e s=>Vl7 ml7 e s (Nat.lt_succ_self _)) ?_
   exact ⟨(i+1),j,g,([]),Rk12,ef hs,ef hs,VOne.of_eq o (by simp only [List.map_append,List.map_cons,List.map_nil]),h⟩
 ·clear h;rintro e st ⟨b,k,Xk4,Rk4,rfl,rfl,o,h⟩
  rw [OP] at h
  have hU:=o.under (B.length+2) L.length
  refine tdV O t u l o ?_
  obtain ⟨V,h⟩:=Au h
  rcases o.at_ with ⟨hnil,rfl⟩ | ⟨id,ver,rfl,hpos,hid,hrow⟩
  ·have hb0:b=[]:=List.map_eq_nil_iff.1 hnil
   subst hb0
   refine rc 2 [2,3] hs ?_;intro K27 q
   refine Av _ (Zbm w0 _) (hv hs) ?_
   refine ne hs q ?_
   clear q
   obtain ⟨U,E,h⟩:=bind_some h
   rw [show N2 []=[] from List.eq_nil_of_length_eq_zero (Rh [])] at E
   exact go (tg (a:=([2],()))) h hs O t u l o (q1 (CZ w0 n)) trivial
  ·rw [List.length_map] at hpos
   rw [List.length_map]
   rw [show ((b.map Di).flatMap AV.cells)=b.flatMap fun x=>(Di x).cells from List.flatMap_map ..] at hrow
   refine rc 2 [2,3] hs ?_;intro K27 q
   refine BE _ (Zbr w0 (st:=⟨_,_,_⟩) b hrow hpos V) (hv hs) ?_;rintro _ _ ⟨rfl,rfl⟩
   refine ne hs q ?_
   clear q
   have Z:=(Aj.1 hrow).1
   have ae:ED (Rk4.set id (.vec ver 7 ((N2 b).flatMap fun x=>(Di x).cells))) id ver=some (7,(N2 b).flatMap fun x=>(Di x).cells):=by simp [ED,Z]
   have N:(N2 b).length=b.length:=Rh _
   refine OB (B.length+1) 5 true (by first | rfl | (simp only [Ea,Da];rfl)) rfl ae (.inl rfl) (by rw [Nat.zero_add,Q4 (fun x _=>(J5 x).1),N];exact Nat.le_refl _) ?_
   have aa:N8 7 true ((N2 b).flatMap fun x=>(Di x).cells) 0 b.length=(N2 b).map Di:=by
    have:=ZbZ (ys:=(N2 b).map Di) (sz:=7) (fun y hy=>by obtain ⟨x,_,rfl⟩:=List.mem_map.1 hy;exact ⟨_,rfl,(J5 x).1⟩)
    rw [List.length_map,N,List.flatMap_map] at this
    exact this
   rw [aa]
   simp +decide only [go_sem,Nat.reduceAdd,List.set_cons_succ,List.set_cons_zero]
   obtain ⟨U,E,h⟩:=bind_some h
   have o:VPre Rw ((Rk4.set id (.vec ver 7 ((N2 b).flatMap fun x=>(Di x).cells))).set id (.dead (ver+1))):=⟨ND (ND o.pre hid _) hid _⟩
   exact go (tg (a:=([2],()))) h hs O t u l o (q1 (CZ w0 n)) trivial
def Fq (n:Nat) (q:Ty):List (List Part × Vl)->Vl->Int->Option (Vl × Int)
 | [],b5_r16,b6_r16 =>
  if !(decide (b6_r16=0)) then
   AM
  else
   (KU n q b5_r16).bind fun b =>
   if !(decide (b.2=0)) then
    some ((Vl.mk 0 0 0 (⟨#[]⟩:ByteArray) ([]) ([]),b.2))
   else
    (RL n b.1).bind fun h =>
    if !(decide (h=0)) then
     AM
    else
     some ((b.1,0))
 | p_r16::rest,b5_r16,b6_r16 =>
  if ES p_r16.2 then
   AM
  else
   if decide (b6_r16=0) then
    (LY n b5_r16 p_r16.1 p_r16.2).bind fun g =>
    (Fq n q rest) g.1 g.2
   else
    AM
def BO (n:Nat) (b:List (ByteArray × Ex)) (h:Vl) (y:Ty):Option (Vl × Int) :=
 (KI n b).bind fun q =>
 if !(decide (q=0)) then
  AM
 else
  if !(decide (h.kind=9)) then
   AM
  else
   (FU n ([])).bind fun g =>
   if (Z3 n b h).isSome=true/\b.length<=1000000000 then
    Fq n y (((Z3 n b h).getD [])) g 0
   else none
theorem HG (w0:World) (hE:QU w0) (hM:Qx w0) (hP:Pow10 w0) (hT:Lib.Utf8Tabs 1 2 w0) (n:Nat) (B:Ao) (Rw:Ap) (L:Aq) (a0:List (ByteArray × Ex)) (a1:Vl) (a2:Ty) (r:Vl × Int) (h:BO n a0 a1 a2=some r) :
  ACalls Tryz.prog w0 63 [.agg ([.list (a0.map FT) .none]),.agg (a1.cs),.agg (a2.cs)] ⟨B,Rw,L⟩ fun x st=>x = .tup [.agg (r.1.cs),Ak r.2]/\st=⟨B,Rw,L⟩:=by
 rw [BO] at h
 refine hd [.cell 6 49,.tmp 7] Tryz.func63 Tryz.ntmps63 fun M0 W0 Z C D j hu g hs=>?_
 simp only [Ax]
 refine rg [3,4,5,6] hs ?_
 apply Am;intro K2 E
 obtain ⟨y4,V,h⟩:=bind_some h
 refine rc 2 [3,4,5,6,8] hs ?_;intro K3 z
 refine Av _ (Tm w0 n _ _ _ a0 _ V) (hv hs) ?_
 refine ne hs z ?_
 clear z
 refine rg [3,4,5,6,8,20] hs ?_
 refine B6 h hs ?_ ?_<;>intro hs h
 ·have o:=hs.1
  exact nS h
 have o:=hs.1
 refine sk [3,4,5,6] hs E ?_
 clear E
 apply Am;intro K7 w
 refine rg [3,4,5,6,25] hs ?_
 refine B6 h hs ?_ ?_<;>intro hs h
 ·have k:=hs.1
  exact nS h
 have k:=hs.1
 refine sk [3,4,5,6] hs w ?_
 clear w
 refine rg [3,4,5,6,9] hs ?_
 obtain ⟨O,y,h⟩:=bind_some h
 refine rc 2 [3,4,5,6,9,10,11,12] hs ?_;intro K11 q
 refine Av _ (LE w0 n _ _ _ ([]) _ y) (hv hs) ?_
 refine ne hs q ?_
 clear q
 apply Am;intro K13 p
 refine rc 2 [5,6,9,10,11,12,30] hs ?_;intro K14 u
 refine BE _ (Zy w0 _ _ _ a0 a1 ((B.length+4))) (hv hs) ?_;rintro _ _ ⟨rfl,rfl⟩
 refine ne hs u ?_
 clear u
 apply Ar
 obtain ⟨v,h⟩:=Au h
 refine Wp (Ni ((Z3 n a0 a1).getD [])) (fun st=>st.boxes[(B.length+8)]? = some [.list (a0.map FT) .none]/\st.boxes[(B.length+9)]? = some a1.cs) (fun i st=>∃ (b:Vl) (c:Int) (Rr16:Ap),st=⟨B++([[.list (a0.map FT) .none],a1.cs,a2.cs,CQ,[Ak 0],b.cs,[Ak c],[.val (.bool false)],[.list (a0.map FT) .none],a1.cs,[.box (B.length+4) 0]]),Rr16,L⟩/\Owns Rw Rr16 []/\Fq n a2 ((((Z3 n a0 a1).getD [])).drop i) b c=some r) (fun _ _=>False) ev (ef hs) (ZbJ w0 hE hM hP hT n a0 a1 _ (ZbU v.1) v.2 _) (fun x J=>ZO ((Z3 n a0 a1).getD []) x J) (by decide) ?_ ⟨O,0,Rw,ef hs,g,h⟩ (fun _ _ h=>h.elim) ?_ ?_ ?_
 ·rintro i st H ⟨b,c,Rr16,rfl,g,h⟩ _ _;simp +decide [St.push]
 ·rintro i s1 ⟨XB,XR,XL⟩ x M1 W1 l H aa hX hI U G J N K hK
  obtain ⟨d,Q,rfl,hi⟩:=ZW ((Z3 n a0 a1).getD []) i x J
  (try simp only at hX)
  subst hX
  obtain ⟨b,c,Rr16,rfl,g,h⟩:=hI
  rw [XX Q,Fq] at h
  have e:=g
  simp only [St.ext,St.push,List.append_assoc,List.append_nil]
  refine rg [5,6,9,10,11,12,13,32] hs ?_
  apply As 1 [5,6,9,10,11,12,13,14]
  rw [An];simp +decide only [go_sem,Nat.reduceAdd,o,k]
  (repeat' apply Ad)<;>first | refine hK _ _ (by simp [St.ext,St.push]) (fun KQ Y=>?_) | exact cl
  clear hK
  dsimp only [St.ext,St.push]
  apply Ar
  apply Am;intro K18 t
  rcases Bool.eq_false_or_eq_true (ES d.2) with hf19 | hf19
  ·replace h:=Cj h hf19
   exact nS h
  ·replace h:=Cm h hf19
   have hs:=Ad hf19 hs
   refine rk 3 [5,6,9,10,11,12,13,14] hs ?_
   refine Av _ (Gw w0 _ _ _ d.2) (hv hs) ?_
   refine nc hs ?_
   refine La ?_
   refine ne hs t ?_
   clear t
   refine rg [5,6,9,10,11,12,13,14,44] hs ?_
   refine B6 h hs ?_ ?_<;>intro hs h
   ·have f:=hs.1
    obtain ⟨m,F,h⟩:=bind_some h
    apply As 2 [5,6,9,10,11,12]
    rw [An];simp +decide only [go_sem,Nat.reduceAdd,o,k,hf19,f]
    (repeat' apply Ad)<;>first | refine Av _ (Ud w0 n _ _ _ b d.1 d.2 _ F) (hv hs) ?_ | exact cl
    rw [An];simp +decide only [go_sem,Nat.reduceAdd,o,k,hf19,f]
    (repeat' apply Ad)<;>first | refine Y _ _ _ ⟨⟨B++[[.list (a0.map FT) .none],a1.cs,a2.cs,CQ,[Ak 0],m.1.cs,[Ak m.2],[.val (.bool false)],[.list (a0.map FT) .none],a1.cs,[.box (B.length+4) 0]],Rr16,L⟩,[d.2.cs],by first | rfl | (simp only [List.append_assoc,List.append_nil,List.cons_append,List.nil_append];done),⟨by simp,by first | exact Nat.le_refl _ | (have:=g.len;simp;omega),rfl⟩,rfl,⟨m.1,m.2,Rr16,ef hs,g,h⟩,?_⟩ | exact cl
    exact .inr (EQ N e g rfl (ln g e) ap_ ow)
   have f:=hs.1
   exact nS h
 ·rintro s H ⟨XB,XR,XL⟩ hXR ⟨b,c,Rr16,rfl,g,h⟩ _ _
  simp only at hXR
  subst hXR
  rw [List.drop_eq_nil_of_le (by rw [PQ];exact Nat.le_refl _),Fq] at h
  simp only [St.ext,St.push,List.append_assoc,List.append_nil]
  (repeat' apply Ad)<;>first | refine p _ _ ?_ | exact cl
  clear p
  refine Wb (bs:=[[.list (a0.map FT) .none],a1.cs,a2.cs,CQ,[Ak 0],b.cs,[Ak c],[.val (.bool false)],[.list (a0.map FT) .none],a1.cs,[.box (B.length+4) 0]]) Z C D rfl j g ow ow ?_
  exact go (tg (a:=([5,6,9,10,11,12,52],[5,6,10,11,12,57],((),()),[5,6,10,62],[5,6,10],[6,10,15],[6,10,15,72],([6,7],()),[6,10],[6,10,16],[6,10,16,78],((),()),[6,10],[6,7],()))) h hs Z C D j g (q2 (Tn w0 n) (ZF w0 hT n)) trivial
 ·rintro ex s H X hX h;exact h.elim
def Hf (b:ByteArray):Ex :=
 Ex.mk 2 0 b ([]) ([])
theorem Zbu (w0:World) (B:Ao) (Rw:Ap) (L:Aq) (a0:ByteArray) (r:Ex) (h:Hf a0=r) :
  ACalls Tryz.prog w0 29 [.val (.string a0)] ⟨B,Rw,L⟩ fun x st=>x = .agg (r.cs)/\st=⟨B,Rw,L⟩:=by
 rw [Hf] at h
 refine hd [.cell 2 95] Tryz.func29 Tryz.ntmps29 fun M0 W0 f b d a e c hs=>?_
 simp only [Ax]
 refine rg [0,2] hs ?_
 refine rg [2] hs ?_
 exact rT h hs a c
theorem Na (w0:World) (B:Ao) (Rw:Ap) (L:Aq) (a0:ByteArray) :
  ACalls Tryz.prog w0 29 [.val (.string a0)] ⟨B,Rw,L⟩ fun x st=>x = .agg ((Hf a0).cs)/\st=⟨B,Rw,L⟩:=Zbu w0 B Rw L a0 _ rfl
def FQ (n:Nat) (g:Vl):Option Vl :=
 (B8 n g).bind fun h =>
 (FU n ([((⟨#[98,111,100,121]⟩:ByteArray),h)])).bind fun b =>
 some (b)
theorem OD (w0:World) (n:Nat) (B:Ao) (Rw:Ap) (L:Aq) (a0:Vl) (r:Vl) (h:FQ n a0=some r) :
  ACalls Tryz.prog w0 64 [.agg (a0.cs)] ⟨B,Rw,L⟩ fun x st=>x = .agg (r.cs)/\st=⟨B,Rw,L⟩:=by
 rw [FQ] at h
 refine hd [.cell 2 49] Tryz.func64 Tryz.ntmps64 fun M0 W0 f c d b g e hs=>?_
 simp only [Ax]
 exact go (tg (a:=([1,2],[2],()))) h hs f c d b e (q2 (CZ w0 n) (LE w0 n)) trivial
end Go.Proofs.YtbfenpeblbonlaaGreatDoor
