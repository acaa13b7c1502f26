/-
  Part 9 of the proof: rules and walks that the claim's last text uses.
-/
import Derived.Test.YtmcnjijeocmkgaaGreatDoorSy8
set_option linter.unusedSimpArgs false
set_option linter.unusedVariables false
set_option maxRecDepth 100000
set_option maxHeartbeats 4000000
namespace Go.Proofs.YtmcnjijeocmkgaaGreatDoor
open Go Go.RowKit Go.Ev
def Hk (rec:Ty→Ty→ByteArray→(List (ByteArray × Int))→Option ((List (ByteArray × Int)))) (n:Nat) (g:Int→(List (ByteArray × Int))→Option ((List (ByteArray × Int)))) (b:Int) (pla3_k20:List (ByteArray × Int)):Option ((List (ByteArray × Int))) :=
 if BM (b+1) then
  g (b+1) pla3_k20
 else none
def G3 (rec:Ty→Ty→ByteArray→(List (ByteArray × Int))→Option ((List (ByteArray × Int)))) (n:Nat) (g:Int→(List (ByteArray × Int))→Option ((List (ByteArray × Int)))) (b:Int) (pla3_k63:List (ByteArray × Int)):Option ((List (ByteArray × Int))) :=
 if BM (b+1) then
  g (b+1) pla3_k63
 else none
def HB (rec:Ty→Ty→ByteArray→(List (ByteArray × Int))→Option ((List (ByteArray × Int)))) (n:Nat) (a0:Ty) (y:Ty) (q:ByteArray) (pla3_k79:List (ByteArray × Int)):Option ((List (ByteArray × Int))) :=
 (B1 a0.elem 0).bind fun g =>
 (B1 y.elem 0).bind fun b =>
 if q.size+((⟨#[91,42,93]⟩:ByteArray)).size≤9223372036854775807 then
  (rec g b (q++((⟨#[91,42,93]⟩:ByteArray))) pla3_k79).bind fun h =>
  some (h)
 else none
def G4 (rec:Ty→Ty→ByteArray→(List (ByteArray × Int))→Option ((List (ByteArray × Int)))) (n:Nat) (b:Int→(List (ByteArray × Int))→Option ((List (ByteArray × Int)))) (a1:Ty) (a2:ByteArray) (g:Int) (h:Int × ByteArray × Int × Ty × List Vl) (y25:((Int × ByteArray × Int × Ty × List Vl) × Bool)) (pla3_k44:List (ByteArray × Int)):Option ((List (ByteArray × Int))) :=
 (DT h.2.1 a1 a2).bind fun q =>
 (rec y25.1.2.2.2.1 h.2.2.2.1 q pla3_k44).bind fun y =>
 Hk rec n b g y
def EH (rec:Ty→Ty→ByteArray→(List (ByteArray × Int))→Option ((List (ByteArray × Int)))) (n:Nat) (q:Ty) (h:Ty) (a2:ByteArray):Nat→Int→(List (ByteArray × Int))→Option ((List (ByteArray × Int)))
 | 0,_,_=>none
 | m+1,b,pla3_l58 =>
  if decide (b<(q.fields.length:Int)) then
   (B1 q.fields b).bind fun g =>
   (C9 n h.fields g.1).bind fun y68 =>
   if !y68.2 then
    (DT g.2.1 h a2).bind fun y =>
    (CG y 2 pla3_l58).bind fun y72 =>
    G3 rec n (EH rec n q h a2 m) b y72
   else
    G3 rec n (EH rec n q h a2 m) b pla3_l58
  else
   some (pla3_l58)
def Hv (rec:Ty→Ty→ByteArray→(List (ByteArray × Int))→Option ((List (ByteArray × Int)))) (n:Nat) (b:Int→(List (ByteArray × Int))→Option ((List (ByteArray × Int)))) (y:Ty) (a2:ByteArray) (g:Int) (h:Int × ByteArray × Int × Ty × List Vl) (q:((Int × ByteArray × Int × Ty × List Vl) × Bool)) (pla3_k35:List (ByteArray × Int)):Option ((List (ByteArray × Int))) :=
 if !(decide (q.1.2.2.1=h.2.2.1)) then
  (DT h.2.1 y a2).bind fun y48 =>
  (CG y48 4 pla3_k35).bind fun y49 =>
  G4 rec n b y a2 g h q y49
 else
  G4 rec n b y a2 g h q pla3_k35
def Jj (rec:Ty→Ty→ByteArray→(List (ByteArray × Int))→Option ((List (ByteArray × Int)))) (n:Nat) (h:Ty) (b:Ty) (g:ByteArray) (pla3_k12:List (ByteArray × Int)):Option ((List (ByteArray × Int))) :=
 EH rec n h b g n 0 pla3_k12
def CL (rec:Ty→Ty→ByteArray→(List (ByteArray × Int))→Option ((List (ByteArray × Int)))) (n:Nat) (a0:Ty) (h:Ty) (y:ByteArray):Nat→Int→(List (ByteArray × Int))→Option ((List (ByteArray × Int)))
 | 0,_,_=>none
 | m+1,b,pla3_l15 =>
  if decide (b<(h.fields.length:Int)) then
   (B1 h.fields b).bind fun g =>
   (C9 n a0.fields g.1).bind fun q =>
   if !q.2 then
    (DT g.2.1 h y).bind fun y30 =>
    (CG y30 1 pla3_l15).bind fun y31 =>
    Hk rec n (CL rec n a0 h y m) b y31
   else
    if !(Eb q.1.2.1 g.2.1) then
     (DT g.2.1 h y).bind fun y39 =>
     (CG y39 3 pla3_l15).bind fun y40 =>
     Hv rec n (CL rec n a0 h y m) h y b g q y40
    else
     Hv rec n (CL rec n a0 h y m) h y b g q pla3_l15
  else
   Jj rec n a0 h y pla3_l15
def KB (rec:Ty→Ty→ByteArray→(List (ByteArray × Int))→Option ((List (ByteArray × Int)))) (n:Nat) (g:Ty) (b:Ty) (q:ByteArray) (h:List (ByteArray × Int)):Option ((List (ByteArray × Int))) :=
 if !(DC g.kind b.kind) then
  (CG q 5 h).bind fun y5 =>
  some (y5)
 else
  if (decide (b.kind=9))||(decide (b.kind=10)) then
   CL rec n g b q n 0 h
  else
   if decide (b.kind=8) then
    if (!(decide (g.min=b.min)))||(!(decide (g.max=b.max))) then
     (Hl (Ek g b) h q).bind fun y83 =>
     HB rec n g b q y83
    else
     HB rec n g b q h
   else
    (Rb n g b).bind fun y93 =>
    if !y93 then
     (AN n g b).bind fun y =>
     (Hl y h q).bind fun y96 =>
     some (y96)
    else
     some (h)
def IV:Nat→Ty→Ty→ByteArray→(List (ByteArray × Int))→Option ((List (ByteArray × Int)))
 | 0,_,_,_,_=>none
 | n+1,h,b,g,q=>KB (IV n) n h b g q
def KE (w0:World) (F:Ty→Ty→ByteArray→(List (ByteArray × Int))→Option ((List (ByteArray × Int)))):Prop:=∀ (B:Am) (Rw:Aq) (L:Ar) (q:Ty) (g:Ty) (h:ByteArray) (la3:Nat) (b:List (ByteArray × Int)) (oa3:Ev.Own) (hla3:B[la3]? = some [.list (b.map Nn) oa3]) (hGa3:Owns Rw Rw [(2,b.length,oa3)] oa3) (r:(List (ByteArray × Int))),F q g h b=some r→ACalls Tryz.prog w0 105 [.agg (q.cs),.agg (g.cs),.val (.string h),.clo 106 [.box la3 0]] ⟨B,Rw,L⟩ fun x st=>x = .tup []∧∃ (R1:Aq) (o1:Ev.Own),st=⟨(B.set la3 [.list (r.map Nn) o1]),R1,L⟩∧Owns Rw R1 [(2,r.length,o1)] oa3
theorem Ry (w0:World) (rec:Ty→Ty→ByteArray→(List (ByteArray × Int))→Option ((List (ByteArray × Int)))) (ih:KE w0 rec) (n:Nat):KE w0 (KB rec n):=by
 intro B Rw L a0 a1 a2 t a3 am b b8 r h
 rw [KB] at h
 refine ACalls.finG (FC (rs:=[]) Tryz.func105 rfl rfl Tryz.ntmps105 (Bl Tryz.func105 rfl (by decide)) (Nat.le_of_ble_eq_true rfl) ?_)
 intro M0 W0 hN af ae p hu
 dsimp only at hN af ae p hu
 simp only [AG]
 have l:=b8
 have hs:=YB
 have ce:=(Aj.1 b).1
 have hs:=Ad (Aw b) hs
 refine rg [4,5,6,7] hs ?_
 refine rg [4,5,6,7,8] hs ?_
 apply Ao
 refine rc 2 [4,5,6,7,8,19] hs ?_;intro K3 bz
 refine As _ (Jd w0 _ _ _ a0.kind a1.kind) (hv hs) ?_
 refine ne hs bz ?_
 clear bz
 refine BN h hs ?_ ?_<;>intro hs h
 ·have d:=hs.1
  obtain ⟨y5,cx,h⟩:=bind_some h
  apply Ax 2 []
  rw [Ap];simp +decide only [go_sem,Nat.reduceAdd,Aw b,d]
  (repeat' apply Ad)<;>first | (refine BF _ (Dl w0 _ _ _ a2 5 t a3 am (ef hs) l.enter _ cx) (hv hs) ?_;rintro _ _ ⟨rfl,Rg6,c9,rfl,bj⟩) | exact cl
  have l:=l.call bj
  rw [Ap];simp +decide only [go_sem,Nat.reduceAdd,Aw b,d]
  (repeat' with_reducible apply Ad)<;>first | exact cl | skip
  have hgt:=Option.some.inj h;subst hgt
  have hU:=l.unders
  simp only [List.mem_cons,List.not_mem_nil,or_false,forall_eq_or_imp,forall_eq] at hU
  refine UY l (Az (GB p l.len) ow) Lj ev ⟨?_,_,_,?_,(l.sub (List.sublist_append_left [_] _)).len1 Kr⟩
  all_goals first | rfl | (simp +decide only [go_sem,Nat.reduceAdd,Aw b,d];done) | (simp +decide only [go_sem,Nat.reduceAdd,Vl.cs,Ty.cs,Aw b,d];done)
 have d:=hs.1
 refine rg [4,5,6,7,8,29] hs ?_
 refine BN h hs ?_ ?_<;>intro hs h
 ·have g:=hs.1
  refine rg [4,5,7,9] hs ?_
  refine AA (fun e st=>∃ (K:List (ByteArray × Int)) (Y:Ev.Own) (Xk12:Am) (Rk12:Aq),e=[(4,true,.box B.length 0),(5,true,.box (B.length+1) 0),(7,true,.box (B.length+3) 0),(9,true,.clo 186 [.box (B.length+1) 0,.box (B.length+2) 0])]∧st=⟨(B.set t ([.list (K.map Nn) Y]))++([a0.cs,a1.cs,[.val (.string a2)],[.clo 106 [.box t 0]]]++Xk12),Rk12,L⟩∧Owns Rw Rk12 [(2,K.length,Y)] am∧Jj rec n a0 a1 a2 K=some r) ?_ ?_
  ·intro K13 bs
   refine rg [4,5,7,9,40,41,42] hs ?_
   apply Ao
   refine AL (fun m e st=>∃ (u:Int) (z:List (ByteArray × Int)) (D:Ev.Own) (Xl15:Am) (Rl15:Aq),e=[(4,true,.box B.length 0),(5,true,.box (B.length+1) 0),(7,true,.box (B.length+3) 0),(9,true,.clo 186 [.box (B.length+1) 0,.box (B.length+2) 0]),(40,true,.list (a1.fields.map ET) .none),(41,true,Ak (a1.fields.length:Int)),(42,true,Ak u)]∧st=⟨(B.set t ([.list (z.map Nn) D]))++([a0.cs,a1.cs,[.val (.string a2)],[.clo 106 [.box t 0]]]++Xl15),Rl15,L⟩∧Owns Rw Rl15 [(2,z.length,D)] am∧CL rec n a0 a1 a2 m u z=some r) n ⟨0,a3,am,([]),Rw,ef hs,ef hs,Owns.of_eq (l) Kr,h⟩ ?_
   rintro ml15 e st ⟨u,z,D,Xl15,Rl15,rfl,rfl,l,h⟩ Ul15 Vl15
   cases ml15 with
   | zero=>cases h
   | succ ml15 =>
   rw [CL] at h
   have hU:=l.unders
   simp only [List.mem_cons,List.not_mem_nil,or_false,forall_eq_or_imp,forall_eq] at hU
   refine JM hN af ae Lj (Az (GB p l.len) ow) l ow ow ?_
   refine rg [4,5,7,9,40,41,42,43] hs ?_
   apply An;intro K17 be
   refine BN h hs ?_ ?_<;>intro hs h
   rotate_left
   ·have k:=hs.1
    exact go (tg (a:=([4,5,7,9],()))) h hs hN af ae p l trivial (q1 bs)
   have k:=hs.1
   refine sk [4,5,7,9,40,41,42] hs be ?_
   clear be
   refine AA (fun e st=>∃ (ad:List (ByteArray × Int)) (ak:Ev.Own) (Xk20:Am) (Rk20:Aq),e=[(4,true,.box B.length 0),(5,true,.box (B.length+1) 0),(7,true,.box (B.length+3) 0),(9,true,.clo 186 [.box (B.length+1) 0,.box (B.length+2) 0]),(40,true,.list (a1.fields.map ET) .none),(41,true,Ak (a1.fields.length:Int)),(42,true,Ak u)]∧st=⟨(B.set t ([.list (ad.map Nn) ak]))++([a0.cs,a1.cs,[.val (.string a2)],[.clo 106 [.box t 0]]]++Xk20),Rk20,L⟩∧Owns Rw Rk20 [(2,ad.length,ak)] am∧Hk rec n (CL rec n a0 a1 a2 ml15) u ad=some r) ?_ ?_
   ·intro K21 bb
    apply Ao
    obtain ⟨o,bw,h⟩:=bind_some h
    obtain ⟨cy,cg,bh⟩:=B9 bw
    have c:=C5 (f:=ET) bh
    have hs:=Ad c hs
    refine rg [4,5,7,9,11,40,41,42] hs ?_
    obtain ⟨q,cb,h⟩:=bind_some h
    refine rc 2 [4,5,7,9,11,12,13,40,41,42] hs ?_;intro K24 a5
    refine As _ (EO w0 n _ _ _ a0.fields o.1 _ cb) (hv hs) ?_
    refine ne hs a5 ?_
    clear a5
    apply An;intro K26 a9
    refine rg [4,5,7,9,11,12,40,41,42,55] hs ?_
    refine BN h hs ?_ ?_<;>intro hs h
    ·have j:=hs.1
     apply An;intro K29 bc
     obtain ⟨cj,bm,h⟩:=bind_some h
     obtain ⟨db,b2,h⟩:=bind_some h
     apply OM Oo [5] [4,5,7,9,40,41,42] kr (fun s=>∃ (X:Am) (rows:Aq) (w:List AV),s=⟨(B.set t w)++([a0.cs,a1.cs,[.val (.string a2)],[.clo 106 [.box t 0]],Ak o.1::(.val (.string o.2.1)::(Ak o.2.2.1::((o.2.2.2.1.cs)++([.list (o.2.2.2.2.map Bv) .none])))),Ak q.1.1::(.val (.string q.1.2.1)::(Ak q.1.2.2.1::((q.1.2.2.2.1.cs)++([.list (q.1.2.2.2.2.map Bv) .none]))))]++X),rows,L⟩) 2 (B.length+6)
     ·simp +decide only [go_sem,Nat.reduceAdd]
     ·rintro s ⟨X,rows,w,rfl⟩
      refine ⟨2,?_⟩
      rw [Ap];simp +decide only [go_sem,Nat.reduceAdd,EI,Aw b,d,g,k,c,j]
      (repeat' apply Ad)<;>first | refine As _ (E7 w0 _ _ _ o.2.1 (B.length+1) a1 (ef hs) (B.length+2) a2 (ef hs) _ bm) (hv hs) ?_ | exact cl
      rw [Ap];simp +decide only [go_sem,Nat.reduceAdd,Aw b,d,g,k,c,j]
      (repeat' apply Ad)<;>first | rfl | exact cl
     ·refine Good.mk [5] kr ⟨[],_,_,by first | rfl | simp only [List.append_nil,List.nil_append]⟩ ?_ ?_
      ·intro h;exact absurd h (by decide)
      ·intro i hi;simp only [List.mem_cons,List.not_mem_nil,or_false] at hi
       subst hi
       ·apply KH rfl rfl ev rfl
        ·simp +decide only [go_sem,Nat.reduceAdd,Aw b,d,g,k,c,j]
        ·simp +decide only [go_sem,Nat.reduceAdd,Aw b,d,g,k,c,j]
        ·simp +decide only [go_sem,Nat.reduceAdd,Aw b,d,g,k,c,j]
         exact (Dl w0 _ _ _ cj 1 t z D (ef hs) l.enter _ b2).pub (hv hs)
        ·rintro _ _ ⟨rfl,Rg32,c6,rfl,av⟩
         have l:=l.call av
         simp +decide only [go_sem,Nat.reduceAdd,Aw b,d,g,k,c,j]
         refine Good.mk [] kr ⟨[],_,_,by first | rfl | simp only [List.append_nil,List.nil_append]⟩ ?_ ?_
         ·intro _;refine ⟨_,_,GP [4,5,7,9,40,41,42] (by first | (simp +decide only [go_sem,Nat.reduceAdd,Aw b,d,g,k,c,j];done) | (simp +decide only [go_sem,Nat.reduceAdd,Aw b,d,g,k,c,j];rfl)),?_⟩
          try simp +decide only [go_sem,Nat.reduceAdd,Aw b,d,g,k,c,j]
          (repeat' apply Ad)<;>first | refine bc _ _ ?_ | exact cl
          clear bc
          exact go (tg (a:=([4,5,7,9,40,41,42],()))) h hs hN af ae p l trivial (q1 bb)
         ·intro i hi;cases hi
    have j:=hs.1
    refine sk [4,5,7,9,11,12,40,41,42] hs a9 ?_
    clear a9
    refine AA (fun e st=>∃ (G:List (ByteArray × Int)) (Q:Ev.Own) (Xk35:Am) (Rk35:Aq),e=[(4,true,.box B.length 0),(5,true,.box (B.length+1) 0),(7,true,.box (B.length+3) 0),(9,true,.clo 186 [.box (B.length+1) 0,.box (B.length+2) 0]),(11,true,.box (B.length+4) 0),(12,true,.box (B.length+5) 0),(40,true,.list (a1.fields.map ET) .none),(41,true,Ak (a1.fields.length:Int)),(42,true,Ak u)]∧st=⟨(B.set t ([.list (G.map Nn) Q]))++([a0.cs,a1.cs,[.val (.string a2)],[.clo 106 [.box t 0]],Ak o.1::(.val (.string o.2.1)::(Ak o.2.2.1::((o.2.2.2.1.cs)++([.list (o.2.2.2.2.map Bv) .none])))),Ak q.1.1::(.val (.string q.1.2.1)::(Ak q.1.2.2.1::((q.1.2.2.2.1.cs)++([.list (q.1.2.2.2.2.map Bv) .none]))))]++Xk35),Rk35,L⟩∧Owns Rw Rk35 [(2,G.length,Q)] am∧Hv rec n (CL rec n a0 a1 a2 ml15) a1 a2 u o q G=some r) ?_ ?_
    ·intro K36 bd
     refine rg [4,5,7,9,11,12,40,41,42,66] hs ?_
     refine BN h hs ?_ ?_<;>intro hs h
     ·have ai:=hs.1
      obtain ⟨c3,b6,h⟩:=bind_some h
      obtain ⟨ct,br,h⟩:=bind_some h
      apply OM Oo [5] [4,5,7,9,11,12,40,41,42] kr (fun s=>∃ (X:Am) (rows:Aq) (w:List AV),s=⟨(B.set t w)++([a0.cs,a1.cs,[.val (.string a2)],[.clo 106 [.box t 0]],Ak o.1::(.val (.string o.2.1)::(Ak o.2.2.1::((o.2.2.2.1.cs)++([.list (o.2.2.2.2.map Bv) .none])))),Ak q.1.1::(.val (.string q.1.2.1)::(Ak q.1.2.2.1::((q.1.2.2.2.1.cs)++([.list (q.1.2.2.2.2.map Bv) .none]))))]++X),rows,L⟩) 2 (B.length+6)
      ·simp +decide only [go_sem,Nat.reduceAdd]
      ·rintro s ⟨X,rows,w,rfl⟩
       refine ⟨2,?_⟩
       rw [Ap];simp +decide only [go_sem,Nat.reduceAdd,EI,Aw b,d,g,k,c,j,ai]
       (repeat' apply Ad)<;>first | refine As _ (E7 w0 _ _ _ o.2.1 (B.length+1) a1 (ef hs) (B.length+2) a2 (ef hs) _ b6) (hv hs) ?_ | exact cl
       rw [Ap];simp +decide only [go_sem,Nat.reduceAdd,Aw b,d,g,k,c,j,ai]
       (repeat' apply Ad)<;>first | rfl | exact cl
      ·refine Good.mk [5] kr ⟨[],_,_,by first | rfl | simp only [List.append_nil,List.nil_append]⟩ ?_ ?_
       ·intro h;exact absurd h (by decide)
       ·intro i hi;simp only [List.mem_cons,List.not_mem_nil,or_false] at hi
        subst hi
        ·apply KH rfl rfl ev rfl
         ·simp +decide only [go_sem,Nat.reduceAdd,Aw b,d,g,k,c,j,ai]
         ·simp +decide only [go_sem,Nat.reduceAdd,Aw b,d,g,k,c,j,ai]
         ·simp +decide only [go_sem,Nat.reduceAdd,Aw b,d,g,k,c,j,ai]
          exact (Dl w0 _ _ _ c3 3 t z D (ef hs) l.enter _ br).pub (hv hs)
         ·rintro _ _ ⟨rfl,Rg41,cc,rfl,au⟩
          have l:=l.call au
          simp +decide only [go_sem,Nat.reduceAdd,Aw b,d,g,k,c,j,ai]
          refine Good.mk [] kr ⟨[],_,_,by first | rfl | simp only [List.append_nil,List.nil_append]⟩ ?_ ?_
          ·intro _;refine ⟨_,_,GP [4,5,7,9,11,12,40,41,42] (by first | (simp +decide only [go_sem,Nat.reduceAdd,Aw b,d,g,k,c,j,ai];done) | (simp +decide only [go_sem,Nat.reduceAdd,Aw b,d,g,k,c,j,ai];rfl)),?_⟩
           try simp +decide only [go_sem,Nat.reduceAdd,Aw b,d,g,k,c,j,ai]
           (repeat' apply Ad)<;>first | refine bd _ _ ⟨ct,cc,([]),Rg41,ef hs,ef hs,Owns.of_eq (l) Kr,h⟩ | exact cl
          ·intro i hi;cases hi
     have ai:=hs.1
     exact go (tg (a:=([4,5,7,9,11,12,40,41,42],()))) h hs hN af ae p l trivial (q1 bd)
    ·clear h;rintro e st ⟨G,Q,Xk35,Rk35,rfl,rfl,l,h⟩
     rw [Hv] at h
     have hU:=l.unders
     simp only [List.mem_cons,List.not_mem_nil,or_false,forall_eq_or_imp,forall_eq] at hU
     refine JM hN af ae Lj (Az (GB p l.len) ow) l ow ow ?_
     refine AA (fun e st=>∃ (J:List (ByteArray × Int)) (U:Ev.Own) (Xk44:Am) (Rk44:Aq),e=[(4,true,.box B.length 0),(5,true,.box (B.length+1) 0),(7,true,.box (B.length+3) 0),(9,true,.clo 186 [.box (B.length+1) 0,.box (B.length+2) 0]),(11,true,.box (B.length+4) 0),(12,true,.box (B.length+5) 0),(40,true,.list (a1.fields.map ET) .none),(41,true,Ak (a1.fields.length:Int)),(42,true,Ak u)]∧st=⟨(B.set t ([.list (J.map Nn) U]))++([a0.cs,a1.cs,[.val (.string a2)],[.clo 106 [.box t 0]],Ak o.1::(.val (.string o.2.1)::(Ak o.2.2.1::((o.2.2.2.1.cs)++([.list (o.2.2.2.2.map Bv) .none])))),Ak q.1.1::(.val (.string q.1.2.1)::(Ak q.1.2.2.1::((q.1.2.2.2.1.cs)++([.list (q.1.2.2.2.2.map Bv) .none]))))]++Xk44),Rk44,L⟩∧Owns Rw Rk44 [(2,J.length,U)] am∧G4 rec n (CL rec n a0 a1 a2 ml15) a1 a2 u o q J=some r) ?_ ?_
     ·intro K45 ba
      refine rg [4,5,7,9,11,12,40,41,42,77] hs ?_
      refine BN h hs ?_ ?_<;>intro hs h
      ·have ah:=hs.1
       obtain ⟨cq,cd,h⟩:=bind_some h
       obtain ⟨ck,b5,h⟩:=bind_some h
       apply OM Oo [5] [4,5,7,9,11,12,40,41,42] kr (fun s=>∃ (X:Am) (rows:Aq) (w:List AV),s=⟨(B.set t w)++([a0.cs,a1.cs,[.val (.string a2)],[.clo 106 [.box t 0]],Ak o.1::(.val (.string o.2.1)::(Ak o.2.2.1::((o.2.2.2.1.cs)++([.list (o.2.2.2.2.map Bv) .none])))),Ak q.1.1::(.val (.string q.1.2.1)::(Ak q.1.2.2.1::((q.1.2.2.2.1.cs)++([.list (q.1.2.2.2.2.map Bv) .none]))))]++X),rows,L⟩) 2 (B.length+6)
       ·simp +decide only [go_sem,Nat.reduceAdd]
       ·rintro s ⟨X,rows,w,rfl⟩
        refine ⟨2,?_⟩
        rw [Ap];simp +decide only [go_sem,Nat.reduceAdd,EI,Aw b,d,g,k,c,j,ah]
        (repeat' apply Ad)<;>first | refine As _ (E7 w0 _ _ _ o.2.1 (B.length+1) a1 (ef hs) (B.length+2) a2 (ef hs) _ cd) (hv hs) ?_ | exact cl
        rw [Ap];simp +decide only [go_sem,Nat.reduceAdd,Aw b,d,g,k,c,j,ah]
        (repeat' apply Ad)<;>first | rfl | exact cl
       ·refine Good.mk [5] kr ⟨[],_,_,by first | rfl | simp only [List.append_nil,List.nil_append]⟩ ?_ ?_
        ·intro h;exact absurd h (by decide)
        ·intro i hi;simp only [List.mem_cons,List.not_mem_nil,or_false] at hi
         subst hi
         ·apply KH rfl rfl ev rfl
          ·simp +decide only [go_sem,Nat.reduceAdd,Aw b,d,g,k,c,j,ah]
          ·simp +decide only [go_sem,Nat.reduceAdd,Aw b,d,g,k,c,j,ah]
          ·simp +decide only [go_sem,Nat.reduceAdd,Aw b,d,g,k,c,j,ah]
           exact (Dl w0 _ _ _ cq 4 t G Q (ef hs) l.enter _ b5).pub (hv hs)
          ·rintro _ _ ⟨rfl,Rg50,bp,rfl,ar⟩
           have l:=l.call ar
           simp +decide only [go_sem,Nat.reduceAdd,Aw b,d,g,k,c,j,ah]
           refine Good.mk [] kr ⟨[],_,_,by first | rfl | simp only [List.append_nil,List.nil_append]⟩ ?_ ?_
           ·intro _;refine ⟨_,_,GP [4,5,7,9,11,12,40,41,42] (by first | (simp +decide only [go_sem,Nat.reduceAdd,Aw b,d,g,k,c,j,ah];done) | (simp +decide only [go_sem,Nat.reduceAdd,Aw b,d,g,k,c,j,ah];rfl)),?_⟩
            try simp +decide only [go_sem,Nat.reduceAdd,Aw b,d,g,k,c,j,ah]
            (repeat' apply Ad)<;>first | refine ba _ _ ⟨ck,bp,([]),Rg50,ef hs,ef hs,Owns.of_eq (l) Kr,h⟩ | exact cl
           ·intro i hi;cases hi
      have ah:=hs.1
      exact go (tg (a:=([4,5,7,9,11,12,40,41,42],()))) h hs hN af ae p l trivial (q1 ba)
     ·clear h;rintro e st ⟨J,U,Xk44,Rk44,rfl,rfl,l,h⟩
      rw [G4] at h
      have hU:=l.unders
      simp only [List.mem_cons,List.not_mem_nil,or_false,forall_eq_or_imp,forall_eq] at hU
      refine JM hN af ae Lj (Az (GB p l.len) ow) l ow ow ?_
      obtain ⟨c2,b3,h⟩:=bind_some h
      obtain ⟨ch,bl,h⟩:=bind_some h
      apply OM Oo [9] [4,5,7,9,40,41,42] kr (fun s=>∃ (X:Am) (rows:Aq) (w:List AV),s=⟨(B.set t w)++([a0.cs,a1.cs,[.val (.string a2)],[.clo 106 [.box t 0]],Ak o.1::(.val (.string o.2.1)::(Ak o.2.2.1::((o.2.2.2.1.cs)++([.list (o.2.2.2.2.map Bv) .none])))),Ak q.1.1::(.val (.string q.1.2.1)::(Ak q.1.2.2.1::((q.1.2.2.2.1.cs)++([.list (q.1.2.2.2.2.map Bv) .none]))))]++X),rows,L⟩) 2 (B.length+6)
      ·simp +decide only [go_sem,Nat.reduceAdd]
      ·rintro s ⟨X,rows,w,rfl⟩
       refine ⟨2,?_⟩
       rw [Ap];simp +decide only [go_sem,Nat.reduceAdd,EI,Aw b,d,g,k,c,j]
       (repeat' apply Ad)<;>first | refine As _ (E7 w0 _ _ _ o.2.1 (B.length+1) a1 (ef hs) (B.length+2) a2 (ef hs) _ b3) (hv hs) ?_ | exact cl
       rw [Ap];simp +decide only [go_sem,Nat.reduceAdd,Aw b,d,g,k,c,j]
       (repeat' apply Ad)<;>first | rfl | exact cl
      ·refine Good.mk [9] kr ⟨[],_,_,by first | rfl | simp only [List.append_nil,List.nil_append]⟩ ?_ ?_
       ·intro h;exact absurd h (by decide)
       ·intro i hi;simp only [List.mem_cons,List.not_mem_nil,or_false] at hi
        subst hi
        ·apply KH rfl rfl ev rfl
         ·simp +decide only [go_sem,Nat.reduceAdd,Aw b,d,g,k,c,j]
         ·simp +decide only [go_sem,Nat.reduceAdd,Aw b,d,g,k,c,j]
         ·simp +decide only [go_sem,Nat.reduceAdd,Aw b,d,g,k,c,j]
          exact (ih _ _ _ q.1.2.2.2.1 o.2.2.2.1 c2 t J U (ef hs) l.enter _ bl).pub (hv hs)
         ·rintro _ _ ⟨rfl,Rg54,b1,rfl,ay⟩
          have l:=l.call ay
          simp +decide only [go_sem,Nat.reduceAdd,Aw b,d,g,k,c,j]
          refine Good.mk [] kr ⟨[],_,_,by first | rfl | simp only [List.append_nil,List.nil_append]⟩ ?_ ?_
          ·intro _;refine ⟨_,_,GP [4,5,7,9,40,41,42] (by first | (simp +decide only [go_sem,Nat.reduceAdd,Aw b,d,g,k,c,j];done) | (simp +decide only [go_sem,Nat.reduceAdd,Aw b,d,g,k,c,j];rfl)),?_⟩
           try simp +decide only [go_sem,Nat.reduceAdd,Aw b,d,g,k,c,j]
           (repeat' apply Ad)<;>first | refine bb _ _ ⟨ch,b1,([Ak o.1::(.val (.string o.2.1)::(Ak o.2.2.1::((o.2.2.2.1.cs)++([.list (o.2.2.2.2.map Bv) .none])))),Ak q.1.1::(.val (.string q.1.2.1)::(Ak q.1.2.2.1::((q.1.2.2.2.1.cs)++([.list (q.1.2.2.2.2.map Bv) .none]))))]),Rg54,ef hs,ef hs,Owns.of_eq (l) Kr,h⟩ | exact cl
          ·intro i hi;cases hi
   ·clear h;rintro e st ⟨ad,ak,Xk20,Rk20,rfl,rfl,l,h⟩
    rw [Hk] at h
    have hU:=l.unders
    simp only [List.mem_cons,List.not_mem_nil,or_false,forall_eq_or_imp,forall_eq] at hU
    refine JM hN af ae Lj (Az (GB p l.len) ow) l ow ow ?_
    exact go (tg (a:=([4,5,7,9,40,41,42],()))) h hs hN af ae p l trivial (q1 (fun e s=>Vl15 ml15 e s (Nat.lt_succ_self _)))
  ·clear h;rintro e st ⟨K,Y,Xk12,Rk12,rfl,rfl,l,h⟩
   rw [Jj] at h
   have hU:=l.unders
   simp only [List.mem_cons,List.not_mem_nil,or_false,forall_eq_or_imp,forall_eq] at hU
   refine JM hN af ae Lj (Az (GB p l.len) ow) l ow ow ?_
   refine rg [5,7,9,96,97,98] hs ?_
   apply Ao
   refine AL (fun m e st=>∃ (aa:Int) (H:List (ByteArray × Int)) (V:Ev.Own) (Xl58:Am) (Rl58:Aq),e=[(5,true,.box (B.length+1) 0),(7,true,.box (B.length+3) 0),(9,true,.clo 186 [.box (B.length+1) 0,.box (B.length+2) 0]),(96,true,.list (a0.fields.map ET) .none),(97,true,Ak (a0.fields.length:Int)),(98,true,Ak aa)]∧st=⟨(B.set t ([.list (H.map Nn) V]))++([a0.cs,a1.cs,[.val (.string a2)],[.clo 106 [.box t 0]]]++Xl58),Rl58,L⟩∧Owns Rw Rl58 [(2,H.length,V)] am∧EH rec n a0 a1 a2 m aa H=some r) n ⟨0,K,Y,([]),Rk12,ef hs,ef hs,Owns.of_eq (l) Kr,h⟩ ?_
   rintro ml58 e st ⟨aa,H,V,Xl58,Rl58,rfl,rfl,l,h⟩ Ul58 Vl58
   cases ml58 with
   | zero=>cases h
   | succ ml58 =>
   rw [EH] at h
   have hU:=l.unders
   simp only [List.mem_cons,List.not_mem_nil,or_false,forall_eq_or_imp,forall_eq] at hU
   refine JM hN af ae Lj (Az (GB p l.len) ow) l ow ow ?_
   refine rg [5,7,9,96,97,98,99] hs ?_
   apply An;intro K60 a7
   refine BN h hs ?_ ?_<;>intro hs h
   rotate_left
   ·have Z:=hs.1
    refine Jf (EY [] _) ?_ (Dx _ _)
    apply LK;simp +decide only [go_sem,Nat.reduceAdd]
    (repeat' with_reducible apply Ad)<;>first | exact cl | skip
    have hgt:=Option.some.inj h;subst hgt
    have hU:=l.unders
    simp only [List.mem_cons,List.not_mem_nil,or_false,forall_eq_or_imp,forall_eq] at hU
    refine UY l (Az (GB p l.len) ow) Lj ev ⟨?_,_,_,?_,(l.sub (List.sublist_append_left [_] _)).len1 Kr⟩
    all_goals first | rfl | (simp +decide only [go_sem,Nat.reduceAdd,Aw b,d,g,Z];done) | (simp +decide only [go_sem,Nat.reduceAdd,Vl.cs,Ty.cs,Aw b,d,g,Z];done)
   have Z:=hs.1
   refine sk [5,7,9,96,97,98] hs a7 ?_
   clear a7
   refine AA (fun e st=>∃ (ab:List (ByteArray × Int)) (aj:Ev.Own) (Xk63:Am) (Rk63:Aq),e=[(5,true,.box (B.length+1) 0),(7,true,.box (B.length+3) 0),(9,true,.clo 186 [.box (B.length+1) 0,.box (B.length+2) 0]),(96,true,.list (a0.fields.map ET) .none),(97,true,Ak (a0.fields.length:Int)),(98,true,Ak aa)]∧st=⟨(B.set t ([.list (ab.map Nn) aj]))++([a0.cs,a1.cs,[.val (.string a2)],[.clo 106 [.box t 0]]]++Xk63),Rk63,L⟩∧Owns Rw Rk63 [(2,ab.length,aj)] am∧G3 rec n (EH rec n a0 a1 a2 ml58) aa ab=some r) ?_ ?_
   ·intro K64 bg
    apply Ao
    obtain ⟨ap,b7,h⟩:=bind_some h
    obtain ⟨c0,cr,bi⟩:=B9 b7
    have F:=C5 (f:=ET) bi
    have hs:=Ad F hs
    refine rg [5,7,9,15,96,97,98] hs ?_
    obtain ⟨aq,bo,h⟩:=bind_some h
    refine rc 2 [5,7,9,15,17,96,97,98] hs ?_;intro K67 a6
    refine As _ (EO w0 n _ _ _ a1.fields ap.1 _ bo) (hv hs) ?_
    refine ne hs a6 ?_
    clear a6
    refine rg [5,7,9,15,96,97,98,111] hs ?_
    refine BN h hs ?_ ?_<;>intro hs h
    ·have ag:=hs.1
     obtain ⟨c1,bq,h⟩:=bind_some h
     obtain ⟨cw,bt,h⟩:=bind_some h
     apply OM Oo [5] [5,7,9,96,97,98] kr (fun s=>∃ (X:Am) (rows:Aq) (w:List AV),s=⟨(B.set t w)++([a0.cs,a1.cs,[.val (.string a2)],[.clo 106 [.box t 0]],Ak ap.1::(.val (.string ap.2.1)::(Ak ap.2.2.1::((ap.2.2.2.1.cs)++([.list (ap.2.2.2.2.map Bv) .none])))),Ak aq.1.1::(.val (.string aq.1.2.1)::(Ak aq.1.2.2.1::((aq.1.2.2.2.1.cs)++([.list (aq.1.2.2.2.2.map Bv) .none]))))]++X),rows,L⟩) 2 (B.length+6)
     ·simp +decide only [go_sem,Nat.reduceAdd]
     ·rintro s ⟨X,rows,w,rfl⟩
      refine ⟨2,?_⟩
      rw [Ap];simp +decide only [go_sem,Nat.reduceAdd,EI,Aw b,d,g,Z,F,ag]
      (repeat' apply Ad)<;>first | refine As _ (E7 w0 _ _ _ ap.2.1 (B.length+1) a1 (ef hs) (B.length+2) a2 (ef hs) _ bq) (hv hs) ?_ | exact cl
      rw [Ap];simp +decide only [go_sem,Nat.reduceAdd,Aw b,d,g,Z,F,ag]
      (repeat' apply Ad)<;>first | rfl | exact cl
     ·refine Good.mk [5] kr ⟨[],_,_,by first | rfl | simp only [List.append_nil,List.nil_append]⟩ ?_ ?_
      ·intro h;exact absurd h (by decide)
      ·intro i hi;simp only [List.mem_cons,List.not_mem_nil,or_false] at hi
       subst hi
       ·apply KH rfl rfl ev rfl
        ·simp +decide only [go_sem,Nat.reduceAdd,Aw b,d,g,Z,F,ag]
        ·simp +decide only [go_sem,Nat.reduceAdd,Aw b,d,g,Z,F,ag]
        ·simp +decide only [go_sem,Nat.reduceAdd,Aw b,d,g,Z,F,ag]
         exact (Dl w0 _ _ _ c1 2 t H V (ef hs) l.enter _ bt).pub (hv hs)
        ·rintro _ _ ⟨rfl,Rg73,ca,rfl,aw⟩
         have l:=l.call aw
         simp +decide only [go_sem,Nat.reduceAdd,Aw b,d,g,Z,F,ag]
         refine Good.mk [] kr ⟨[],_,_,by first | rfl | simp only [List.append_nil,List.nil_append]⟩ ?_ ?_
         ·intro _;refine ⟨_,_,GP [5,7,9,96,97,98] (by first | (simp +decide only [go_sem,Nat.reduceAdd,Aw b,d,g,Z,F,ag];done) | (simp +decide only [go_sem,Nat.reduceAdd,Aw b,d,g,Z,F,ag];rfl)),?_⟩
          try simp +decide only [go_sem,Nat.reduceAdd,Aw b,d,g,Z,F,ag]
          (repeat' apply Ad)<;>first | refine bg _ _ ⟨cw,ca,([Ak ap.1::(.val (.string ap.2.1)::(Ak ap.2.2.1::((ap.2.2.2.1.cs)++([.list (ap.2.2.2.2.map Bv) .none])))),Ak aq.1.1::(.val (.string aq.1.2.1)::(Ak aq.1.2.2.1::((aq.1.2.2.2.1.cs)++([.list (aq.1.2.2.2.2.map Bv) .none]))))]),Rg73,ef hs,ef hs,Owns.of_eq (l) Kr,h⟩ | exact cl
         ·intro i hi;cases hi
    have ag:=hs.1
    exact go (tg (a:=([5,7,9,96,97,98],()))) h hs hN af ae p l trivial (q1 bg)
   ·clear h;rintro e st ⟨ab,aj,Xk63,Rk63,rfl,rfl,l,h⟩
    rw [G3] at h
    have hU:=l.unders
    simp only [List.mem_cons,List.not_mem_nil,or_false,forall_eq_or_imp,forall_eq] at hU
    refine JM hN af ae Lj (Az (GB p l.len) ow) l ow ow ?_
    exact go (tg (a:=([5,7,9,96,97,98],()))) h hs hN af ae p l trivial (q1 (fun e s=>Vl58 ml58 e s (Nat.lt_succ_self _)))
 have g:=hs.1
 refine rg [4,5,6,7,8,119] hs ?_
 refine BN h hs ?_ ?_<;>intro hs h
 ·have v:=hs.1
  refine AA (fun e st=>∃ (N:List (ByteArray × Int)) (O:Ev.Own) (Xk79:Am) (Rk79:Aq),e=[(4,true,.box B.length 0),(5,true,.box (B.length+1) 0),(6,true,.box (B.length+2) 0),(7,true,.box (B.length+3) 0)]∧st=⟨(B.set t ([.list (N.map Nn) O]))++([a0.cs,a1.cs,[.val (.string a2)],[.clo 106 [.box t 0]]]++Xk79),Rk79,L⟩∧Owns Rw Rk79 [(2,N.length,O)] am∧HB rec n a0 a1 a2 N=some r) ?_ ?_
  ·intro K80 bf
   refine rg [4,5,6,7,8,134] hs ?_
   refine BN h hs ?_ ?_<;>intro hs h
   ·obtain ⟨cp,bx,h⟩:=bind_some h
    refine rk 3 [4,5,6,7] hs ?_
    refine As _ (IP w0 _ _ _ a0 a1) (hv hs) ?_
    refine nc hs ?_
    refine BF _ (LX w0 _ _ _ (Ek a0 a1) t a3 am (ef hs) l.enter (B.length+3) (ef hs) (B.length+2) a2 (ef hs) _ bx) (hv hs) ?_;rintro _ _ ⟨rfl,Rg84,b4,rfl,az⟩
    have l:=l.call az
    refine ne hs bf ?_
    exact ⟨cp,b4,([]),Rg84,ef hs,ef hs,Owns.of_eq (l) Kr,h⟩
   refine sk [4,5,6,7] hs bf ?_
   exact ⟨a3,am,([]),Rw,ef hs,ef hs,Owns.of_eq (l) Kr,h⟩
  ·clear h;rintro e st ⟨N,O,Xk79,Rk79,rfl,rfl,l,h⟩
   rw [HB] at h
   have hU:=l.unders
   simp only [List.mem_cons,List.not_mem_nil,or_false,forall_eq_or_imp,forall_eq] at hU
   refine JM hN af ae Lj (Az (GB p l.len) ow) l ow ow ?_
   obtain ⟨cv,cz,co,y,h⟩:=ix Ny h
   have E:(a0.elem.map Ny).getD 0 .junk=_:=y
   obtain ⟨cf,ci,cn,x,h⟩:=ix Ny h
   have C:(a1.elem.map Ny).getD 0 .junk=_:=x
   obtain ⟨b9,h⟩:=Au h
   have bk:=b9
   try simp +decide only [go_sem] at bk
   obtain ⟨c8,bn,h⟩:=bind_some h
   apply OM Oo [11] [] kr (fun s=>∃ (X:Am) (rows:Aq) (w:List AV),s=⟨(B.set t w)++([a0.cs,a1.cs,[.val (.string a2)],[.clo 106 [.box t 0]]]++X),rows,L⟩) 2 (B.length+4)
   ·simp +decide only [go_sem,Nat.reduceAdd]
   ·rintro s ⟨X,rows,w,rfl⟩
    refine ⟨1,?_⟩
    rw [Ap];simp +decide only [go_sem,Nat.reduceAdd,EI,Aw b,d,g,v,y,E,x,C]
    (repeat' apply Ad)<;>first | rfl | exact cl
   ·refine Good.mk [11] kr ⟨[],_,_,by first | rfl | simp only [List.append_nil,List.nil_append]⟩ ?_ ?_
    ·intro h;exact absurd h (by decide)
    ·intro i hi;simp only [List.mem_cons,List.not_mem_nil,or_false] at hi
     subst hi
     ·apply KH rfl rfl ev rfl
      ·simp +decide only [go_sem,Nat.reduceAdd,Aw b,d,g,v,y,E,x,C]
      ·simp +decide only [go_sem,Nat.reduceAdd,Aw b,d,g,v,y,E,x,C]
      ·simp +decide only [go_sem,Nat.reduceAdd,Aw b,d,g,v,y,E,x,C]
       have hs:=Ad y hs
       have hs:=Ad E hs
       have hs:=Ad x hs
       have hs:=Ad C hs
       exact (ih _ _ _ cv cf (a2++((⟨#[91,42,93]⟩:ByteArray))) t N O (ef hs) l.enter _ bn).pub (hv hs)
      ·rintro _ _ ⟨rfl,Rg90,c4,rfl,a4⟩
       have l:=l.call a4
       simp +decide only [go_sem,Nat.reduceAdd,Aw b,d,g,v,y,E,x,C]
       refine Good.mk [] kr ⟨[],_,_,by first | rfl | simp only [List.append_nil,List.nil_append]⟩ ?_ ?_
       ·intro _;refine ⟨_,_,GP [] (by first | (simp +decide only [go_sem,Nat.reduceAdd,Aw b,d,g,v,y,E,x,C];done) | (simp +decide only [go_sem,Nat.reduceAdd,Aw b,d,g,v,y,E,x,C];rfl)),?_⟩
        try simp +decide only [go_sem,Nat.reduceAdd,Aw b,d,g,v,y,E,x,C]
        (repeat' with_reducible apply Ad)<;>first | exact cl | skip
        have hgt:=Option.some.inj h;subst hgt
        have hU:=l.unders
        simp only [List.mem_cons,List.not_mem_nil,or_false,forall_eq_or_imp,forall_eq] at hU
        refine UY l (Az (GB p l.len) ow) Lj ev ⟨?_,_,_,?_,(l.sub (List.sublist_append_left [_] _)).len1 Kr⟩
        all_goals first | rfl | (simp +decide only [go_sem,Nat.reduceAdd,Aw b,d,g,v,y,E,x,C];done) | (simp +decide only [go_sem,Nat.reduceAdd,Vl.cs,Ty.cs,Aw b,d,g,v,y,E,x,C];done)
       ·intro i hi;cases hi
 have v:=hs.1
 obtain ⟨da,bv,h⟩:=bind_some h
 refine rc 2 [4,5,8,152] hs ?_;intro K92 a8
 refine As _ (XD w0 n _ _ _ a0 a1 _ bv) (hv hs) ?_
 refine ne hs a8 ?_
 clear a8
 refine BN h hs ?_ ?_<;>intro hs h
 ·have ao:=hs.1
  obtain ⟨cu,b0,h⟩:=bind_some h
  obtain ⟨c7,bu,h⟩:=bind_some h
  apply Ax 3 []
  rw [Ap];simp +decide only [go_sem,Nat.reduceAdd,Aw b,d,g,v,ao]
  (repeat' apply Ad)<;>first | refine As _ (D6 w0 n _ _ _ a0 a1 _ b0) (hv hs) ?_ | exact cl
  rw [Ap];simp +decide only [go_sem,Nat.reduceAdd,Aw b,d,g,v,ao]
  (repeat' apply Ad)<;>first | (refine BF _ (LX w0 _ _ _ cu t a3 am (ef hs) l.enter (B.length+3) (ef hs) (B.length+2) a2 (ef hs) _ bu) (hv hs) ?_;rintro _ _ ⟨rfl,Rg97,c5,rfl,ax⟩) | exact cl
  have l:=l.call ax
  rw [Ap];simp +decide only [go_sem,Nat.reduceAdd,Aw b,d,g,v,ao]
  (repeat' with_reducible apply Ad)<;>first | exact cl | skip
  have hgt:=Option.some.inj h;subst hgt
  have hU:=l.unders
  simp only [List.mem_cons,List.not_mem_nil,or_false,forall_eq_or_imp,forall_eq] at hU
  refine UY l (Az (GB p l.len) ow) Lj ev ⟨?_,_,_,?_,(l.sub (List.sublist_append_left [_] _)).len1 Kr⟩
  all_goals first | rfl | (simp +decide only [go_sem,Nat.reduceAdd,Aw b,d,g,v,ao];done) | (simp +decide only [go_sem,Nat.reduceAdd,Vl.cs,Ty.cs,Aw b,d,g,v,ao];done)
 have ao:=hs.1
 refine Jf (EY [] _) ?_ (Dx _ _)
 apply Dj;simp +decide only [go_sem,Nat.reduceAdd]
 (repeat' with_reducible apply Ad)<;>first | exact cl | skip
 have hgt:=Option.some.inj h;subst hgt
 have hU:=l.unders
 simp only [List.mem_cons,List.not_mem_nil,or_false,forall_eq_or_imp,forall_eq] at hU
 refine UY l (GB p l.len) rfl ev ⟨?_,_,_,?_,(l.sub (List.sublist_append_left [_] _)).len1 Kr⟩
 all_goals first | rfl | (simp +decide only [go_sem,Nat.reduceAdd,Aw b,d,g,v,ao];done) | (simp +decide only [go_sem,Nat.reduceAdd,Vl.cs,Ty.cs,Aw b,d,g,v,ao];done)
theorem NU (w0:World):∀ n:Nat,KE w0 (IV n)
 | 0=>fun _ _ _ _ _ _ _ _ _ _ _ _ h=>(nomatch h)
 | n+1=>Ry w0 (IV n) (NU w0 n) n
def Kz (n:Nat) (q:Ty) (g:Ty):Option ((List (ByteArray × Int)) × Int) :=
 (Ef n q g).bind fun h =>
 if !(decide (h=0)) then
  some (([],h))
 else
  (IV n q g (⟨#[]⟩:ByteArray) ([])).bind fun b =>
  some ((b,0))
theorem T0 (w0:World) (hT:Lib.Utf8Tabs 2 3 w0) (n:Nat) (B:Am) (Rw:Aq) (L:Ar) (a0:Ty) (a1:Ty) (r:(List (ByteArray × Int)) × Int) (h:Kz n a0 a1=some r) :
  ACalls Tryz.prog w0 39 [.agg (a0.cs),.agg (a1.cs)] ⟨B,Rw,L⟩ fun x st=>x = .tup [.list (r.1.map Nn) .none,Ak r.2]∧st=⟨B,Rw,L⟩:=by
 rw [Kz] at h
 refine hd [.tmp 4,.tmp 5] Tryz.func39 Tryz.ntmps39 fun M0 W0 p m k a q c hs=>?_
 simp only [AG]
 refine rg [2,3] hs ?_
 apply An;intro K2 g
 obtain ⟨o,i,h⟩:=bind_some h
 refine rc 2 [2,3,6] hs ?_;intro K3 d
 refine As _ (LU w0 hT n _ _ _ a0 a1 _ i) (hv hs) ?_
 refine ne hs d ?_
 clear d
 refine rg [2,3,6,12] hs ?_
 refine BN h hs ?_ ?_<;>intro hs h
 ·refine rg [4,5] hs ?_
  exact rt h hs a c
 refine sk [2,3] hs g ?_
 clear g
 refine rg [2,3,7] hs ?_
 have c:=c.full 2 0
 obtain ⟨l,f,h⟩:=bind_some h
 refine rc 2 [7] hs ?_;intro K9 e
 refine BF _ (NU w0 n _ _ _ a0 a1 (⟨#[]⟩:ByteArray) (B.length+2) ([]) .full (ef hs) c.enter _ f) (hv hs) ?_;rintro _ _ ⟨rfl,Rg12,j,rfl,b⟩
 have c:=c.call b
 refine ne hs e ?_
 clear e
 refine rg [4,5] hs ?_
 exact rt h hs a c
def Ho  : Ty :=
 Ty.mk 9 0 0 0 ([]) ([]) ([(2,(⟨#[114,101,109,97,114,107]⟩:ByteArray),2,Ty.mk 4 0 40 0 ([]) ([]) ([]),[]),(1,(⟨#[105,100]⟩:ByteArray),1,Ty.mk 3 0 9999 2 ([]) ([]) ([]),[]),(3,(⟨#[107,105,110,100]⟩:ByteArray),3,Ty.mk 4 0 0 0 ([(⟨#[97]⟩:ByteArray),(⟨#[98]⟩:ByteArray)]) ([]) ([]),[Vl.mk 4 0 0 ((⟨#[97]⟩:ByteArray)) ([]) ([])])])
theorem Yd (w0:World) (B:Am) (Rw:Aq) (L:Ar)  (r:Ty) (h:Ho  = r) :
  ACalls Tryz.prog w0 38 [] ⟨B,Rw,L⟩ fun x st=>x = .agg (r.cs)∧st=⟨B,Rw,L⟩:=by
 rw [Ho] at h
 refine hd [.cell 0 26] Tryz.func38 Tryz.ntmps38 fun M0 W0 e c b a f d hs=>?_
 simp only [AG]
 refine rg [0] hs ?_
 refine rg [0,1] hs ?_
 refine rg [0] hs ?_
 exact rT h hs a d
theorem QJ (w0:World) (B:Am) (Rw:Aq) (L:Ar)  :
  ACalls Tryz.prog w0 38 [] ⟨B,Rw,L⟩ fun x st=>x = .agg ((Ho ).cs)∧st=⟨B,Rw,L⟩:=Yd w0 B Rw L  _ rfl
def Hr  : Ty :=
 Ty.mk 9 0 0 0 ([]) ([]) ([(1,(⟨#[105,100]⟩:ByteArray),1,Ty.mk 2 0 99 0 ([]) ([]) ([]),[]),(2,(⟨#[110,111,116,101]⟩:ByteArray),2,Ty.mk 4 0 20 0 ([]) ([]) ([]),[])])
theorem Yf (w0:World) (B:Am) (Rw:Aq) (L:Ar)  (r:Ty) (h:Hr  = r) :
  ACalls Tryz.prog w0 37 [] ⟨B,Rw,L⟩ fun x st=>x = .agg (r.cs)∧st=⟨B,Rw,L⟩:=by
 rw [Hr] at h
 refine hd [.cell 0 26] Tryz.func37 Tryz.ntmps37 fun M0 W0 e c b a f d hs=>?_
 simp only [AG]
 refine rg [0] hs ?_
 refine rg [0] hs ?_
 exact rT h hs a d
theorem QM (w0:World) (B:Am) (Rw:Aq) (L:Ar)  :
  ACalls Tryz.prog w0 37 [] ⟨B,Rw,L⟩ fun x st=>x = .agg ((Hr ).cs)∧st=⟨B,Rw,L⟩:=Yf w0 B Rw L  _ rfl
def Iw (n:Nat)  : Option Bool :=
 (FD n (Hr ) (Ho ) (Vl.mk 9 0 0 (⟨#[]⟩:ByteArray) ([]) ([((⟨#[105,100]⟩:ByteArray),Vl.mk 2 5 0 (⟨#[]⟩:ByteArray) ([]) ([])),((⟨#[110,111,116,101]⟩:ByteArray),Vl.mk 4 0 0 ((⟨#[120]⟩:ByteArray)) ([]) ([]))]))).bind fun g =>
 (Kz n (Hr ) (Ho )).bind fun q =>
 if (decide (g.2=0))&&(decide ((g.1.fields.length:Int)=3)) then
  (B1 g.1.fields 0).bind fun x9 =>
  if Eb x9.1 ((⟨#[105,100]⟩:ByteArray)) then
   if decide (x9.2.int=500) then
    (B1 g.1.fields 1).bind fun y =>
    if Eb y.2.text ((⟨#[97]⟩:ByteArray)) then
     (B1 g.1.fields 2).bind fun x14 =>
     if ((Eb x14.1 ((⟨#[114,101,109,97,114,107]⟩:ByteArray)))&&(decide (q.2=0)))&&(decide ((q.1.length:Int)=4)) then
      (B1 q.1 0).bind fun b =>
      if Eb b.1 ((⟨#[114,101,109,97,114,107]⟩:ByteArray))&&(decide (b.2=3)) then
       (B1 q.1 3).bind fun h =>
       some (Eb h.1 ((⟨#[107,105,110,100]⟩:ByteArray))&&(decide (h.2=1)))
      else
       some (false)
     else
      some (false)
    else
     some (false)
   else
    some (false)
  else
   some (false)
 else
  some (false)
theorem N4 (w0:World) (hP:Pow10 w0) (hT:Lib.Utf8Tabs 2 3 w0) (n:Nat) (B:Am) (Rw:Aq) (L:Ar)  (r:Bool) (h:Iw n  = some r) :
  ACalls Tryz.prog w0 8 [] ⟨B,Rw,L⟩ fun x st=>x = .val (.bool r)∧st=⟨B,Rw,L⟩:=by
 rw [Iw] at h
 refine hd [.tmp 0] Tryz.func8 Tryz.ntmps8 fun M0 W0 hN aa Y b hu p hs=>?_
 simp only [AG]
 refine rg [] hs ?_
 refine rg [1] hs ?_
 apply An;intro K3 q
 obtain ⟨v,J,h⟩:=bind_some h
 apply G5 Oo [7,8] [2,3] kr (fun s=>∃ (X:Am) (rows:Aq),s=⟨B++([[Ak 9,Ak 0,Ak 0,.val (.string (⟨#[]⟩:ByteArray)),.list ([]) .full,.list (([((⟨#[105,100]⟩:ByteArray),Vl.mk 2 5 0 (⟨#[]⟩:ByteArray) ([]) ([])),((⟨#[110,111,116,101]⟩:ByteArray),Vl.mk 4 0 0 ((⟨#[120]⟩:ByteArray)) ([]) ([]))]).map BV) .full]]++X),rows,L⟩) 3 (B.length+1)
 ·simp +decide only [go_sem,Nat.reduceAdd]
 ·rintro s ⟨X,rows,rfl⟩
  refine ⟨4,?_⟩
  rw [Ap];simp +decide only [go_sem,Nat.reduceAdd,EI]
  (repeat' apply Ad)<;>first | refine As _ (QM w0 _ _ _ ) (hv hs) ?_ | exact cl
  rw [Ap];simp +decide only [go_sem,Nat.reduceAdd]
  (repeat' apply Ad)<;>first | refine As _ (QJ w0 _ _ _ ) (hv hs) ?_ | exact cl
  rw [Ap];simp +decide only [go_sem,Nat.reduceAdd]
  (repeat' apply Ad)<;>first | refine As _ (NM w0 hP hT n _ _ _ (Hr ) (Ho ) (Vl.mk 9 0 0 (⟨#[]⟩:ByteArray) ([]) ([((⟨#[105,100]⟩:ByteArray),Vl.mk 2 5 0 (⟨#[]⟩:ByteArray) ([]) ([])),((⟨#[110,111,116,101]⟩:ByteArray),Vl.mk 4 0 0 ((⟨#[120]⟩:ByteArray)) ([]) ([]))])) _ J) (hv hs) ?_ | exact cl
  rw [Ap];simp +decide only [go_sem,Nat.reduceAdd]
  (repeat' apply Ad)<;>first | rfl | exact cl
 ·exact gd (tg (a:=(7,8,[2,3]))) hs
 simp +decide only [go_sem,Nat.reduceAdd]
 (repeat' apply Ad)<;>first | refine q _ _ ?_ | exact cl
 clear q
 obtain ⟨w,H,h⟩:=bind_some h
 refine rc 4 [2,3,4,5] hs ?_;intro K5 u
 refine As _ (QM w0 _ _ _ ) (hv hs) ?_
 refine nc hs ?_
 refine As _ (QJ w0 _ _ _ ) (hv hs) ?_
 refine nc hs ?_
 refine As _ (T0 w0 hT n _ _ _ (Hr ) (Ho ) _ H) (hv hs) ?_
 refine ne hs u ?_
 clear u
 apply An;intro K7 c
 rcases Bool.eq_false_or_eq_true ((decide (v.2=0))&&(decide ((v.1.fields.length:Int)=3))) with hf8 | hf8
 ·replace h:=CP h hf8
  obtain ⟨V,U,Q,d,h⟩:=ix BV h
  have f:(v.1.fields.map BV).getD 0 .junk=_:=d
  rcases Bool.eq_false_or_eq_true (Eb V.1 ((⟨#[105,100]⟩:ByteArray))) with hf10 | hf10
  ·replace h:=CP h hf10
   rcases Bool.eq_false_or_eq_true (decide (V.2.int=500)) with hf11 | hf11
   ·replace h:=CP h hf11
    obtain ⟨K,D,E,e,h⟩:=ix BV h
    have g:(v.1.fields.map BV).getD 1 .junk=_:=e
    rcases Bool.eq_false_or_eq_true (Eb K.2.text ((⟨#[97]⟩:ByteArray))) with hf13 | hf13
    ·replace h:=CP h hf13
     obtain ⟨z,y,C,i,h⟩:=ix BV h
     have k:(v.1.fields.map BV).getD 2 .junk=_:=i
     rcases Bool.eq_false_or_eq_true (((Eb z.1 ((⟨#[114,101,109,97,114,107]⟩:ByteArray)))&&(decide (w.2=0)))&&(decide ((w.1.length:Int)=4))) with hf15 | hf15
     ·replace h:=CP h hf15
      obtain ⟨t,N,G,j,h⟩:=ix Nn h
      have m:(w.1.map Nn).getD 0 .junk=_:=j
      rcases Bool.eq_false_or_eq_true (Eb t.1 ((⟨#[114,101,109,97,114,107]⟩:ByteArray))&&(decide (t.2=3))) with hf17 | hf17
      ·replace h:=CP h hf17
       obtain ⟨Z,O,F,l,h⟩:=ix Nn h
       have o:(w.1.map Nn).getD 3 .junk=_:=l
       have hs:=Ad hf8 hs
       have hs:=Ad d hs
       have hs:=Ad f hs
       have hs:=Ad hf10 hs
       have hs:=Ad hf11 hs
       have hs:=Ad e hs
       have hs:=Ad g hs
       have hs:=Ad hf13 hs
       have hs:=Ad i hs
       have hs:=Ad k hs
       have hs:=Ad hf15 hs
       have hs:=Ad j hs
       have hs:=Ad m hs
       have hs:=Ad hf17 hs
       have hs:=Ad l hs
       have hs:=Ad o hs
       refine rl [0] (al hs) c ?_
       clear c
       exact rt h hs b p
      ·replace h:=CO h hf17
       have hs:=Ad hf8 hs
       have hs:=Ad d hs
       have hs:=Ad f hs
       have hs:=Ad hf10 hs
       have hs:=Ad hf11 hs
       have hs:=Ad e hs
       have hs:=Ad g hs
       have hs:=Ad hf13 hs
       have hs:=Ad i hs
       have hs:=Ad k hs
       have hs:=Ad hf15 hs
       have hs:=Ad j hs
       have hs:=Ad m hs
       have hs:=Ad hf17 hs
       refine rl [0] (al hs) c ?_
       clear c
       exact rt h hs b p
     ·replace h:=CO h hf15
      have hs:=Ad hf8 hs
      have hs:=Ad d hs
      have hs:=Ad f hs
      have hs:=Ad hf10 hs
      have hs:=Ad hf11 hs
      have hs:=Ad e hs
      have hs:=Ad g hs
      have hs:=Ad hf13 hs
      have hs:=Ad i hs
      have hs:=Ad k hs
      have hs:=Ad hf15 hs
      refine rl [0] (al hs) c ?_
      clear c
      exact rt h hs b p
    ·replace h:=CO h hf13
     have hs:=Ad hf8 hs
     have hs:=Ad d hs
     have hs:=Ad f hs
     have hs:=Ad hf10 hs
     have hs:=Ad hf11 hs
     have hs:=Ad e hs
     have hs:=Ad g hs
     have hs:=Ad hf13 hs
     refine rl [0] (al hs) c ?_
     clear c
     exact rt h hs b p
   ·replace h:=CO h hf11
    have hs:=Ad hf8 hs
    have hs:=Ad d hs
    have hs:=Ad f hs
    have hs:=Ad hf10 hs
    have hs:=Ad hf11 hs
    refine rl [0] (al hs) c ?_
    clear c
    exact rt h hs b p
  ·replace h:=CO h hf10
   have hs:=Ad hf8 hs
   have hs:=Ad d hs
   have hs:=Ad f hs
   have hs:=Ad hf10 hs
   refine rl [0] (al hs) c ?_
   clear c
   exact rt h hs b p
 ·replace h:=CO h hf8
  have hs:=Ad hf8 hs
  refine rl [0] (al hs) c ?_
  clear c
  exact rt h hs b p
theorem ZgR (m:Nat):Iw (m+100)=some true:=by kernel_rfl
theorem Zd7 (n:Nat) (h:100≤n):Iw n=some true:=by
 obtain ⟨m,rfl⟩:∃ m,n=m+100:=⟨n-100,by omega⟩
 exact ZgR m
theorem Zc4 (n:Nat) (v:Vl) (h:v.size≤4096) (hn:10000≤n):GL n v v=some true:=by
 obtain ⟨c,e,a⟩:=Ze6 n v v (by omega) (by omega)
 rw [e,a.2 rfl]
def It (n:Nat) (b:Ty × Ty):Option Bool :=
 (IJ n b.1).bind fun h =>
 if h then
  (IJ n b.2).bind fun q =>
  if q then
   (Bz n b.1).bind fun y =>
   if decide (y=0) then
    (Bz n b.2).bind fun g =>
    some (decide (g=0))
   else
    some (false)
  else
   some (false)
 else
  some (false)
theorem VT (w0:World) (hT:Lib.Utf8Tabs 2 3 w0) (n:Nat) (B:Am) (Rw:Aq) (L:Ar) (a0:Ty × Ty) (r:Bool) (h:It n a0=some r) :
  ACalls Tryz.prog w0 11 [.agg ((a0.1.cs)++(a0.2.cs))] ⟨B,Rw,L⟩ fun x st=>x = .val (.bool r)∧st=⟨B,Rw,L⟩:=by
 rw [It] at h
 refine hd [.tmp 2] Tryz.func11 Tryz.ntmps11 fun M0 W0 e d c b g f hs=>?_
 simp only [AG]
 exact go (tg (a:=([1],((([2],()),[2],()),[2],()),[2],()))) h hs e d c b f (q2 (NT w0 n) (PQ w0 hT n)) trivial
theorem ZiS (n:Nat) (hn:10000000000≤n) (t:Ty × Ty) (h1:t.1.bulk≤1048576) (h2:t.2.bulk≤1048576) (s1:t.1.depth≤10∧t.1.size≤60) (s2:t.2.depth≤10∧t.2.size≤60) :
  ∃ c1 c2,Bz n t.1=some c1∧Bz n t.2=some c2∧(c1=0→t.1.Fine 8)∧(c2=0→t.2.Fine 8)∧It n t=some (decide (c1=0)&&decide (c2=0))∧Ef n t.1 t.2=some (if c1=0 then c2 else c1):=by
 have f:=t.1.size_bulk
 have e:=t.2.size_bulk
 obtain ⟨c1,b,c⟩:=Vg n t.1 (by omega) (Ty.small_of h1 (by omega) (by omega))
 obtain ⟨c2,a,d⟩:=Vg n t.2 (by omega) (Ty.small_of h2 (by omega) (by omega))
 refine ⟨c1,c2,b,a,c,d,?_,?_⟩
 ·rw [It,Pj n t.1 (by omega) (by omega),Ae,Ag s1,Ah rfl,Pj n t.2 (by omega) (by omega),Ae,Ag s2,Ah rfl,b,Ae]
  by_cases z:c1=0
  ·rw [Ag z,Ah rfl,a,Ae,Bool.true_and]
  ·rw [Af z,Ai (by decide),Bool.false_and]
 ·rw [Ef,b,Ae]
  by_cases z:c1=0
  ·rw [Ag z,Ai (by decide),a,Ae,Ah z]
  ·rw [Af z,Ah (by rfl),Ai z]
@[go_sem] theorem ZlK (a b:Ty):List.take 14 (a.cs++b.cs)=a.cs++b.cs:=List.take_of_length_le (by simp [Ty.cs_length])
def LD (n:Nat) (b:Ty) (g:Vl):Option Bool :=
 (Bz n b).bind fun h =>
 if decide (h=0) then
  (JG n b g).bind fun q =>
  some (q)
 else
  some (false)
theorem Z3 (w0:World) (hT:Lib.Utf8Tabs 2 3 w0) (n:Nat) (B:Am) (Rw:Aq) (L:Ar) (a0:Ty) (a1:Vl) (r:Bool) (h:LD n a0 a1=some r) :
  ACalls Tryz.prog w0 45 [.agg (a0.cs),.agg (a1.cs)] ⟨B,Rw,L⟩ fun x st=>x = .val (.bool r)∧st=⟨B,Rw,L⟩:=by
 rw [LD] at h
 refine hd [.tmp 4] Tryz.func45 Tryz.ntmps45 fun M0 W0 e d c b g f hs=>?_
 simp only [AG]
 exact go (tg (a:=([2,3],([4],()),[4],()))) h hs e d c b f (q2 (PQ w0 hT n) (Ui w0 hT n)) trivial
def Ci (n:Nat) (g:Ty) (h:Ty):Option (Vl × Bool) :=
 (Ef n g h).bind fun y =>
 if !(decide (y=0)) then
  some ((Vl.mk 0 0 0 (⟨#[]⟩:ByteArray) ([]) ([]),false))
 else
  (AN n g h).bind fun y8 =>
  if y8 then
   some ((Vl.mk 0 0 0 (⟨#[]⟩:ByteArray) ([]) ([]),false))
  else
   (CU n g h).bind fun b =>
   (LD n g b).bind fun q =>
   if !q then
    some ((Vl.mk 0 0 0 (⟨#[]⟩:ByteArray) ([]) ([]),false))
   else
    some ((b,true))
theorem S1 (w0:World) (hT:Lib.Utf8Tabs 2 3 w0) (n:Nat) (B:Am) (Rw:Aq) (L:Ar) (a0:Ty) (a1:Ty) (r:Vl × Bool) (h:Ci n a0 a1=some r) :
  ACalls Tryz.prog w0 10 [.agg (a0.cs),.agg (a1.cs)] ⟨B,Rw,L⟩ fun x st=>x = .tup [.agg (r.1.cs),.val (.bool r.2)]∧st=⟨B,Rw,L⟩:=by
 rw [Ci] at h
 refine hd [.cell 4 34,.tmp 5] Tryz.func10 Tryz.ntmps10 fun M0 W0 e d c b g f hs=>?_
 simp only [AG]
 exact go (tg (a:=([2,3,4],([2,3,4,15],[4,5],()),[2,3,4,15],([4,5],()),[2,3,4],[2,4,6],[4,6,23],([4,5],()),[4,6],[4,5],()))) h hs e d c b f (Ad (LU w0 hT n) (q3 (D6 w0 n) (NX w0 hT n) (Z3 w0 hT n))) trivial
def Hw (n:Nat) (g:Ty × Ty):Option Bool :=
 (Iw n ).bind fun y4 =>
 if !y4 then
  (Iw n ).bind fun y8 =>
  some (y8)
 else
  (IJ n g.1).bind fun y9 =>
  if !y9 then
   (Iw n ).bind fun y13 =>
   some (y13)
  else
   (IJ n g.2).bind fun y14 =>
   if !y14 then
    (Iw n ).bind fun y17 =>
    some (y17)
   else
    (Ci n g.1 g.2).bind fun b =>
    (It n g).bind fun y22 =>
    if !y22 then
     if !b.2 then
      (GL n b.1 (Vl.mk 0 0 0 (⟨#[]⟩:ByteArray) ([]) ([]))).bind fun y27 =>
      some (y27)
     else
      some (false)
    else
     (HE n g.1 g.2).bind fun y28 =>
     if y28 then
      if !b.2 then
       (GL n b.1 (Vl.mk 0 0 0 (⟨#[]⟩:ByteArray) ([]) ([]))).bind fun y32 =>
       some (y32)
      else
       some (false)
     else
      if !b.2 then
       (I3 n g.1).bind fun q =>
       some (decide (4096<q))
      else
       (KO n g.1 b.1).bind fun y =>
       if !y then
        some (false)
       else
        (GN n g.1 b.1).bind fun h =>
        (IR n g.1 g.2 h.1).bind fun y46 =>
        (FD n g.1 g.2 b.1).bind fun y48 =>
        some (((decide (h.2=0))&&(!y46.2))&&(decide (y48.2=20)))
theorem Rx (w0:World) (hP:Pow10 w0) (hT:Lib.Utf8Tabs 2 3 w0) (n:Nat) (B:Am) (Rw:Aq) (L:Ar) (a0:Ty × Ty) (r:Bool) (h:Hw n a0=some r) :
  ACalls Tryz.prog w0 3 [.agg ((a0.1.cs)++(a0.2.cs))] ⟨B,Rw,L⟩ fun x st=>x = .val (.bool r)∧st=⟨B,Rw,L⟩:=by
 rw [Hw] at h
 refine hd [.tmp 2] Tryz.func3 Tryz.ntmps3 fun M0 W0 k e c b u l hs=>?_
 simp only [AG]
 refine rg [1] hs ?_
 apply An;intro K2 i
 apply An;intro K3 d
 obtain ⟨q,m,h⟩:=bind_some h
 rcases Bool.eq_false_or_eq_true (!q) with hf5 | hf5
 ·replace h:=CP h hf5
  exact go (tg (a:=([1,24],[2],()))) h (Ad hf5 hs) k e c b l (q1 (N4 w0 hP hT n)) (q1 d)
 ·replace h:=CO h hf5
  obtain ⟨p,o,h⟩:=bind_some h
  rcases Bool.eq_false_or_eq_true (!p) with hf10 | hf10
  ·replace h:=CP h hf10
   exact go (tg (a:=([1,24],[2],()))) h (Ad hf10 (Ad hf5 hs)) k e c b l (q2 (N4 w0 hP hT n) (NT w0 n)) (q1 d)
  ·replace h:=CO h hf10
   obtain ⟨t,f,h⟩:=bind_some h
   have hs:=Ad hf5 hs
   have hs:=Ad hf10 hs
   refine rk 4 [1,24] hs ?_
   refine As _ (N4 w0 hP hT n _ _ _  _ m) (hv hs) ?_
   refine nc hs ?_
   refine As _ (NT w0 n _ _ _ a0.1 _ o) (hv hs) ?_
   refine nc hs ?_
   refine As _ (NT w0 n _ _ _ a0.2 _ f) (hv hs) ?_
   refine ne hs d ?_
   clear d
   refine BN h hs ?_ ?_<;>intro hs h
   ·exact go (tg (a:=([2],()))) h hs k e c b l (q1 (N4 w0 hP hT n)) trivial
   refine sk [1] hs i ?_
   clear i
   obtain ⟨s,j,h⟩:=bind_some h
   refine rc 2 [1,3,4] hs ?_;intro K18 g
   refine As _ (S1 w0 hT n _ _ _ a0.1 a0.2 _ j) (hv hs) ?_
   exact go (tg (a:=(([1,3,4,43],([2],()),[2],()),[1,3,4,43],(([2],()),[2],()),[1,3,4],[1,3,52],([2],()),[1,3],[1,3,61],([2],()),[1,3],[1,3,5,6],[1,3,6,8],[6,8,10],[2],()))) h hs k e c b l (Ad (VT w0 hT n) (Ad (XJ w0 n) (Ad (Zl w0 n) (Ad (WI w0 n) (Ad (VI w0 hP hT n) (q3 (P0 w0 hP hT n) (Zb2 w0 n) (NM w0 hP hT n))))))) (q1 g)
theorem V0:∀ (d:Nat) (t:Ty) (v:Vl),t.Good→Du d t v=true→FB d t v=true
 | 0,t,v,_,h=>by simp [Du] at h
 | d+1,t,v,gt,hf=>by
  have o:=gt.own
  obtain ⟨j,n,k,a⟩:=Lq hf
  rw [Du,Ai (KZ ⟨n,k⟩ j a)] at hf
  rw [FB,Ai (fun q=>q j.symm)]
  by_cases n2:t.kind=2∨t.kind=6∨t.kind=7
  ·rw [Ah n2] at hf ⊢; exact hf
  rw [Ai n2] at hf ⊢
  by_cases n3:t.kind=3
  ·rw [Ah n3] at hf ⊢; exact hf
  rw [Ai n3] at hf ⊢
  by_cases n4:t.kind=4
  ·rw [Ah n4] at hf ⊢
   rw [Es] at hf
   by_cases w:t.words=[]
   ·rw [Ah w] at hf
    rw [w,Bool.or_eq_true,Bool.and_eq_true]
    exact .inr ⟨by rfl,hf⟩
   ·rw [Ai w] at hf
    rw [hf];rfl
  rw [Ai n4] at hf ⊢
  by_cases n5:t.kind=5
  ·rw [Ah n5] at hf ⊢; exact hf
  rw [Ai n5] at hf ⊢
  by_cases n8:t.kind=8
  ·rw [Ah n8,Bool.and_eq_true,List.all_eq_true] at hf ⊢
   obtain ⟨x,b⟩:=o.elem n8
   refine ⟨fun u m=>?_,hf.1⟩
   have:=hf.2 u m
   rw [b] at this ⊢
   simp only [List.all_cons,List.all_nil,Bool.and_true]
   exact V0 d x u (Ea gt (by rw [b];simp)) this
  rw [Ai n8] at hf ⊢
  by_cases n9:t.kind=9
  ·rw [Ah n9,Bool.and_eq_true,List.all_eq_true,List.all_eq_true] at hf
   rw [Aa,Ah n9,Bool.and_eq_true,List.all_eq_true]
   have r:=Ky a (by omega)
   refine ⟨fun q i=>?_,?_⟩
   ·have:=hf.2 q i
    cases c:A7 t q.1 with
    | none=>rw [c] at this;cases this
    | some p =>
     obtain ⟨g,l⟩:=BC c
     have f:=hf.1 p g
     rw [l,Jm r i] at f
     exact V0 d _ q.2 (A9 gt g) f
   ·rw [Bool.not_eq_true',List.any_eq_false]
    intro p g q
    rw [Zg,Bool.and_eq_true,Bool.not_eq_true',Bool.not_eq_true',decide_eq_false_iff_not] at q
    have f:=hf.1 p g
    cases c:DG v p.2.1 with
    | none=>rw [c] at f;exact q.2 (of_decide_eq_true f)
    | some y =>
     obtain ⟨x,b,e,_⟩:=IC c
     have q1:=q.1
     unfold Qf at q1
     rw [List.any_eq_false] at q1
     exact q1 x b ((Db _ _).2 e)
  rw [Ai n9] at hf
  by_cases n10:t.kind=10
  ·rw [Ah n10] at hf ⊢
   have one:=Nq a (by omega)
   obtain ⟨x,b⟩:=List.length_eq_one_iff.1 one
   cases c:A7 t v.text with
   | none=>rw [c] at hf;cases hf
   | some p =>
    rw [c,b] at hf
    rw [b]
    simp only [List.all_cons,List.all_nil,Bool.and_true]
    exact V0 d _ x (A9 gt (BC c).1) hf
  ·rw [Ai n10,Ai n9]
theorem Yq (n:Nat) (hn:10000000000≤n) (t:Ty × Ty) (h1:t.1.bulk≤1048576) (h2:t.2.bulk≤1048576):Hw n t=some true:=by
 have kn:=Zd7 n (by omega)
 have b1:=t.1.size_bulk
 have b2:=t.2.size_bulk
 rw [Hw,kn,Ae,Ai (by decide),Pj n t.1 (by omega) (by omega),Ae]
 by_cases s1:t.1.depth≤10∧t.1.size≤60
 rotate_left
 ·rw [Af s1,Ah (by rfl),Ae]
 rw [Ag s1,Ai (by decide),Pj n t.2 (by omega) (by omega),Ae]
 by_cases s2:t.2.depth≤10∧t.2.size≤60
 rotate_left
 ·rw [Af s2,Ah (by rfl),Ae]
 rw [Ag s2,Ai (by decide)]
 have q1:t.1.small:=Ty.small_of h1 (by omega) (by omega)
 have q2:t.2.small:=Ty.small_of h2 (by omega) (by omega)
 have i:GL n nilV nilV=some true:=Zc4 n nilV (by decide) (by omega)
 have a:((GL n (nilV,false).1 (Vl.mk 0 0 0 ⟨#[]⟩ [] [])).bind fun y=>some y)=some true:=(congrArg (fun o=>Option.bind o fun y=>some y) i).trans rfl
 obtain ⟨k,v,D,e2,N,Q,p,b⟩:=ZiS n hn t h1 h2 s1 s2
 by_cases z:k=0∧v=0
 rotate_left
 ·have a1:¬ (if k=0 then v else k)=0:=by split<;>omega
  have a2:(decide (k=0)&&decide (v=0))=false:=by
   rw [Bool.eq_false_iff];intro q;rw [Bool.and_eq_true,decide_eq_true_eq,decide_eq_true_eq] at q;exact z q
  have d:Ci n t.1 t.2=some (nilV,false):=by
   rw [Ci,b,Ae,Af a1,Ah (by rfl)];first | done | rfl
  rw [d,Ae,p,Ae,a2,Ah (by rfl),Ah (by rfl)]
  exact a
 obtain ⟨rfl,rfl⟩:=z
 have g1:=N rfl
 have g2:=Q rfl
 rw [Ah rfl] at b
 obtain ⟨g,j⟩:=X4 12 n t.1 t.2 q1 q2 g1.good g2.good q1.2.1 (by omega)
 cases hcpt:Fe 12 t.1 t.2 with
 | true =>
  rw [hcpt] at g j
  have d:Ci n t.1 t.2=some (nilV,false):=by
   rw [Ci,b,Ae,Ai (by decide),g,Ae,Ah rfl];first | done | rfl
  rw [d,Ae,p,Ae,Ai (by decide),j,Ae,Ah rfl,Ah (by rfl)]
  exact a
 | false =>
  rw [hcpt] at g j
  have K:∀ m,3000000≤m→Bz m t.1=some 0:=fun m l=>by
   have e:=D
   rw [KT n t.1 (by omega) q1 g1] at e
   rw [KT m t.1 l q1 g1];exact e
  obtain ⟨w,G,w1,c,V,O⟩:=Zdc 12 n t.1 t.2 q1 q2 g1 g2 K q1.2.1 (Nat.le_refl _) (by omega) hcpt
  have s:LD n t.1 w=some (decide (OR w=0)&&FB 12 t.1 w):=by
   rw [LD,D,Ae,Ah (by decide),Zaj n t.1 w (by omega) (by omega) (by omega) q1 c g1.good,Ae]
  cases acc:decide (OR w=0)&&FB 12 t.1 w with
  | false =>
   rw [acc] at s
   have d:Ci n t.1 t.2=some (nilV,false):=by
    rw [Ci,b,Ae,Ai (by decide),g,Ae,Ai (by decide),G,Ae,s,Ae,Ah (by rfl)];first | done | rfl
   have u:4096<A8 12 t.1:=by
    refine Decidable.byContradiction fun q=>?_
    have l:A8 12 t.1≤4096:=by omega
    have x:=O l
    have r:=MX 12 t.1 w g1.good x
    have F:=V0 12 t.1 w g1.good x
    have f:=QX 12 t.1 w x
    have C:=Ty.Fine.depth 8 t.1 g1
    have sz:=QR 12 t.1 w g1.good r F l
    rw [Za8 r (by omega) (by omega),F] at acc
    cases acc
   rw [d,Ae,p,Ae,Ai (by decide),j,Ae,Ai (by decide),Ah (by rfl),Zaf 12 n t.1 (by omega) q1 g1.good q1.2.1,Ae,Ag u]
  | true =>
   rw [acc] at s
   rw [Bool.and_eq_true,decide_eq_true_eq] at acc
   obtain ⟨a1,a2⟩:=acc
   have r:=Gg a1
   obtain ⟨f,C⟩:=OQ 12 12 t.1 w g1.good r q1.2.1 a2
   have up:=V f
   have h:=Pv _ w (Nat.le_refl _) (by omega) c
   have wd:=w.depth_size
   have d:Ci n t.1 t.2=some (w,true):=by
    rw [Ci,b,Ae,Ai (by decide),g,Ae,Ai (by decide),G,Ae,s,Ae,Ai (by decide)]
   have Z:=Zdl n 12 t.1 w q1.2.1 (by omega) (by omega) q1.2.2 h (by omega) (by omega)
   have E:=VS n t.1 w q1 c (by omega) (by omega)
   rw [C,Ah f] at E
   obtain ⟨r1,Y,u1,u2,u3,H⟩:=Zb 12 n 1048576 8 t.1 t.2 w q1 q2 g1.good g2 h (by omega) f (by omega)
   rw [up] at H
   have U:Y.2=false:=H.1
   have J:=ZcO n t.1 t.2 w hn q1 q2 c (by omega) D e2 g1 g2
   rw [UpR,C,Ah f,up] at J
   rw [d,Ae,p,Ae,Ai (by decide),j,Ae,Ai (by decide),Ai (show ¬ ((!true)=true) by decide)]
   simp only [Z,f,E,u2,J,Ae,U]
   rfl
end Go.Proofs.YtmcnjijeocmkgaaGreatDoor
namespace Go.Proofs.YtmcnjijeocmkgaaGreatDoor
open Go Go.Shelf Go.ChangeShapes Go.WideShapes Go.ChangeAt Go.RowKit Go.Lib Go.Ev
set_option maxRecDepth 100000
section
variable {H:Type} {enc:TypeId × Value→H} {W:World}
theorem ZiW (n:Nat) (cs:List Value) (x:DataW H × List MemPlace) (h:Td enc W n 28 cs=some x):∃ t:Ty × Ty,t.1.bulk+t.2.bulk≤Rows.uptoBulk x.1∧RC W cs (t.1.cs++t.2.cs):=by
 cases n with
 | zero=>simp [Td,DataW.trod] at h
 | succ n =>
  obtain ⟨i,p,hn,rfl,l,m,f⟩:=DataW.trod_struct Tryz.underlying28 h
  cases hn
  have e:cs.length=14:=l.trans (by kernel_rfl)
  have g:i.length=2:=m
  match i,g,f with
  | [w0,w1],_,f =>
  have k:_=some w0:=f 0 _ rfl;have q1:_=some w1:=f 1 _ rfl
  obtain ⟨a,_,c,q⟩:=Zaa n _ _ k
  obtain ⟨b,_,d,o⟩:=Zaa n _ _ q1
  have j:Tryz.prog.cellsOf 26=7:=by kernel_rfl
  simp only [List.getElem_toArray,List.getElem_cons_zero,List.getElem_cons_succ,j] at c d
  match cs,e with
  | [c0,c1,c2,c3,c4,c5,c6,c7,c8,c9,c10,c11,c12,c13],_ =>
  simp only [List.drop_zero,List.take_succ_cons,List.take_zero,List.drop_succ_cons] at c d
  exact ⟨(a,b),by simp only [List.map_cons,List.map_nil,Rows.uptoBulk,Rows.uptoBulkAll];omega,c.app d⟩
end
section
variable {H:Type} {enc:TypeId × Value→H} {W:World} {base:Nat} {v:Value} {d:DataW H} {p:List MemPlace}
theorem Zka (hv:Value.okWide Tryz.prog W .any base 28 v) (h:DataW.Trod enc Tryz.prog W 0 (fun _=>true) true 28 v d p) :
  ∃ t:Ty × Ty,t.1.bulk+t.2.bulk≤Rows.uptoBulk d∧R W Mem.start W v (.agg (t.1.cs++t.2.cs)):=by
 obtain ⟨cs,rfl⟩:=ZjY Tryz.underlying28 hv
 obtain ⟨n,b⟩:=h
 obtain ⟨t,a,c⟩:=ZiW n _ _ b
 exact ⟨t,a,by simpa [Value.cells] using c.agg (fun x hx=>by
  rcases List.mem_append.1 hx with hx | hx
  ·exact t.1.ones x hx
  ·exact t.2.ones x hx)⟩
end
end Go.Proofs.YtmcnjijeocmkgaaGreatDoor
