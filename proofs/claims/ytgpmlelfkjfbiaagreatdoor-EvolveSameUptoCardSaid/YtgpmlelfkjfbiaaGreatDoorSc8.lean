/-
  Part 8 of the proof: rules and walks that the claim's last text uses.
-/
import Derived.Test.YtgpmlelfkjfbiaaGreatDoorSc7
set_option linter.unusedSimpArgs false
set_option linter.unusedVariables false
set_option maxRecDepth 100000
set_option maxHeartbeats 4000000
namespace Go.Proofs.YtgpmlelfkjfbiaaGreatDoor
open Go Go.RowKit Go.Ev
def EB (rec:Ty→Ty→ByteArray→(List (ByteArray × Int))→Option ((List (ByteArray × Int)))) (n:Nat) (g:Int→(List (ByteArray × Int))→Option ((List (ByteArray × Int)))) (b:Int) (pla3_k20:List (ByteArray × Int)):Option ((List (ByteArray × Int))) :=
 if BV (b+1) then
  g (b+1) pla3_k20
 else none
def Ey (rec:Ty→Ty→ByteArray→(List (ByteArray × Int))→Option ((List (ByteArray × Int)))) (n:Nat) (g:Int→(List (ByteArray × Int))→Option ((List (ByteArray × Int)))) (b:Int) (pla3_k63:List (ByteArray × Int)):Option ((List (ByteArray × Int))) :=
 if BV (b+1) then
  g (b+1) pla3_k63
 else none
def Ez (rec:Ty→Ty→ByteArray→(List (ByteArray × Int))→Option ((List (ByteArray × Int)))) (n:Nat) (y:Ty) (s:Ty) (q:ByteArray) (pla3_k79:List (ByteArray × Int)):Option ((List (ByteArray × Int))) :=
 (Cb y.elem 0).bind fun g =>
 (Cb s.elem 0).bind fun b =>
 if q.size+((⟨#[91,42,93]⟩:ByteArray)).size≤9223372036854775807 then
  (rec g b (q++((⟨#[91,42,93]⟩:ByteArray))) pla3_k79).bind fun h =>
  some (h)
 else none
def EF (rec:Ty→Ty→ByteArray→(List (ByteArray × Int))→Option ((List (ByteArray × Int)))) (n:Nat) (b:Int→(List (ByteArray × Int))→Option ((List (ByteArray × Int)))) (a1:Ty) (a2:ByteArray) (g:Int) (h:Int × ByteArray × Int × Ty × List Vl) (s:((Int × ByteArray × Int × Ty × List Vl) × Bool)) (pla3_k44:List (ByteArray × Int)):Option ((List (ByteArray × Int))) :=
 (BR h.2.1 a1 a2).bind fun q =>
 (rec s.1.2.2.2.1 h.2.2.2.1 q pla3_k44).bind fun y =>
 EB rec n b g y
def BP (rec:Ty→Ty→ByteArray→(List (ByteArray × Int))→Option ((List (ByteArray × Int)))) (n:Nat) (q:Ty) (h:Ty) (s:ByteArray):Nat→Int→(List (ByteArray × Int))→Option ((List (ByteArray × Int)))
 | 0,_,_=>none
 | m+1,b,pla3_l58 =>
  if decide (b<(q.fields.length:Int)) then
   (Cb q.fields b).bind fun g =>
   (CV n h.fields g.1).bind fun y68 =>
   if !y68.2 then
    (BR g.2.1 h s).bind fun y71 =>
    (BO y71 2 pla3_l58).bind fun y =>
    Ey rec n (BP rec n q h s m) b y
   else
    Ey rec n (BP rec n q h s m) b pla3_l58
  else
   some (pla3_l58)
def EG (rec:Ty→Ty→ByteArray→(List (ByteArray × Int))→Option ((List (ByteArray × Int)))) (n:Nat) (b:Int→(List (ByteArray × Int))→Option ((List (ByteArray × Int)))) (y:Ty) (s:ByteArray) (g:Int) (h:Int × ByteArray × Int × Ty × List Vl) (q:((Int × ByteArray × Int × Ty × List Vl) × Bool)) (pla3_k35:List (ByteArray × Int)):Option ((List (ByteArray × Int))) :=
 if !(decide (q.1.2.2.1=h.2.2.1)) then
  (BR h.2.1 y s).bind fun y48 =>
  (BO y48 4 pla3_k35).bind fun y49 =>
  EF rec n b y s g h q y49
 else
  EF rec n b y s g h q pla3_k35
def Gg (rec:Ty→Ty→ByteArray→(List (ByteArray × Int))→Option ((List (ByteArray × Int)))) (n:Nat) (g:Ty) (b:Ty) (h:ByteArray) (pla3_k12:List (ByteArray × Int)):Option ((List (ByteArray × Int))) :=
 BP rec n g b h n 0 pla3_k12
def A8 (rec:Ty→Ty→ByteArray→(List (ByteArray × Int))→Option ((List (ByteArray × Int)))) (n:Nat) (y:Ty) (h:Ty) (s:ByteArray):Nat→Int→(List (ByteArray × Int))→Option ((List (ByteArray × Int)))
 | 0,_,_=>none
 | m+1,b,pla3_l15 =>
  if decide (b<(h.fields.length:Int)) then
   (Cb h.fields b).bind fun g =>
   (CV n y.fields g.1).bind fun q =>
   if !q.2 then
    (BR g.2.1 h s).bind fun y30 =>
    (BO y30 1 pla3_l15).bind fun y31 =>
    EB rec n (A8 rec n y h s m) b y31
   else
    if !(DK q.1.2.1 g.2.1) then
     (BR g.2.1 h s).bind fun y39 =>
     (BO y39 3 pla3_l15).bind fun y40 =>
     EG rec n (A8 rec n y h s m) h s b g q y40
    else
     EG rec n (A8 rec n y h s m) h s b g q pla3_l15
  else
   Gg rec n y h s pla3_l15
def G2 (rec:Ty→Ty→ByteArray→(List (ByteArray × Int))→Option ((List (ByteArray × Int)))) (n:Nat) (g:Ty) (b:Ty) (h:ByteArray) (q:List (ByteArray × Int)):Option ((List (ByteArray × Int))) :=
 if !(Dn g.kind b.kind) then
  (BO h 5 q).bind fun y5 =>
  some (y5)
 else
  if (decide (b.kind=9))||(decide (b.kind=10)) then
   A8 rec n g b h n 0 q
  else
   if decide (b.kind=8) then
    if (!(decide (g.min=b.min)))||(!(decide (g.max=b.max))) then
     (F5 (CP g b) q h).bind fun y83 =>
     Ez rec n g b h y83
    else
     Ez rec n g b h q
   else
    (J3 n g b).bind fun y =>
    if !y then
     (AH n g b).bind fun s =>
     (F5 s q h).bind fun y96 =>
     some (y96)
    else
     some (q)
def DT:Nat→Ty→Ty→ByteArray→(List (ByteArray × Int))→Option ((List (ByteArray × Int)))
 | 0,_,_,_,_=>none
 | n+1,g,b,q,h=>G2 (DT n) n g b q h
def IR (w0:World) (F:Ty→Ty→ByteArray→(List (ByteArray × Int))→Option ((List (ByteArray × Int)))):Prop:=∀ (B:List (List AV)) (Rw:List RowA) (L:List LoopA) (h:Ty) (g:Ty) (q:ByteArray) (la3:Nat) (b:List (ByteArray × Int)) (oa3:Ev.Own) (hla3:B[la3]? = some [.list (b.map Jt) oa3]) (hGa3:Owns Rw Rw [(2,b.length,oa3)] oa3) (r:(List (ByteArray × Int))),F h g q b=some r→ACalls Tryz.prog w0 95 [.agg (h.cs),.agg (g.cs),.val (.string q),.clo 96 [.box la3 0]] ⟨B,Rw,L⟩ fun x st=>x = .tup []∧∃ (R1:List RowA) (o1:Ev.Own),st=⟨(B.set la3 [.list (r.map Jt) o1]),R1,L⟩∧Owns Rw R1 [(2,r.length,o1)] oa3
theorem O6 (w0:World) (rec:Ty→Ty→ByteArray→(List (ByteArray × Int))→Option ((List (ByteArray × Int)))) (ih:IR w0 rec) (n:Nat):IR w0 (G2 rec n):=by
 intro B Rw L a0 a1 a2 p a3 ak a b0 r h
 rw [G2] at h
 refine ACalls.finG (Ep (rs:=[]) Tryz.func95 rfl rfl Tryz.ntmps95 (A9 Tryz.func95 rfl (by decide)) (Nat.le_of_ble_eq_true rfl) ?_)
 intro M0 W0 hN ao ap v hu
 dsimp only at hN ao ap v hu
 simp only [Au]
 have l:=b0
 have hs:=Zaz
 have ce:=(Ag.1 a).1
 have hs:=Aa (An a) hs
 refine rg [4,5,6,7] hs ?_
 refine rg [4,5,6,7,8] hs ?_
 apply Ak
 refine rc 2 [4,5,6,7,8,19] hs ?_;intro K3 bw
 refine Ai _ (Jz w0 _ _ _ a0.kind a1.kind) (hv hs) ?_
 refine ne hs bw ?_
 clear bw
 refine AL h hs (fun hs h=>?_) (fun hs h=>?_)
 ·have c:=hs.1
  obtain ⟨y5,cg,h⟩:=bind_some h
  apply Ao 2 []
  rw [Am];simp +decide only [go_sem,Nat.reduceAdd,An a,c]
  (repeat' apply Aa)<;>first | (refine Bt _ (CE w0 _ _ _ a2 5 p a3 ak (ef hs) l.enter _ cg) (hv hs) ?_;rintro _ _ ⟨rfl,Rg6,dc,rfl,bg⟩) | exact cl
  have l:=l.call bg
  rw [Am];simp +decide only [go_sem,Nat.reduceAdd,An a,c]
  (repeat' with_reducible apply Aa)<;>first | exact cl | skip
  have hgt:=Option.some.inj h;subst hgt
  have hU:=l.unders
  simp only [List.mem_cons,List.not_mem_nil,or_false,forall_eq_or_imp,forall_eq] at hU
  refine Q1 l (Ap (Fo v l.len) ow) Hy ev ⟨?_,_,_,?_,(l.sub (List.sublist_append_left [_] _)).len1 FN⟩
  all_goals first | rfl | (simp +decide only [go_sem,Nat.reduceAdd,An a,c];done) | (simp +decide only [go_sem,Nat.reduceAdd,Vl.cs,Ty.cs,An a,c];done)
 have c:=hs.1
 refine rg [4,5,6,7,8,29] hs ?_
 refine AL h hs (fun hs h=>?_) (fun hs h=>?_)
 ·have d:=hs.1
  refine rg [4,5,7,9] hs ?_
  refine Av (fun e st=>∃ (O:List (ByteArray × Int)) (Y:Ev.Own) (Xk12:List (List AV)) (Rk12:List RowA),e=[(4,true,.box B.length 0),(5,true,.box (B.length+1) 0),(7,true,.box (B.length+3) 0),(9,true,.clo 162 [.box (B.length+1) 0,.box (B.length+2) 0])]∧st=⟨(B.set p ([.list (O.map Jt) Y]))++([a0.cs,a1.cs,[.val (.string a2)],[.clo 96 [.box p 0]]]++Xk12),Rk12,L⟩∧Owns Rw Rk12 [(2,O.length,Y)] ak∧Gg rec n a0 a1 a2 O=some r) ?_ ?_
  ·intro K13 bn
   refine rg [4,5,7,9,40,41,42] hs ?_
   apply Ak
   refine AC (fun m e st=>∃ (q:Int) (u:List (ByteArray × Int)) (t:Ev.Own) (Xl15:List (List AV)) (Rl15:List RowA),e=[(4,true,.box B.length 0),(5,true,.box (B.length+1) 0),(7,true,.box (B.length+3) 0),(9,true,.clo 162 [.box (B.length+1) 0,.box (B.length+2) 0]),(40,true,.list (a1.fields.map Da) .none),(41,true,.val (.int .i64 (a1.fields.length:Int))),(42,true,.val (.int .i64 q))]∧st=⟨(B.set p ([.list (u.map Jt) t]))++([a0.cs,a1.cs,[.val (.string a2)],[.clo 96 [.box p 0]]]++Xl15),Rl15,L⟩∧Owns Rw Rl15 [(2,u.length,t)] ak∧A8 rec n a0 a1 a2 m q u=some r) n ⟨0,a3,ak,([]),Rw,ef hs,ef hs,Owns.of_eq (l) FN,h⟩ ?_
   rintro ml15 e st ⟨q,u,t,Xl15,Rl15,rfl,rfl,l,h⟩ Ul15 Vl15
   cases ml15 with
   | zero=>cases h
   | succ ml15 =>
   rw [A8] at h
   have hU:=l.unders
   simp only [List.mem_cons,List.not_mem_nil,or_false,forall_eq_or_imp,forall_eq] at hU
   refine H8 hN ao ap Hy (Ap (Fo v l.len) ow) l ow ow ?_
   refine rg [4,5,7,9,40,41,42,43] hs ?_
   apply Ah;intro K17 ba
   refine AL h hs (fun hs h=>?_) (fun hs h=>?_)
   rotate_left
   ·have j:=hs.1
    refine sx [4,5,7,9] hs bn ?_
    exact ⟨u,t,([]),Rl15,ef hs,ef hs,Owns.of_eq (l) FN,h⟩
   have j:=hs.1
   refine sk [4,5,7,9,40,41,42] hs ba ?_
   clear ba
   refine Av (fun e st=>∃ (K:List (ByteArray × Int)) (aa:Ev.Own) (Xk20:List (List AV)) (Rk20:List RowA),e=[(4,true,.box B.length 0),(5,true,.box (B.length+1) 0),(7,true,.box (B.length+3) 0),(9,true,.clo 162 [.box (B.length+1) 0,.box (B.length+2) 0]),(40,true,.list (a1.fields.map Da) .none),(41,true,.val (.int .i64 (a1.fields.length:Int))),(42,true,.val (.int .i64 q))]∧st=⟨(B.set p ([.list (K.map Jt) aa]))++([a0.cs,a1.cs,[.val (.string a2)],[.clo 96 [.box p 0]]]++Xk20),Rk20,L⟩∧Owns Rw Rk20 [(2,K.length,aa)] ak∧EB rec n (A8 rec n a0 a1 a2 ml15) q K=some r) ?_ ?_
   ·intro K21 a6
    apply Ak
    obtain ⟨k,bt,h⟩:=bind_some h
    obtain ⟨cf,c2,bh⟩:=AA bt
    have b:=AB (f:=Da) bh
    have hs:=Aa b hs
    refine rg [4,5,7,9,11,40,41,42] hs ?_
    obtain ⟨o,bs,h⟩:=bind_some h
    refine rc 2 [4,5,7,9,11,12,13,40,41,42] hs ?_;intro K24 bf
    refine Ai _ (ED w0 n _ _ _ a0.fields k.1 _ bs) (hv hs) ?_
    refine ne hs bf ?_
    clear bf
    apply Ah;intro K26 a7
    refine rg [4,5,7,9,11,12,40,41,42,55] hs ?_
    refine AL h hs (fun hs h=>?_) (fun hs h=>?_)
    ·have g:=hs.1
     apply Ah;intro K29 a8
     obtain ⟨cz,b6,h⟩:=bind_some h
     obtain ⟨ch,b3,h⟩:=bind_some h
     apply LU Iw [5] [4,5,7,9,40,41,42] kr (fun s=>∃ (X:List (List AV)) (rows:List RowA) (x:List AV),s=⟨(B.set p x)++([a0.cs,a1.cs,[.val (.string a2)],[.clo 96 [.box p 0]],.val (.int .i64 k.1)::(.val (.string k.2.1)::(.val (.int .i64 k.2.2.1)::((k.2.2.2.1.cs)++([.list (k.2.2.2.2.map Bo) .none])))),.val (.int .i64 o.1.1)::(.val (.string o.1.2.1)::(.val (.int .i64 o.1.2.2.1)::((o.1.2.2.2.1.cs)++([.list (o.1.2.2.2.2.map Bo) .none]))))]++X),rows,L⟩) 2 (B.length+6)
     ·simp +decide only [go_sem,Nat.reduceAdd]
     ·rintro s ⟨X,rows,x,rfl⟩
      refine ⟨2,?_⟩
      rw [Am];simp +decide only [go_sem,Nat.reduceAdd,EO,An a,c,d,j,b,g]
      (repeat' apply Aa)<;>first | refine Ai _ (Ee w0 _ _ _ k.2.1 (B.length+1) a1 (ef hs) (B.length+2) a2 (ef hs) _ b6) (hv hs) ?_ | exact cl
      rw [Am];simp +decide only [go_sem,Nat.reduceAdd,An a,c,d,j,b,g]
      (repeat' apply Aa)<;>first | rfl | exact cl
     ·refine Good.mk [5] kr ⟨[],_,_,by first | rfl | simp only [List.append_nil,List.nil_append]⟩ ?_ ?_
      ·intro h;exact absurd h (by decide)
      ·intro i hi;simp only [List.mem_cons,List.not_mem_nil,or_false] at hi
       subst hi
       ·apply I0 rfl rfl ev rfl
        ·simp +decide only [go_sem,Nat.reduceAdd,An a,c,d,j,b,g]
        ·simp +decide only [go_sem,Nat.reduceAdd,An a,c,d,j,b,g]
        ·simp +decide only [go_sem,Nat.reduceAdd,An a,c,d,j,b,g]
         exact (CE w0 _ _ _ cz 1 p u t (ef hs) l.enter _ b3).pub (hv hs)
        ·rintro _ _ ⟨rfl,Rg32,bo,rfl,aq⟩
         have l:=l.call aq
         simp +decide only [go_sem,Nat.reduceAdd,An a,c,d,j,b,g]
         refine Good.mk [] kr ⟨[],_,_,by first | rfl | simp only [List.append_nil,List.nil_append]⟩ ?_ ?_
         ·intro _;refine ⟨_,_,DJ [4,5,7,9,40,41,42] (by first | (simp +decide only [go_sem,Nat.reduceAdd,An a,c,d,j,b,g];done) | (simp +decide only [go_sem,Nat.reduceAdd,An a,c,d,j,b,g];rfl)),?_⟩
          try simp +decide only [go_sem,Nat.reduceAdd,An a,c,d,j,b,g]
          (repeat' apply Aa)<;>first | refine a8 _ _ ?_ | exact cl
          clear a8
          refine sx [4,5,7,9,40,41,42] hs a6 ?_
          exact ⟨ch,bo,([.val (.int .i64 k.1)::(.val (.string k.2.1)::(.val (.int .i64 k.2.2.1)::((k.2.2.2.1.cs)++([.list (k.2.2.2.2.map Bo) .none])))),.val (.int .i64 o.1.1)::(.val (.string o.1.2.1)::(.val (.int .i64 o.1.2.2.1)::((o.1.2.2.2.1.cs)++([.list (o.1.2.2.2.2.map Bo) .none]))))]),Rg32,ef hs,ef hs,Owns.of_eq (l) FN,h⟩
         ·intro i hi;cases hi
    have g:=hs.1
    refine sk [4,5,7,9,11,12,40,41,42] hs a7 ?_
    clear a7
    refine Av (fun e st=>∃ (C:List (ByteArray × Int)) (E:Ev.Own) (Xk35:List (List AV)) (Rk35:List RowA),e=[(4,true,.box B.length 0),(5,true,.box (B.length+1) 0),(7,true,.box (B.length+3) 0),(9,true,.clo 162 [.box (B.length+1) 0,.box (B.length+2) 0]),(11,true,.box (B.length+4) 0),(12,true,.box (B.length+5) 0),(40,true,.list (a1.fields.map Da) .none),(41,true,.val (.int .i64 (a1.fields.length:Int))),(42,true,.val (.int .i64 q))]∧st=⟨(B.set p ([.list (C.map Jt) E]))++([a0.cs,a1.cs,[.val (.string a2)],[.clo 96 [.box p 0]],.val (.int .i64 k.1)::(.val (.string k.2.1)::(.val (.int .i64 k.2.2.1)::((k.2.2.2.1.cs)++([.list (k.2.2.2.2.map Bo) .none])))),.val (.int .i64 o.1.1)::(.val (.string o.1.2.1)::(.val (.int .i64 o.1.2.2.1)::((o.1.2.2.2.1.cs)++([.list (o.1.2.2.2.2.map Bo) .none]))))]++Xk35),Rk35,L⟩∧Owns Rw Rk35 [(2,C.length,E)] ak∧EG rec n (A8 rec n a0 a1 a2 ml15) a1 a2 q k o C=some r) ?_ ?_
    ·intro K36 bb
     refine rg [4,5,7,9,11,12,40,41,42,66] hs ?_
     refine AL h hs (fun hs h=>?_) (fun hs h=>?_)
     ·have ag:=hs.1
      obtain ⟨cr,b2,h⟩:=bind_some h
      obtain ⟨ct,b5,h⟩:=bind_some h
      apply LU Iw [5] [4,5,7,9,11,12,40,41,42] kr (fun s=>∃ (X:List (List AV)) (rows:List RowA) (x:List AV),s=⟨(B.set p x)++([a0.cs,a1.cs,[.val (.string a2)],[.clo 96 [.box p 0]],.val (.int .i64 k.1)::(.val (.string k.2.1)::(.val (.int .i64 k.2.2.1)::((k.2.2.2.1.cs)++([.list (k.2.2.2.2.map Bo) .none])))),.val (.int .i64 o.1.1)::(.val (.string o.1.2.1)::(.val (.int .i64 o.1.2.2.1)::((o.1.2.2.2.1.cs)++([.list (o.1.2.2.2.2.map Bo) .none]))))]++X),rows,L⟩) 2 (B.length+6)
      ·simp +decide only [go_sem,Nat.reduceAdd]
      ·rintro s ⟨X,rows,x,rfl⟩
       refine ⟨2,?_⟩
       rw [Am];simp +decide only [go_sem,Nat.reduceAdd,EO,An a,c,d,j,b,g,ag]
       (repeat' apply Aa)<;>first | refine Ai _ (Ee w0 _ _ _ k.2.1 (B.length+1) a1 (ef hs) (B.length+2) a2 (ef hs) _ b2) (hv hs) ?_ | exact cl
       rw [Am];simp +decide only [go_sem,Nat.reduceAdd,An a,c,d,j,b,g,ag]
       (repeat' apply Aa)<;>first | rfl | exact cl
      ·refine Good.mk [5] kr ⟨[],_,_,by first | rfl | simp only [List.append_nil,List.nil_append]⟩ ?_ ?_
       ·intro h;exact absurd h (by decide)
       ·intro i hi;simp only [List.mem_cons,List.not_mem_nil,or_false] at hi
        subst hi
        ·apply I0 rfl rfl ev rfl
         ·simp +decide only [go_sem,Nat.reduceAdd,An a,c,d,j,b,g,ag]
         ·simp +decide only [go_sem,Nat.reduceAdd,An a,c,d,j,b,g,ag]
         ·simp +decide only [go_sem,Nat.reduceAdd,An a,c,d,j,b,g,ag]
          exact (CE w0 _ _ _ cr 3 p u t (ef hs) l.enter _ b5).pub (hv hs)
         ·rintro _ _ ⟨rfl,Rg41,b8,rfl,aw⟩
          have l:=l.call aw
          simp +decide only [go_sem,Nat.reduceAdd,An a,c,d,j,b,g,ag]
          refine Good.mk [] kr ⟨[],_,_,by first | rfl | simp only [List.append_nil,List.nil_append]⟩ ?_ ?_
          ·intro _;refine ⟨_,_,DJ [4,5,7,9,11,12,40,41,42] (by first | (simp +decide only [go_sem,Nat.reduceAdd,An a,c,d,j,b,g,ag];done) | (simp +decide only [go_sem,Nat.reduceAdd,An a,c,d,j,b,g,ag];rfl)),?_⟩
           try simp +decide only [go_sem,Nat.reduceAdd,An a,c,d,j,b,g,ag]
           (repeat' apply Aa)<;>first | refine bb _ _ ⟨ct,b8,([]),Rg41,ef hs,ef hs,Owns.of_eq (l) FN,h⟩ | exact cl
          ·intro i hi;cases hi
     have ag:=hs.1
     refine sk [4,5,7,9,11,12,40,41,42] hs bb ?_
     exact ⟨u,t,([]),Rl15,ef hs,ef hs,Owns.of_eq (l) FN,h⟩
    ·clear h;rintro e st ⟨C,E,Xk35,Rk35,rfl,rfl,l,h⟩
     rw [EG] at h
     have hU:=l.unders
     simp only [List.mem_cons,List.not_mem_nil,or_false,forall_eq_or_imp,forall_eq] at hU
     refine H8 hN ao ap Hy (Ap (Fo v l.len) ow) l ow ow ?_
     refine Av (fun e st=>∃ (N:List (ByteArray × Int)) (ab:Ev.Own) (Xk44:List (List AV)) (Rk44:List RowA),e=[(4,true,.box B.length 0),(5,true,.box (B.length+1) 0),(7,true,.box (B.length+3) 0),(9,true,.clo 162 [.box (B.length+1) 0,.box (B.length+2) 0]),(11,true,.box (B.length+4) 0),(12,true,.box (B.length+5) 0),(40,true,.list (a1.fields.map Da) .none),(41,true,.val (.int .i64 (a1.fields.length:Int))),(42,true,.val (.int .i64 q))]∧st=⟨(B.set p ([.list (N.map Jt) ab]))++([a0.cs,a1.cs,[.val (.string a2)],[.clo 96 [.box p 0]],.val (.int .i64 k.1)::(.val (.string k.2.1)::(.val (.int .i64 k.2.2.1)::((k.2.2.2.1.cs)++([.list (k.2.2.2.2.map Bo) .none])))),.val (.int .i64 o.1.1)::(.val (.string o.1.2.1)::(.val (.int .i64 o.1.2.2.1)::((o.1.2.2.2.1.cs)++([.list (o.1.2.2.2.2.map Bo) .none]))))]++Xk44),Rk44,L⟩∧Owns Rw Rk44 [(2,N.length,ab)] ak∧EF rec n (A8 rec n a0 a1 a2 ml15) a1 a2 q k o N=some r) ?_ ?_
     ·intro K45 a4
      refine rg [4,5,7,9,11,12,40,41,42,77] hs ?_
      refine AL h hs (fun hs h=>?_) (fun hs h=>?_)
      ·have ai:=hs.1
       obtain ⟨co,cb,h⟩:=bind_some h
       obtain ⟨cu,b4,h⟩:=bind_some h
       apply LU Iw [5] [4,5,7,9,11,12,40,41,42] kr (fun s=>∃ (X:List (List AV)) (rows:List RowA) (x:List AV),s=⟨(B.set p x)++([a0.cs,a1.cs,[.val (.string a2)],[.clo 96 [.box p 0]],.val (.int .i64 k.1)::(.val (.string k.2.1)::(.val (.int .i64 k.2.2.1)::((k.2.2.2.1.cs)++([.list (k.2.2.2.2.map Bo) .none])))),.val (.int .i64 o.1.1)::(.val (.string o.1.2.1)::(.val (.int .i64 o.1.2.2.1)::((o.1.2.2.2.1.cs)++([.list (o.1.2.2.2.2.map Bo) .none]))))]++X),rows,L⟩) 2 (B.length+6)
       ·simp +decide only [go_sem,Nat.reduceAdd]
       ·rintro s ⟨X,rows,x,rfl⟩
        refine ⟨2,?_⟩
        rw [Am];simp +decide only [go_sem,Nat.reduceAdd,EO,An a,c,d,j,b,g,ai]
        (repeat' apply Aa)<;>first | refine Ai _ (Ee w0 _ _ _ k.2.1 (B.length+1) a1 (ef hs) (B.length+2) a2 (ef hs) _ cb) (hv hs) ?_ | exact cl
        rw [Am];simp +decide only [go_sem,Nat.reduceAdd,An a,c,d,j,b,g,ai]
        (repeat' apply Aa)<;>first | rfl | exact cl
       ·refine Good.mk [5] kr ⟨[],_,_,by first | rfl | simp only [List.append_nil,List.nil_append]⟩ ?_ ?_
        ·intro h;exact absurd h (by decide)
        ·intro i hi;simp only [List.mem_cons,List.not_mem_nil,or_false] at hi
         subst hi
         ·apply I0 rfl rfl ev rfl
          ·simp +decide only [go_sem,Nat.reduceAdd,An a,c,d,j,b,g,ai]
          ·simp +decide only [go_sem,Nat.reduceAdd,An a,c,d,j,b,g,ai]
          ·simp +decide only [go_sem,Nat.reduceAdd,An a,c,d,j,b,g,ai]
           exact (CE w0 _ _ _ co 4 p C E (ef hs) l.enter _ b4).pub (hv hs)
          ·rintro _ _ ⟨rfl,Rg50,bx,rfl,az⟩
           have l:=l.call az
           simp +decide only [go_sem,Nat.reduceAdd,An a,c,d,j,b,g,ai]
           refine Good.mk [] kr ⟨[],_,_,by first | rfl | simp only [List.append_nil,List.nil_append]⟩ ?_ ?_
           ·intro _;refine ⟨_,_,DJ [4,5,7,9,11,12,40,41,42] (by first | (simp +decide only [go_sem,Nat.reduceAdd,An a,c,d,j,b,g,ai];done) | (simp +decide only [go_sem,Nat.reduceAdd,An a,c,d,j,b,g,ai];rfl)),?_⟩
            try simp +decide only [go_sem,Nat.reduceAdd,An a,c,d,j,b,g,ai]
            (repeat' apply Aa)<;>first | refine a4 _ _ ⟨cu,bx,([]),Rg50,ef hs,ef hs,Owns.of_eq (l) FN,h⟩ | exact cl
           ·intro i hi;cases hi
      have ai:=hs.1
      refine sk [4,5,7,9,11,12,40,41,42] hs a4 ?_
      exact ⟨C,E,([]),Rk35,ef hs,ef hs,Owns.of_eq (l) FN,h⟩
     ·clear h;rintro e st ⟨N,ab,Xk44,Rk44,rfl,rfl,l,h⟩
      rw [EF] at h
      have hU:=l.unders
      simp only [List.mem_cons,List.not_mem_nil,or_false,forall_eq_or_imp,forall_eq] at hU
      refine H8 hN ao ap Hy (Ap (Fo v l.len) ow) l ow ow ?_
      obtain ⟨ck,br,h⟩:=bind_some h
      obtain ⟨cj,bl,h⟩:=bind_some h
      apply LU Iw [9] [4,5,7,9,40,41,42] kr (fun s=>∃ (X:List (List AV)) (rows:List RowA) (x:List AV),s=⟨(B.set p x)++([a0.cs,a1.cs,[.val (.string a2)],[.clo 96 [.box p 0]],.val (.int .i64 k.1)::(.val (.string k.2.1)::(.val (.int .i64 k.2.2.1)::((k.2.2.2.1.cs)++([.list (k.2.2.2.2.map Bo) .none])))),.val (.int .i64 o.1.1)::(.val (.string o.1.2.1)::(.val (.int .i64 o.1.2.2.1)::((o.1.2.2.2.1.cs)++([.list (o.1.2.2.2.2.map Bo) .none]))))]++X),rows,L⟩) 2 (B.length+6)
      ·simp +decide only [go_sem,Nat.reduceAdd]
      ·rintro s ⟨X,rows,x,rfl⟩
       refine ⟨2,?_⟩
       rw [Am];simp +decide only [go_sem,Nat.reduceAdd,EO,An a,c,d,j,b,g]
       (repeat' apply Aa)<;>first | refine Ai _ (Ee w0 _ _ _ k.2.1 (B.length+1) a1 (ef hs) (B.length+2) a2 (ef hs) _ br) (hv hs) ?_ | exact cl
       rw [Am];simp +decide only [go_sem,Nat.reduceAdd,An a,c,d,j,b,g]
       (repeat' apply Aa)<;>first | rfl | exact cl
      ·refine Good.mk [9] kr ⟨[],_,_,by first | rfl | simp only [List.append_nil,List.nil_append]⟩ ?_ ?_
       ·intro h;exact absurd h (by decide)
       ·intro i hi;simp only [List.mem_cons,List.not_mem_nil,or_false] at hi
        subst hi
        ·apply I0 rfl rfl ev rfl
         ·simp +decide only [go_sem,Nat.reduceAdd,An a,c,d,j,b,g]
         ·simp +decide only [go_sem,Nat.reduceAdd,An a,c,d,j,b,g]
         ·simp +decide only [go_sem,Nat.reduceAdd,An a,c,d,j,b,g]
          exact (ih _ _ _ o.1.2.2.2.1 k.2.2.2.1 ck p N ab (ef hs) l.enter _ bl).pub (hv hs)
         ·rintro _ _ ⟨rfl,Rg54,bu,rfl,ar⟩
          have l:=l.call ar
          simp +decide only [go_sem,Nat.reduceAdd,An a,c,d,j,b,g]
          refine Good.mk [] kr ⟨[],_,_,by first | rfl | simp only [List.append_nil,List.nil_append]⟩ ?_ ?_
          ·intro _;refine ⟨_,_,DJ [4,5,7,9,40,41,42] (by first | (simp +decide only [go_sem,Nat.reduceAdd,An a,c,d,j,b,g];done) | (simp +decide only [go_sem,Nat.reduceAdd,An a,c,d,j,b,g];rfl)),?_⟩
           try simp +decide only [go_sem,Nat.reduceAdd,An a,c,d,j,b,g]
           (repeat' apply Aa)<;>first | refine a6 _ _ ⟨cj,bu,([.val (.int .i64 k.1)::(.val (.string k.2.1)::(.val (.int .i64 k.2.2.1)::((k.2.2.2.1.cs)++([.list (k.2.2.2.2.map Bo) .none])))),.val (.int .i64 o.1.1)::(.val (.string o.1.2.1)::(.val (.int .i64 o.1.2.2.1)::((o.1.2.2.2.1.cs)++([.list (o.1.2.2.2.2.map Bo) .none]))))]),Rg54,ef hs,ef hs,Owns.of_eq (l) FN,h⟩ | exact cl
          ·intro i hi;cases hi
   ·clear h;rintro e st ⟨K,aa,Xk20,Rk20,rfl,rfl,l,h⟩
    rw [EB] at h
    have hU:=l.unders
    simp only [List.mem_cons,List.not_mem_nil,or_false,forall_eq_or_imp,forall_eq] at hU
    refine H8 hN ao ap Hy (Ap (Fo v l.len) ow) l ow ow ?_
    obtain ⟨c8,h⟩:=Aj h
    refine rl [4,5,7,9,40,41,42] hs (fun e s=>Vl15 ml15 e s (Nat.lt_succ_self _)) ?_
    exact ⟨(q+1),K,aa,([]),Rk20,ef hs,ef hs,Owns.of_eq (l) FN,h⟩
  ·clear h;rintro e st ⟨O,Y,Xk12,Rk12,rfl,rfl,l,h⟩
   rw [Gg] at h
   have hU:=l.unders
   simp only [List.mem_cons,List.not_mem_nil,or_false,forall_eq_or_imp,forall_eq] at hU
   refine H8 hN ao ap Hy (Ap (Fo v l.len) ow) l ow ow ?_
   refine rg [5,7,9,96,97,98] hs ?_
   apply Ak
   refine AC (fun m e st=>∃ (Q:Int) (D:List (ByteArray × Int)) (F:Ev.Own) (Xl58:List (List AV)) (Rl58:List RowA),e=[(5,true,.box (B.length+1) 0),(7,true,.box (B.length+3) 0),(9,true,.clo 162 [.box (B.length+1) 0,.box (B.length+2) 0]),(96,true,.list (a0.fields.map Da) .none),(97,true,.val (.int .i64 (a0.fields.length:Int))),(98,true,.val (.int .i64 Q))]∧st=⟨(B.set p ([.list (D.map Jt) F]))++([a0.cs,a1.cs,[.val (.string a2)],[.clo 96 [.box p 0]]]++Xl58),Rl58,L⟩∧Owns Rw Rl58 [(2,D.length,F)] ak∧BP rec n a0 a1 a2 m Q D=some r) n ⟨0,O,Y,([]),Rk12,ef hs,ef hs,Owns.of_eq (l) FN,h⟩ ?_
   rintro ml58 e st ⟨Q,D,F,Xl58,Rl58,rfl,rfl,l,h⟩ Ul58 Vl58
   cases ml58 with
   | zero=>cases h
   | succ ml58 =>
   rw [BP] at h
   have hU:=l.unders
   simp only [List.mem_cons,List.not_mem_nil,or_false,forall_eq_or_imp,forall_eq] at hU
   refine H8 hN ao ap Hy (Ap (Fo v l.len) ow) l ow ow ?_
   refine rg [5,7,9,96,97,98,99] hs ?_
   apply Ah;intro K60 a5
   refine AL h hs (fun hs h=>?_) (fun hs h=>?_)
   rotate_left
   ·have ae:=hs.1
    refine DU (Do [] _) ?_ (Bg _ _)
    apply KE;simp +decide only [go_sem,Nat.reduceAdd]
    (repeat' with_reducible apply Aa)<;>first | exact cl | skip
    have hgt:=Option.some.inj h;subst hgt
    have hU:=l.unders
    simp only [List.mem_cons,List.not_mem_nil,or_false,forall_eq_or_imp,forall_eq] at hU
    refine Q1 l (Ap (Fo v l.len) ow) Hy ev ⟨?_,_,_,?_,(l.sub (List.sublist_append_left [_] _)).len1 FN⟩
    all_goals first | rfl | (simp +decide only [go_sem,Nat.reduceAdd,An a,c,d,ae];done) | (simp +decide only [go_sem,Nat.reduceAdd,Vl.cs,Ty.cs,An a,c,d,ae];done)
   have ae:=hs.1
   refine sk [5,7,9,96,97,98] hs a5 ?_
   clear a5
   refine Av (fun e st=>∃ (V:List (ByteArray × Int)) (Z:Ev.Own) (Xk63:List (List AV)) (Rk63:List RowA),e=[(5,true,.box (B.length+1) 0),(7,true,.box (B.length+3) 0),(9,true,.clo 162 [.box (B.length+1) 0,.box (B.length+2) 0]),(96,true,.list (a0.fields.map Da) .none),(97,true,.val (.int .i64 (a0.fields.length:Int))),(98,true,.val (.int .i64 Q))]∧st=⟨(B.set p ([.list (V.map Jt) Z]))++([a0.cs,a1.cs,[.val (.string a2)],[.clo 96 [.box p 0]]]++Xk63),Rk63,L⟩∧Owns Rw Rk63 [(2,V.length,Z)] ak∧Ey rec n (BP rec n a0 a1 a2 ml58) Q V=some r) ?_ ?_
   ·intro K64 bd
    apply Ak
    obtain ⟨af,bv,h⟩:=bind_some h
    obtain ⟨c1,ci,bi⟩:=AA bv
    have J:=AB (f:=Da) bi
    have hs:=Aa J hs
    refine rg [5,7,9,15,96,97,98] hs ?_
    obtain ⟨aj,bp,h⟩:=bind_some h
    refine rc 2 [5,7,9,15,17,96,97,98] hs ?_;intro K67 a9
    refine Ai _ (ED w0 n _ _ _ a1.fields af.1 _ bp) (hv hs) ?_
    refine ne hs a9 ?_
    clear a9
    refine rg [5,7,9,15,96,97,98,111] hs ?_
    refine AL h hs (fun hs h=>?_) (fun hs h=>?_)
    ·have ah:=hs.1
     obtain ⟨c4,bq,h⟩:=bind_some h
     obtain ⟨cv,bm,h⟩:=bind_some h
     apply LU Iw [5] [5,7,9,96,97,98] kr (fun s=>∃ (X:List (List AV)) (rows:List RowA) (x:List AV),s=⟨(B.set p x)++([a0.cs,a1.cs,[.val (.string a2)],[.clo 96 [.box p 0]],.val (.int .i64 af.1)::(.val (.string af.2.1)::(.val (.int .i64 af.2.2.1)::((af.2.2.2.1.cs)++([.list (af.2.2.2.2.map Bo) .none])))),.val (.int .i64 aj.1.1)::(.val (.string aj.1.2.1)::(.val (.int .i64 aj.1.2.2.1)::((aj.1.2.2.2.1.cs)++([.list (aj.1.2.2.2.2.map Bo) .none]))))]++X),rows,L⟩) 2 (B.length+6)
     ·simp +decide only [go_sem,Nat.reduceAdd]
     ·rintro s ⟨X,rows,x,rfl⟩
      refine ⟨2,?_⟩
      rw [Am];simp +decide only [go_sem,Nat.reduceAdd,EO,An a,c,d,ae,J,ah]
      (repeat' apply Aa)<;>first | refine Ai _ (Ee w0 _ _ _ af.2.1 (B.length+1) a1 (ef hs) (B.length+2) a2 (ef hs) _ bq) (hv hs) ?_ | exact cl
      rw [Am];simp +decide only [go_sem,Nat.reduceAdd,An a,c,d,ae,J,ah]
      (repeat' apply Aa)<;>first | rfl | exact cl
     ·refine Good.mk [5] kr ⟨[],_,_,by first | rfl | simp only [List.append_nil,List.nil_append]⟩ ?_ ?_
      ·intro h;exact absurd h (by decide)
      ·intro i hi;simp only [List.mem_cons,List.not_mem_nil,or_false] at hi
       subst hi
       ·apply I0 rfl rfl ev rfl
        ·simp +decide only [go_sem,Nat.reduceAdd,An a,c,d,ae,J,ah]
        ·simp +decide only [go_sem,Nat.reduceAdd,An a,c,d,ae,J,ah]
        ·simp +decide only [go_sem,Nat.reduceAdd,An a,c,d,ae,J,ah]
         exact (CE w0 _ _ _ c4 2 p D F (ef hs) l.enter _ bm).pub (hv hs)
        ·rintro _ _ ⟨rfl,Rg73,cc,rfl,au⟩
         have l:=l.call au
         simp +decide only [go_sem,Nat.reduceAdd,An a,c,d,ae,J,ah]
         refine Good.mk [] kr ⟨[],_,_,by first | rfl | simp only [List.append_nil,List.nil_append]⟩ ?_ ?_
         ·intro _;refine ⟨_,_,DJ [5,7,9,96,97,98] (by first | (simp +decide only [go_sem,Nat.reduceAdd,An a,c,d,ae,J,ah];done) | (simp +decide only [go_sem,Nat.reduceAdd,An a,c,d,ae,J,ah];rfl)),?_⟩
          try simp +decide only [go_sem,Nat.reduceAdd,An a,c,d,ae,J,ah]
          (repeat' apply Aa)<;>first | refine bd _ _ ⟨cv,cc,([.val (.int .i64 af.1)::(.val (.string af.2.1)::(.val (.int .i64 af.2.2.1)::((af.2.2.2.1.cs)++([.list (af.2.2.2.2.map Bo) .none])))),.val (.int .i64 aj.1.1)::(.val (.string aj.1.2.1)::(.val (.int .i64 aj.1.2.2.1)::((aj.1.2.2.2.1.cs)++([.list (aj.1.2.2.2.2.map Bo) .none]))))]),Rg73,ef hs,ef hs,Owns.of_eq (l) FN,h⟩ | exact cl
         ·intro i hi;cases hi
    have ah:=hs.1
    refine sk [5,7,9,96,97,98] hs bd ?_
    exact ⟨D,F,([.val (.int .i64 af.1)::(.val (.string af.2.1)::(.val (.int .i64 af.2.2.1)::((af.2.2.2.1.cs)++([.list (af.2.2.2.2.map Bo) .none])))),.val (.int .i64 aj.1.1)::(.val (.string aj.1.2.1)::(.val (.int .i64 aj.1.2.2.1)::((aj.1.2.2.2.1.cs)++([.list (aj.1.2.2.2.2.map Bo) .none]))))]),Rl58,ef hs,ef hs,Owns.of_eq (l) FN,h⟩
   ·clear h;rintro e st ⟨V,Z,Xk63,Rk63,rfl,rfl,l,h⟩
    rw [Ey] at h
    have hU:=l.unders
    simp only [List.mem_cons,List.not_mem_nil,or_false,forall_eq_or_imp,forall_eq] at hU
    refine H8 hN ao ap Hy (Ap (Fo v l.len) ow) l ow ow ?_
    obtain ⟨c5,h⟩:=Aj h
    refine rl [5,7,9,96,97,98] hs (fun e s=>Vl58 ml58 e s (Nat.lt_succ_self _)) ?_
    exact ⟨(Q+1),V,Z,([]),Rk63,ef hs,ef hs,Owns.of_eq (l) FN,h⟩
 have d:=hs.1
 refine rg [4,5,6,7,8,119] hs ?_
 refine AL h hs (fun hs h=>?_) (fun hs h=>?_)
 ·have w:=hs.1
  refine Av (fun e st=>∃ (U:List (ByteArray × Int)) (ad:Ev.Own) (Xk79:List (List AV)) (Rk79:List RowA),e=[(4,true,.box B.length 0),(5,true,.box (B.length+1) 0),(6,true,.box (B.length+2) 0),(7,true,.box (B.length+3) 0)]∧st=⟨(B.set p ([.list (U.map Jt) ad]))++([a0.cs,a1.cs,[.val (.string a2)],[.clo 96 [.box p 0]]]++Xk79),Rk79,L⟩∧Owns Rw Rk79 [(2,U.length,ad)] ak∧Ez rec n a0 a1 a2 U=some r) ?_ ?_
  ·intro K80 bc
   refine rg [4,5,6,7,8,134] hs ?_
   refine AL h hs (fun hs h=>?_) (fun hs h=>?_)
   ·obtain ⟨c3,ca,h⟩:=bind_some h
    refine rk 3 [4,5,6,7] hs ?_
    refine Ai _ (En w0 _ _ _ a0 a1) (hv hs) ?_
    refine nc hs ?_
    refine Bt _ (JG w0 _ _ _ (CP a0 a1) p a3 ak (ef hs) l.enter (B.length+3) (ef hs) (B.length+2) a2 (ef hs) _ ca) (hv hs) ?_;rintro _ _ ⟨rfl,Rg84,bk,rfl,ay⟩
    have l:=l.call ay
    refine ne hs bc ?_
    exact ⟨c3,bk,([]),Rg84,ef hs,ef hs,Owns.of_eq (l) FN,h⟩
   refine sk [4,5,6,7] hs bc ?_
   exact ⟨a3,ak,([]),Rw,ef hs,ef hs,Owns.of_eq (l) FN,h⟩
  ·clear h;rintro e st ⟨U,ad,Xk79,Rk79,rfl,rfl,l,h⟩
   rw [Ez] at h
   have hU:=l.unders
   simp only [List.mem_cons,List.not_mem_nil,or_false,forall_eq_or_imp,forall_eq] at hU
   refine H8 hN ao ap Hy (Ap (Fo v l.len) ow) l ow ow ?_
   obtain ⟨cx,cq,c0,z,h⟩:=ix Ia h
   have G:(a0.elem.map Ia).getD 0 .junk=_:=z
   obtain ⟨cp,cy,cn,y,h⟩:=ix Ia h
   have H:(a1.elem.map Ia).getD 0 .junk=_:=y
   obtain ⟨bz,h⟩:=Aj h
   have bj:=bz
   try simp +decide only [go_sem] at bj
   obtain ⟨c9,b7,h⟩:=bind_some h
   apply LU Iw [11] [] kr (fun s=>∃ (X:List (List AV)) (rows:List RowA) (x:List AV),s=⟨(B.set p x)++([a0.cs,a1.cs,[.val (.string a2)],[.clo 96 [.box p 0]]]++X),rows,L⟩) 2 (B.length+4)
   ·simp +decide only [go_sem,Nat.reduceAdd]
   ·rintro s ⟨X,rows,x,rfl⟩
    refine ⟨1,?_⟩
    rw [Am];simp +decide only [go_sem,Nat.reduceAdd,EO,An a,c,d,w,z,G,y,H]
    (repeat' apply Aa)<;>first | rfl | exact cl
   ·refine Good.mk [11] kr ⟨[],_,_,by first | rfl | simp only [List.append_nil,List.nil_append]⟩ ?_ ?_
    ·intro h;exact absurd h (by decide)
    ·intro i hi;simp only [List.mem_cons,List.not_mem_nil,or_false] at hi
     subst hi
     ·apply I0 rfl rfl ev rfl
      ·simp +decide only [go_sem,Nat.reduceAdd,An a,c,d,w,z,G,y,H]
      ·simp +decide only [go_sem,Nat.reduceAdd,An a,c,d,w,z,G,y,H]
      ·simp +decide only [go_sem,Nat.reduceAdd,An a,c,d,w,z,G,y,H]
       have hs:=Aa z hs
       have hs:=Aa G hs
       have hs:=Aa y hs
       have hs:=Aa H hs
       exact (ih _ _ _ cx cp (a2++((⟨#[91,42,93]⟩:ByteArray))) p U ad (ef hs) l.enter _ b7).pub (hv hs)
      ·rintro _ _ ⟨rfl,Rg90,c7,rfl,ax⟩
       have l:=l.call ax
       simp +decide only [go_sem,Nat.reduceAdd,An a,c,d,w,z,G,y,H]
       refine Good.mk [] kr ⟨[],_,_,by first | rfl | simp only [List.append_nil,List.nil_append]⟩ ?_ ?_
       ·intro _;refine ⟨_,_,DJ [] (by first | (simp +decide only [go_sem,Nat.reduceAdd,An a,c,d,w,z,G,y,H];done) | (simp +decide only [go_sem,Nat.reduceAdd,An a,c,d,w,z,G,y,H];rfl)),?_⟩
        try simp +decide only [go_sem,Nat.reduceAdd,An a,c,d,w,z,G,y,H]
        (repeat' with_reducible apply Aa)<;>first | exact cl | skip
        have hgt:=Option.some.inj h;subst hgt
        have hU:=l.unders
        simp only [List.mem_cons,List.not_mem_nil,or_false,forall_eq_or_imp,forall_eq] at hU
        refine Q1 l (Ap (Fo v l.len) ow) Hy ev ⟨?_,_,_,?_,(l.sub (List.sublist_append_left [_] _)).len1 FN⟩
        all_goals first | rfl | (simp +decide only [go_sem,Nat.reduceAdd,An a,c,d,w,z,G,y,H];done) | (simp +decide only [go_sem,Nat.reduceAdd,Vl.cs,Ty.cs,An a,c,d,w,z,G,y,H];done)
       ·intro i hi;cases hi
 have w:=hs.1
 obtain ⟨db,b9,h⟩:=bind_some h
 refine rc 2 [4,5,8,152] hs ?_;intro K92 be
 refine Ai _ (Ui w0 n _ _ _ a0 a1 _ b9) (hv hs) ?_
 refine ne hs be ?_
 clear be
 refine AL h hs (fun hs h=>?_) (fun hs h=>?_)
 ·have am:=hs.1
  obtain ⟨cw,cd,h⟩:=bind_some h
  obtain ⟨da,b1,h⟩:=bind_some h
  apply Ao 3 []
  rw [Am];simp +decide only [go_sem,Nat.reduceAdd,An a,c,d,w,am]
  (repeat' apply Aa)<;>first | refine Ai _ (EY w0 n _ _ _ a0 a1 _ cd) (hv hs) ?_ | exact cl
  rw [Am];simp +decide only [go_sem,Nat.reduceAdd,An a,c,d,w,am]
  (repeat' apply Aa)<;>first | (refine Bt _ (JG w0 _ _ _ cw p a3 ak (ef hs) l.enter (B.length+3) (ef hs) (B.length+2) a2 (ef hs) _ b1) (hv hs) ?_;rintro _ _ ⟨rfl,Rg97,c6,rfl,av⟩) | exact cl
  have l:=l.call av
  rw [Am];simp +decide only [go_sem,Nat.reduceAdd,An a,c,d,w,am]
  (repeat' with_reducible apply Aa)<;>first | exact cl | skip
  have hgt:=Option.some.inj h;subst hgt
  have hU:=l.unders
  simp only [List.mem_cons,List.not_mem_nil,or_false,forall_eq_or_imp,forall_eq] at hU
  refine Q1 l (Ap (Fo v l.len) ow) Hy ev ⟨?_,_,_,?_,(l.sub (List.sublist_append_left [_] _)).len1 FN⟩
  all_goals first | rfl | (simp +decide only [go_sem,Nat.reduceAdd,An a,c,d,w,am];done) | (simp +decide only [go_sem,Nat.reduceAdd,Vl.cs,Ty.cs,An a,c,d,w,am];done)
 have am:=hs.1
 refine DU (Do [] _) ?_ (Bg _ _)
 apply Bl;simp +decide only [go_sem,Nat.reduceAdd]
 (repeat' with_reducible apply Aa)<;>first | exact cl | skip
 have hgt:=Option.some.inj h;subst hgt
 have hU:=l.unders
 simp only [List.mem_cons,List.not_mem_nil,or_false,forall_eq_or_imp,forall_eq] at hU
 refine Q1 l (Fo v l.len) rfl ev ⟨?_,_,_,?_,(l.sub (List.sublist_append_left [_] _)).len1 FN⟩
 all_goals first | rfl | (simp +decide only [go_sem,Nat.reduceAdd,An a,c,d,w,am];done) | (simp +decide only [go_sem,Nat.reduceAdd,Vl.cs,Ty.cs,An a,c,d,w,am];done)
theorem Lx (w0:World):∀ n:Nat,IR w0 (DT n)
 | 0=>fun _ _ _ _ _ _ _ _ _ _ _ _ h=>(nomatch h)
 | n+1=>O6 w0 (DT n) (Lx w0 n) n
def Eo (n:Nat) (q:Ty) (g:Ty):Option ((List (ByteArray × Int)) × Int) :=
 (Cd n q g).bind fun h =>
 if !(decide (h=0)) then
  some (([],h))
 else
  (DT n q g ((⟨#[]⟩:ByteArray)) ([])).bind fun b =>
  some ((b,0))
theorem Lc (w0:World) (hT:Lib.Utf8Tabs 0 1 w0) (n:Nat) (B:List (List AV)) (Rw:List RowA) (L:List LoopA) (a0:Ty) (a1:Ty) (r:(List (ByteArray × Int)) × Int) (h:Eo n a0 a1=some r) :
  ACalls Tryz.prog w0 42 [.agg (a0.cs),.agg (a1.cs)] ⟨B,Rw,L⟩ fun x st=>x = .tup [.list (r.1.map Jt) .none,.val (.int .i64 r.2)]∧st=⟨B,Rw,L⟩:=by
 rw [Eo] at h
 refine hd [.tmp 4,.tmp 5] Tryz.func42 Tryz.ntmps42 fun M0 W0 q m k a o c hs=>?_
 simp only [Au]
 refine rg [2,3] hs ?_
 apply Ah;intro K2 g
 obtain ⟨p,i,h⟩:=bind_some h
 refine rc 2 [2,3,6] hs ?_;intro K3 f
 refine Ai _ (EU w0 hT n _ _ _ a0 a1 _ i) (hv hs) ?_
 refine ne hs f ?_
 clear f
 refine rg [2,3,6,12] hs ?_
 refine AL h hs (fun hs h=>?_) (fun hs h=>?_)
 ·refine rg [4,5] hs ?_
  exact rt h hs a c
 refine sk [2,3] hs g ?_
 clear g
 refine rg [2,3,7] hs ?_
 have c:=c.full 2 0
 obtain ⟨l,e,h⟩:=bind_some h
 refine rc 2 [7] hs ?_;intro K9 d
 refine Bt _ (Lx w0 n _ _ _ a0 a1 ((⟨#[]⟩:ByteArray)) (B.length+2) ([]) .full (ef hs) c.enter _ e) (hv hs) ?_;rintro _ _ ⟨rfl,Rg12,j,rfl,b⟩
 have c:=c.call b
 refine ne hs d ?_
 clear d
 refine rg [4,5] hs ?_
 exact rt h hs a c
theorem ZQ (n:Nat) (a:Ty) (he:a.elem=[]) (hf:a.fields=[]) (hw:a.words.length≤1048576) (hn:1048590<n):J3 n a a=some true:=by
 obtain ⟨n,rfl⟩:∃ m,n=m+2:=⟨n-2,by omega⟩
 obtain ⟨c,e,b⟩:=Zjb (n+1) a.words a.words (by omega) (by omega)
 rw [b.2 rfl] at e
 rw [J3,OG,Ad (rfl:a.kind=a.kind),Ad (rfl:a.min=a.min),Ad (rfl:a.max=a.max),Ad (rfl:a.scale=a.scale),Ae (by rfl),e,Ab,Ae rfl,he,hf]
 rfl
theorem Zbt (x s:ByteArray) (a:Ty) (hx:x.size≤1048576) (hs:s.size≤1000000000):∃ y,BR x a s=some y∧y.size≤s.size+1048577:=by
 have c:(⟨#[63]⟩:ByteArray).size=1:=rfl
 have b:(⟨#[46]⟩:ByteArray).size=1:=rfl
 rw [BR]
 by_cases k:a.kind=10
 ·rw [Ad k,Ae rfl,Ae (by omega),Ae (by rw [ByteArray.size_append];omega)]
  exact ⟨_,rfl,by rw [ByteArray.size_append,ByteArray.size_append];omega⟩
 rw [Ac k,Af (by decide)]
 cases DK s ⟨#[]⟩ with
 | true=>exact ⟨_,rfl,by omega⟩
 | false =>
  rw [Af (by decide),Ae (by omega),Ae (by rw [ByteArray.size_append];omega)]
  exact ⟨_,rfl,by rw [ByteArray.size_append,ByteArray.size_append];omega⟩
theorem Zac (rec:Ty→Ty→ByteArray→List (ByteArray × Int)→Option (List (ByteArray × Int))) (n:Nat) (a:Ty) (s:ByteArray) (l:List (ByteArray × Int)) (ma:(a.fields.map fun p=>p.1).Nodup) (la:a.fields.length≤1000000) (hn:1048580<n):∀ (k m i:Nat),i+k=a.fields.length→k<m→BP rec n a a s m i l=some l
 | k,0,i,_,h=>absurd h (Nat.not_lt_zero _)
 | 0,m+1,i,hi,_=>by rw [BP,As,Ac (by omega),Af (by decide)]
 | k+1,m+1,i,hi,hm=>by
  have b:i<a.fields.length:=by omega
  rw [BP,As,Ad b,Ae rfl,Ax b,Ab,M4 n a.fields _ (by omega) (by omega),Ab,HH ma (List.getElem_mem b),Af (by simp),Ey,Ae (Aw (by omega))]
  exact Zac rec n a s l ma la hn k m (i+1) (by omega) (by omega)
theorem Zah (rec:Ty→Ty→ByteArray→List (ByteArray × Int)→Option (List (ByteArray × Int))) (n:Nat) (a:Ty) (s:ByteArray) (l:List (ByteArray × Int)) (ma:(a.fields.map fun p=>p.1).Nodup) (la:a.fields.length≤1000000) (hn:1048580<n) (hs:s.size≤1000000000) (hx:∀ p∈a.fields,p.2.1.size≤1048576)
  (hr:∀ p∈a.fields,∀ y:ByteArray,y.size≤s.size+1048577→rec p.2.2.2.1 p.2.2.2.1 y l=some l):∀ (k m i:Nat),i+k=a.fields.length→k<m→A8 rec n a a s m i l=some l
 | k,0,i,_,h=>absurd h (Nat.not_lt_zero _)
 | 0,m+1,i,hi,_=>by
  rw [A8,As,Ac (by omega),Af (by decide),Gg]
  exact Zac rec n a s l ma la hn a.fields.length n 0 (by omega) (by omega)
 | k+1,m+1,i,hi,hm=>by
  have c:i<a.fields.length:=by omega
  have b:=List.getElem_mem c
  obtain ⟨y,e,d⟩:=Zbt a.fields[i].2.1 s a (hx _ b) hs
  rw [A8,As,Ad c,Ae rfl,Ax c,Ab,M4 n a.fields _ (by omega) (by omega),Ab,HH ma b,Af (by simp),Option.getD_some,Mc,Af (by decide),EG,Ad rfl,Af (by decide),EF,e,Ab,hr _ b y d,Ab,EB,Ae (Aw (by omega))]
  exact Zah rec n a s l ma la hn hs hx hr k m (i+1) (by omega) (by omega)
theorem UW:∀ (d n:Nat) (a:Ty) (s:ByteArray) (l:List (ByteArray × Int)),a.small→a.Good→a.depth≤d→d+2000000<n→s.size+d*2000000≤1000000000→DT n a a s l=some l
 | 0,n,a,s,l,_,_,h,_,_=>by have:=a.depth_eq;omega
 | d+1,0,a,s,l,_,_,_,h,_=>absurd h (by omega)
 | d+1,n+1,a,s,l,sa,ga,hd,hn,hs=>by
  have c:=ga.own
  have m:=a.lens
  have g:=sa.1
  have ok:=a.ok_eq.1 sa.2.2
  rw [DT,G2,J6 (.inl rfl),Af (by decide)]
  by_cases k:a.kind=9∨a.kind=10
  ·rw [Ae (by rw [Bool.or_eq_true,decide_eq_true_eq,decide_eq_true_eq];exact k)]
   exact Zah (DT n) n a s l (J9 _ _ _ c.apart).1 (by omega) (by omega) (by omega) (fun p b=>(ok.2.2.2 p b).1) (fun p b y j=>UW d n p.2.2.2.1 y l (Ty.small_field sa b) (BK ga b) (by have:=Ty.depth_field b;omega) (by omega) (by omega)) a.fields.length n 0 (by omega) (by omega)
  rw [Af (by rw [Bool.or_eq_true,decide_eq_true_eq,decide_eq_true_eq];exact k)]
  by_cases k8:a.kind=8
  ·obtain ⟨x,f⟩:=c.elem k8
   have e:x∈a.elem:=by rw [f];simp
   have i:(⟨#[91,42,93]⟩:ByteArray).size=3:=rfl
   rw [Ad k8,Ae rfl,Ad (rfl:a.min=a.min),Ad (rfl:a.max=a.max),Af (by decide),Ez,f,show Cb [x] 0=some x from rfl,Ab,Ab,Ae (by omega),UW d n x _ l (Ty.small_elem sa e) (ET ga e) (by have:=Ty.depth_elem e;omega) (by omega) (by rw [ByteArray.size_append];omega),Ab]
  ·rw [Ac k8,Af (by decide),ZQ n a (c.noelem k8) (c.nofields (fun q=>k (.inl q)) (fun q=>k (.inr q))) ok.1 (by omega),Ab,Af (by decide)]
def JL (rec:Ty→Option Int) (n:Nat)  (b:Int):Option Int :=
 if BV (b+1) then
  some (b+1)
 else none
def F7 (rec:Ty→Option Int) (n:Nat) (s:Ty):Nat→Int→Int→Option Int
 | 0,_,_=>none
 | m+1,g,b =>
  if decide (b<(s.fields.length:Int)) then
   (Cb s.fields b).bind fun q =>
   (rec q.2.2.2.1).bind fun h =>
   if BV (b+1) then
    (F7 rec n s m) ((if g<h then h else g)) (b+1)
   else none
  else
   JL rec n g
def Ly (rec:Ty→Option Int) (n:Nat) (g:Ty) (b:Int):Option Int :=
 F7 rec n g n b 0
def GX (rec:Ty→Option Int) (n:Nat) (q:Ty):Nat→Int→Int→Option Int
 | 0,_,_=>none
 | m+1,g,b =>
  if decide (b<(q.elem.length:Int)) then
   (Cb q.elem b).bind fun s =>
   (rec s).bind fun h =>
   if BV (b+1) then
    (GX rec n q m) ((if g<h then h else g)) (b+1)
   else none
  else
   Ly rec n q g
def MX (rec:Ty→Option Int) (n:Nat) (b:Ty):Option Int :=
 GX rec n b n 0 0
def HO:Nat→Ty→Option Int
 | 0,_=>none
 | n+1,b=>MX (HO n) n b
def PY (w0:World) (F:Ty→Option Int):Prop:=∀ (B:List (List AV)) (Rw:List RowA) (L:List LoopA) (b:Ty) (r:Int),F b=some r→ACalls Tryz.prog w0 74 [.agg (b.cs)] ⟨B,Rw,L⟩ fun x st=>x = .val (.int .i64 r)∧st=⟨B,Rw,L⟩
theorem Vo (w0:World) (rec:Ty→Option Int) (ih:PY w0 rec) (n:Nat):PY w0 (MX rec n):=by
 intro B Rw L a0 r h
 rw [MX] at h
 refine hd [.tmp 2] Tryz.func74 Tryz.ntmps74 fun M0 W0 D k l d V j hs=>?_
 simp only [Au]
 refine rg [1] hs ?_
 refine rg [1,3] hs ?_
 refine Av (fun e st=>∃ (g:Int),Ck e st B Rw L [(1,true,.box B.length 0),(3,true,.val (.int .i64 g))] [a0.cs] [] (Ly rec n a0 g=some r)) ?_ ?_
 ·intro K5 H
  refine rg [1,3,4] hs ?_
  apply Ak
  refine AC (fun m e st=>∃ (b:Int) (f:Int),Ck e st B Rw L [(1,true,.box B.length 0),(3,true,.val (.int .i64 b)),(4,true,.val (.int .i64 f))] [a0.cs] [] (GX rec n a0 m b f=some r)) n ⟨0,0,([]),Rw,ef hs,ef hs,j,h⟩ ?_
  rintro ml7 e st ⟨b,f,Xl7,Rl7,rfl,rfl,j,h⟩ Ul7 Vl7
  cases ml7 with
  | zero=>cases h
  | succ ml7 =>
  rw [GX] at h
  refine td D k l d j ?_
  apply Ah;intro K8 x
  refine rg [1,3,4,10] hs ?_
  refine AL h hs (fun hs h=>?_) (fun hs h=>?_)
  rotate_left
  ·refine sx [1,3] hs H ?_
   exact ⟨b,([]),Rl7,ef hs,ef hs,j,h⟩
  refine sk [1,3,4] hs x ?_
  clear x
  apply Ah;intro K11 o
  apply Ak
  obtain ⟨E,G,J,t,h⟩:=ix Ia h
  obtain ⟨v,z,h⟩:=bind_some h
  have hs:=Aa t hs
  refine rk 2 [1,3,4] hs ?_
  refine Ai _ (ih _ _ _ E _ z) (hv hs) ?_
  refine ne hs o ?_
  clear o
  obtain ⟨O,h⟩:=Aj h
  refine rl [1,3,4] hs (fun e s=>Vl7 ml7 e s (Nat.lt_succ_self _)) ?_
  exact ⟨((if b<v then v else b)),(f+1),([]),Rl7,ef hs,ef hs,j,h⟩
 ·clear h;rintro e st ⟨g,Xk4,Rk4,rfl,rfl,j,h⟩
  rw [Ly] at h
  refine td D k l d j ?_
  refine Av (fun e st=>∃ (i:Int),Ck e st B Rw L [(3,true,.val (.int .i64 i))] [a0.cs] [] (JL rec n i=some r)) ?_ ?_
  ·intro K17 y
   refine rg [1,3,5] hs ?_
   apply Ak
   refine AC (fun m e st=>∃ (a:Int) (c:Int),Ck e st B Rw L [(1,true,.box B.length 0),(3,true,.val (.int .i64 a)),(5,true,.val (.int .i64 c))] [a0.cs] [] (F7 rec n a0 m a c=some r)) n ⟨g,0,([]),Rk4,ef hs,ef hs,j,h⟩ ?_
   rintro ml19 e st ⟨a,c,Xl19,Rl19,rfl,rfl,j,h⟩ Ul19 Vl19
   cases ml19 with
   | zero=>cases h
   | succ ml19 =>
   rw [F7] at h
   refine td D k l d j ?_
   apply Ah;intro K20 p
   refine rg [1,3,5,25] hs ?_
   refine AL h hs (fun hs h=>?_) (fun hs h=>?_)
   rotate_left
   ·refine sx [3] hs y ?_
    exact ⟨a,([]),Rl19,ef hs,ef hs,j,h⟩
   refine sk [1,3,5] hs p ?_
   clear p
   apply Ah;intro K23 q
   apply Ak
   obtain ⟨F,N,K,u,h⟩:=ix Da h
   obtain ⟨w,C,h⟩:=bind_some h
   have hs:=Aa u hs
   refine rk 2 [1,3,5] hs ?_
   refine Ai _ (ih _ _ _ F.2.2.2.1 _ C) (hv hs) ?_
   refine ne hs q ?_
   clear q
   obtain ⟨U,h⟩:=Aj h
   refine rl [1,3,5] hs (fun e s=>Vl19 ml19 e s (Nat.lt_succ_self _)) ?_
   exact ⟨((if a<w then w else a)),(c+1),([]),Rl19,ef hs,ef hs,j,h⟩
  ·clear h;rintro e st ⟨i,Xk16,Rk16,rfl,rfl,j,h⟩
   rw [JL] at h
   refine td D k l d j ?_
   obtain ⟨Q,h⟩:=Aj h
   refine rg [2] hs ?_
   exact rt h hs d j
theorem Oi (w0:World):∀ n:Nat,PY w0 (HO n)
 | 0=>fun _ _ _ _ _ h=>(nomatch h)
 | n+1=>Vo w0 (HO n) (Oi w0 n) n
def NX (rec:Ty→Option Int) (n:Nat)  (b:Int):Option Int :=
 some (b)
def GN (rec:Ty→Option Int) (n:Nat) (s:Ty):Nat→Int→Int→Option Int
 | 0,_,_=>none
 | m+1,g,b =>
  if decide (b<(s.fields.length:Int)) then
   (Cb s.fields b).bind fun q =>
   (rec q.2.2.2.1).bind fun h =>
   if BV (g+h) then
    if BV (b+1) then
     (GN rec n s m) (g+h) (b+1)
    else none
   else none
  else
   NX rec n g
def Pv (rec:Ty→Option Int) (n:Nat) (g:Ty) (b:Int):Option Int :=
 GN rec n g n b 0
def HK (rec:Ty→Option Int) (n:Nat) (q:Ty):Nat→Int→Int→Option Int
 | 0,_,_=>none
 | m+1,g,b =>
  if decide (b<(q.elem.length:Int)) then
   (Cb q.elem b).bind fun s =>
   (rec s).bind fun h =>
   if BV (g+h) then
    if BV (b+1) then
     (HK rec n q m) (g+h) (b+1)
    else none
   else none
  else
   Pv rec n q g
def OL (rec:Ty→Option Int) (n:Nat) (b:Ty):Option Int :=
 HK rec n b n 1 0
def IK:Nat→Ty→Option Int
 | 0,_=>none
 | n+1,b=>OL (IK n) n b
def RE (w0:World) (F:Ty→Option Int):Prop:=∀ (B:List (List AV)) (Rw:List RowA) (L:List LoopA) (b:Ty) (r:Int),F b=some r→ACalls Tryz.prog w0 75 [.agg (b.cs)] ⟨B,Rw,L⟩ fun x st=>x = .val (.int .i64 r)∧st=⟨B,Rw,L⟩
theorem WP (w0:World) (rec:Ty→Option Int) (ih:RE w0 rec) (n:Nat):RE w0 (OL rec n):=by
 intro B Rw L a0 r h
 rw [OL] at h
 refine hd [.tmp 2] Tryz.func75 Tryz.ntmps75 fun M0 W0 z k l d Y j hs=>?_
 simp only [Au]
 refine rg [1] hs ?_
 refine rg [1,3] hs ?_
 refine Av (fun e st=>∃ (g:Int),Ck e st B Rw L [(1,true,.box B.length 0),(3,true,.val (.int .i64 g))] [a0.cs] [] (Pv rec n a0 g=some r)) ?_ ?_
 ·intro K5 K
  refine rg [1,3,4] hs ?_
  apply Ak
  refine AC (fun m e st=>∃ (c:Int) (f:Int),Ck e st B Rw L [(1,true,.box B.length 0),(3,true,.val (.int .i64 c)),(4,true,.val (.int .i64 f))] [a0.cs] [] (HK rec n a0 m c f=some r)) n ⟨1,0,([]),Rw,ef hs,ef hs,j,h⟩ ?_
  rintro ml7 e st ⟨c,f,Xl7,Rl7,rfl,rfl,j,h⟩ Ul7 Vl7
  cases ml7 with
  | zero=>cases h
  | succ ml7 =>
  rw [HK] at h
  refine td z k l d j ?_
  apply Ah;intro K8 w
  refine rg [1,3,4,10] hs ?_
  refine AL h hs (fun hs h=>?_) (fun hs h=>?_)
  rotate_left
  ·refine sx [1,3] hs K ?_
   exact ⟨c,([]),Rl7,ef hs,ef hs,j,h⟩
  refine sk [1,3,4] hs w ?_
  clear w
  apply Ah;intro K11 o
  apply Ak
  obtain ⟨E,F,N,t,h⟩:=ix Ia h
  obtain ⟨D,y,h⟩:=bind_some h
  obtain ⟨O,h⟩:=Aj h
  have hs:=Aa t hs
  refine rk 2 [1,3,4] hs ?_
  refine Ai _ (ih _ _ _ E _ y) (hv hs) ?_
  refine ne hs o ?_
  clear o
  obtain ⟨Q,h⟩:=Aj h
  refine rl [1,3,4] hs (fun e s=>Vl7 ml7 e s (Nat.lt_succ_self _)) ?_
  exact ⟨(c+D),(f+1),([]),Rl7,ef hs,ef hs,j,h⟩
 ·clear h;rintro e st ⟨g,Xk4,Rk4,rfl,rfl,j,h⟩
  rw [Pv] at h
  refine td z k l d j ?_
  refine Av (fun e st=>∃ (i:Int),Ck e st B Rw L [(3,true,.val (.int .i64 i))] [a0.cs] [] (NX rec n i=some r)) ?_ ?_
  ·intro K18 v
   refine rg [1,3,5] hs ?_
   apply Ak
   refine AC (fun m e st=>∃ (a:Int) (b:Int),Ck e st B Rw L [(1,true,.box B.length 0),(3,true,.val (.int .i64 a)),(5,true,.val (.int .i64 b))] [a0.cs] [] (GN rec n a0 m a b=some r)) n ⟨g,0,([]),Rk4,ef hs,ef hs,j,h⟩ ?_
   rintro ml20 e st ⟨a,b,Xl20,Rl20,rfl,rfl,j,h⟩ Ul20 Vl20
   cases ml20 with
   | zero=>cases h
   | succ ml20 =>
   rw [GN] at h
   refine td z k l d j ?_
   apply Ah;intro K21 p
   refine rg [1,3,5,25] hs ?_
   refine AL h hs (fun hs h=>?_) (fun hs h=>?_)
   rotate_left
   ·refine sx [3] hs v ?_
    exact ⟨a,([]),Rl20,ef hs,ef hs,j,h⟩
   refine sk [1,3,5] hs p ?_
   clear p
   apply Ah;intro K24 q
   apply Ak
   obtain ⟨C,G,J,u,h⟩:=ix Da h
   obtain ⟨H,x,h⟩:=bind_some h
   obtain ⟨V,h⟩:=Aj h
   have hs:=Aa u hs
   refine rk 2 [1,3,5] hs ?_
   refine Ai _ (ih _ _ _ C.2.2.2.1 _ x) (hv hs) ?_
   refine ne hs q ?_
   clear q
   obtain ⟨U,h⟩:=Aj h
   refine rl [1,3,5] hs (fun e s=>Vl20 ml20 e s (Nat.lt_succ_self _)) ?_
   exact ⟨(a+H),(b+1),([]),Rl20,ef hs,ef hs,j,h⟩
  ·clear h;rintro e st ⟨i,Xk17,Rk17,rfl,rfl,j,h⟩
   rw [NX] at h
   refine td z k l d j ?_
   refine rg [2] hs ?_
   exact rt h hs d j
theorem S5 (w0:World):∀ n:Nat,RE w0 (IK n)
 | 0=>fun _ _ _ _ _ h=>(nomatch h)
 | n+1=>WP w0 (IK n) (S5 w0 n) n
def HF (n:Nat) (b:Ty):Option Bool :=
 (HO n b).bind fun g =>
 if decide (g≤10) then
  (IK n b).bind fun h =>
  some (decide (h≤60))
 else
  some (false)
theorem Oh (w0:World) (n:Nat) (B:List (List AV)) (Rw:List RowA) (L:List LoopA) (a0:Ty) (r:Bool) (h:HF n a0=some r) :
  ACalls Tryz.prog w0 27 [.agg (a0.cs)] ⟨B,Rw,L⟩ fun x st=>x = .val (.bool r)∧st=⟨B,Rw,L⟩:=by
 rw [HF] at h
 refine hd [.tmp 2] Tryz.func27 Tryz.ntmps27 fun M0 W0 l g f a j e hs=>?_
 simp only [Au]
 refine rg [1] hs ?_
 apply Ah;intro K2 b
 obtain ⟨i,c,h⟩:=bind_some h
 rcases Bool.eq_false_or_eq_true (decide (i≤10)) with hf4 | hf4
 ·replace h:=AY h hf4
  obtain ⟨k,d,h⟩:=bind_some h
  have hs:=Aa hf4 hs
  refine rk 3 [2] hs ?_
  refine Ai _ (Oi w0 n _ _ _ a0 _ c) (hv hs) ?_
  refine nc hs ?_
  refine Ai _ (S5 w0 n _ _ _ a0 _ d) (hv hs) ?_
  refine ne hs b ?_
  clear b
  exact rt h hs a e
 ·replace h:=AZ h hf4
  have hs:=Aa hf4 hs
  refine rk 3 [2] hs ?_
  refine Ai _ (Oi w0 n _ _ _ a0 _ c) (hv hs) ?_
  refine nc hs ?_
  refine Az ?_
  refine ne hs b ?_
  clear b
  exact rt h hs a e
def HJ  : List (Nat × Vl)→Int→Option Int
 | [],b1_r6 =>
  some (b1_r6)
 | p_r6::rest,b1_r6 =>
  (HJ  rest) ((if b1_r6<(p_r6.1:Int) then (p_r6.1:Int) else b1_r6))
def OP (b:Vl):Option Int :=
 if b.depth<4611686018427387904∧b.wide=true then
  HJ  (Fa 1 b) 0
 else none
theorem TE (w0:World) (B:List (List AV)) (Rw:List RowA) (L:List LoopA) (a0:Vl) (r:Int) (h:OP a0=some r) :
  ACalls Tryz.prog w0 76 [.agg (a0.cs)] ⟨B,Rw,L⟩ fun x st=>x = .val (.int .i64 r)∧st=⟨B,Rw,L⟩:=by
 rw [OP] at h
 refine hd [.tmp 2] Tryz.func76 Tryz.ntmps76 fun M0 W0 y k q c D d hs=>?_
 simp only [Au]
 refine rg [1] hs ?_
 refine rg [1,3] hs ?_
 apply Ah;intro K3 g
 refine rc 2 [3,6] hs ?_;intro K4 f
 refine Bt _ (Oq w0 _ _ _ a0) (hv hs) ?_;rintro _ _ ⟨rfl,rfl⟩
 refine ne hs f ?_
 clear f
 apply Ak
 obtain ⟨p,h⟩:=Aj h
 refine RH (ID a0) (fun st=>st.boxes[(B.length+2)]? = some a0.cs) (fun i st=>∃ (a:Int) (Rr6:List RowA),st=⟨B++([a0.cs,[.val (.int .i64 a)],a0.cs]),Rr6,L⟩∧Owns Rw Rr6 []∧HJ  ((Fa 1 a0).drop i) a=some r) (fun _ _=>False) ev ev (LE w0 a0 p _) (fun x o=>PG a0 x o) (by decide) ?_ ⟨0,Rw,ef hs,d,h⟩ (fun _ _ h=>h.elim) ?_ ?_ ?_
 ·rintro i st n ⟨a,Rr6,rfl,d,h⟩ _ _;simp +decide [St.push]
 ·rintro i F ⟨XB,XR,XL⟩ x M1 W1 l n w hX z u j o C K v
  obtain ⟨b,t,rfl,E⟩:=P3 a0 i x o
  (try simp only at hX)
  subst hX
  obtain ⟨a,Rr6,rfl,d,h⟩:=z
  rw [Uy t,HJ] at h
  have e:=d
  simp only [St.ext,St.push,List.append_assoc,List.append_nil]
  apply Ao 1 [3,4]
  rw [Am];simp +decide only [go_sem,Nat.reduceAdd]
  (repeat' apply Aa)<;>first | refine v _ _ (by simp [St.ext,St.push]) (fun H m=>?_) | exact cl
  clear v
  dsimp only [St.ext,St.push]
  apply Ak
  apply Ao 1 [3]
  rw [Am];simp +decide only [go_sem,Nat.reduceAdd]
  (repeat' apply Aa)<;>first | refine m _ _ _ ⟨⟨B++[a0.cs,[.val (.int .i64 ((if a<(b.1:Int) then (b.1:Int) else a)))],a0.cs],Rr6,L⟩,[],by first | rfl | (simp only [List.append_assoc,List.append_nil,List.cons_append,List.nil_append];done),⟨by simp,by first | exact Nat.le_refl _ | (have:=d.len;simp;omega),rfl⟩,rfl,⟨((if a<(b.1:Int) then (b.1:Int) else a)),Rr6,ef hs,d,h⟩,?_⟩ | exact cl
  exact .inl rfl
 ·rintro s n ⟨XB,XR,XL⟩ hXR ⟨a,Rr6,rfl,d,h⟩ _ _
  simp only at hXR
  subst hXR
  rw [List.drop_eq_nil_of_le (by rw [LG];exact Nat.le_refl _),HJ] at h
  simp only [St.ext,St.push,List.append_assoc,List.append_nil]
  (repeat' apply Aa)<;>first | refine g _ _ ?_ | exact cl
  clear g
  refine Re (bs:=[a0.cs,[.val (.int .i64 a)],a0.cs]) y k q rfl c d ow ow ?_
  refine rg [2] hs ?_
  exact rt h hs c d
 ·rintro G s n X hX h;exact h.elim
def OC (b:Vl):Option Bool :=
 (OP b).bind fun h =>
 if decide (h≤12) then
  (MC b).bind fun g =>
  some (decide (g≤1000))
 else
  some (false)
theorem VI (w0:World) (B:List (List AV)) (Rw:List RowA) (L:List LoopA) (a0:Vl) (r:Bool) (h:OC a0=some r) :
  ACalls Tryz.prog w0 28 [.agg (a0.cs)] ⟨B,Rw,L⟩ fun x st=>x = .val (.bool r)∧st=⟨B,Rw,L⟩:=by
 rw [OC] at h
 refine hd [.tmp 2] Tryz.func28 Tryz.ntmps28 fun M0 W0 l g f a j e hs=>?_
 simp only [Au]
 refine rg [1] hs ?_
 apply Ah;intro K2 b
 obtain ⟨i,c,h⟩:=bind_some h
 rcases Bool.eq_false_or_eq_true (decide (i≤12)) with hf4 | hf4
 ·replace h:=AY h hf4
  obtain ⟨k,d,h⟩:=bind_some h
  have hs:=Aa hf4 hs
  refine rk 3 [2] hs ?_
  refine Ai _ (TE w0 _ _ _ a0 _ c) (hv hs) ?_
  refine nc hs ?_
  refine Ai _ (Vu w0 _ _ _ a0 _ d) (hv hs) ?_
  refine ne hs b ?_
  clear b
  exact rt h hs a e
 ·replace h:=AZ h hf4
  have hs:=Aa hf4 hs
  refine rk 3 [2] hs ?_
  refine Ai _ (TE w0 _ _ _ a0 _ c) (hv hs) ?_
  refine nc hs ?_
  refine Az ?_
  refine ne hs b ?_
  clear b
  exact rt h hs a e
theorem Us:∀ (l:List Vl) (v:Vl),v∈l→v.bulk≤HM l
 | [],_,h=>by simp at h
 | a::r,v,h=>by
  rcases List.mem_cons.1 h with rfl | h
  ·simp [HM]
  ·have:=Us r v h
   simp [HM];omega
theorem Ue:∀ (l:List ByteArray) (v:ByteArray),v∈l→v.size+1≤MR l
 | [],_,h=>by simp at h
 | a::r,v,h=>by
  rcases List.mem_cons.1 h with rfl | h
  ·simp [MR]
  ·have:=Ue r v h
   simp [MR];omega
theorem U3:∀ l:List ByteArray,l.length≤MR l
 | []=>Nat.le_refl _
 | v::r=>by have:=U3 r;simp [MR];omega
mutual
theorem Vl.size_bulk:∀ v:Vl,v.size≤v.bulk
 | .mk _ _ _ _ l f=>by have:=N4 l;have:=Sv f;simp only [Vl.size,Vl.bulk];omega
theorem N4:∀ l:List Vl,GF l≤HM l
 | []=>Nat.le_refl _
 | v::r=>by have:=v.size_bulk;have:=N4 r;simp only [GF,HM];omega
theorem Sv:∀ l:List (ByteArray × Vl),F9 l≤OA l
 | []=>Nat.le_refl _
 | (_,v)::r=>by have:=v.size_bulk;have:=Sv r;simp only [F9,OA];omega
end
theorem Za (l:List Vl):l.length≤HM l:=Nat.le_trans (Np l) (N4 l)
mutual
theorem Ty.size_bulk:∀ t:Ty,t.size≤t.bulk
 | .mk _ _ _ _ _ l f=>by have:=Si l;have:=Qa f;simp only [Ty.size,Ty.bulk];omega
theorem Si:∀ l:List Ty,GP l≤NU l
 | []=>Nat.le_refl _
 | v::r=>by have:=v.size_bulk;have:=Si r;simp only [GP,NU];omega
theorem Qa:∀ l:List TF,EK l≤LD l
 | []=>Nat.le_refl _
 | (_,_,_,v,_)::r=>by have:=v.size_bulk;have:=Qa r;simp only [EK,LD];omega
end
mutual
theorem Vl.ok_bulk:∀ v:Vl,v.bulk≤1048576→v.ok
 | .mk _ _ _ t l f,h=>by
  simp only [Vl.bulk] at h
  exact ⟨by omega,VQ l (by omega),Ws f (by omega)⟩
theorem VQ:∀ l:List Vl,HM l≤1048576→ZL l
 | [],_=>trivial
 | v::r,h=>by
  simp only [HM] at h
  exact ⟨v.ok_bulk (by omega),VQ r (by omega)⟩
theorem Ws:∀ l:List (ByteArray × Vl),OA l≤1048576→Y6 l
 | [],_=>trivial
 | (_,v)::r,h=>by
  simp only [OA] at h
  exact ⟨by omega,v.ok_bulk (by omega),Ws r (by omega)⟩
end
theorem Vl.small_bulk (v:Vl) (h:v.bulk≤1048575):v.small:=by
 have:=v.size_bulk
 have:=v.depth_size
 exact ⟨by omega,by omega,v.ok_bulk (by omega)⟩
mutual
theorem Ty.ok_bulk:∀ t:Ty,t.bulk≤1048576→t.ok
 | .mk _ _ _ _ w l f,h=>by
  simp only [Ty.bulk] at h
  have:=U3 w
  exact ⟨by omega,fun x a=>by have:=Ue w x a;omega,Vy l (by omega),TJ f (by omega)⟩
theorem Vy:∀ l:List Ty,NU l≤1048576→ZaZ l
 | [],_=>trivial
 | v::r,h=>by
  simp only [NU] at h
  exact ⟨v.ok_bulk (by omega),Vy r (by omega)⟩
theorem TJ:∀ l:List TF,LD l≤1048576→V0 l
 | [],_=>trivial
 | (_,n,_,v,d)::r,h=>by
  simp only [LD] at h
  have:=Za d
  have b:=v.size_bulk
  have:=v.size_pos
  exact ⟨⟨by omega,v.ok_bulk (by omega),by omega,fun x a=>x.small_bulk (by have:=Us d x a;omega)⟩,TJ r (by omega)⟩
end
theorem Ty.small_of {t:Ty} (h:t.bulk≤1048576) (h1:t.size≤200) (h2:t.depth≤12):t.small:=⟨h1,h2,t.ok_bulk h⟩
theorem T8 (rec:Ty→Option Int) (n:Nat) (t:Ty) (hr:∀ p∈t.fields,rec p.2.2.2.1=some (p.2.2.2.1.size:Int)) (hl:t.fields.length≤1000000000):∀ (k m i c:Nat),i+k=t.fields.length→k<m→c+EK (t.fields.drop i)≤1000000000 →
  GN rec n t m (c:Int) i=some ((c+EK (t.fields.drop i):Nat):Int)
 | k,0,i,c,_,h,_=>absurd h (Nat.not_lt_zero _)
 | 0,m+1,i,c,hi,_,_=>by
  rw [GN,As,Ac (show ¬ i<t.fields.length by omega),List.drop_eq_nil_of_le (by omega)]
  rfl
 | k+1,m+1,i,c,hi,hm,hc=>by
  have a:i<t.fields.length:=by omega
  rw [Qk _ _ a] at hc
  rw [GN,As,Ad a]
  rw [Ae rfl,Ax a,Ab,hr _ (List.getElem_mem a),Ab]
  rw [Ae (by unfold BV;omega),Ae (Aw (by omega)),Qk _ _ a,←Nat.add_assoc]
  exact T8 rec n t hr hl k m (i+1) (c+t.fields[i].2.2.2.1.size) (by omega) (by omega) (by omega)
theorem We (rec:Ty→Option Int) (n:Nat) (t:Ty) (hs:t.size≤1000000000) (hn:t.fields.length<n) (hr:∀ x∈t.elem,rec x=some (x.size:Int)) (hr2:∀ p∈t.fields,rec p.2.2.2.1=some (p.2.2.2.1.size:Int)):∀ (k m i c:Nat),i+k=t.elem.length→k<m→c+GP (t.elem.drop i)+EK t.fields≤1000000000 →
  HK rec n t m (c:Int) i=some ((c+GP (t.elem.drop i)+EK t.fields:Nat):Int)
 | k,0,i,c,_,h,_=>absurd h (Nat.not_lt_zero _)
 | 0,m+1,i,c,hi,_,hc=>by
  have:=t.lens
  rw [HK,As,Ac (show ¬ i<t.elem.length by omega),List.drop_eq_nil_of_le (by omega)]
  have:=T8 rec n t hr2 (by omega) t.fields.length n 0 c (by omega) hn (by rw [List.drop_zero];omega)
  rw [List.drop_zero] at this
  exact this
 | k+1,m+1,i,c,hi,hm,hc=>by
  have:=t.lens
  have a:i<t.elem.length:=by omega
  rw [Ss _ _ a] at hc
  rw [HK,As,Ad a]
  rw [Ae rfl,Ax a,Ab,hr _ (List.getElem_mem a),Ab]
  rw [Ae (by unfold BV;omega),Ae (Aw (by omega)),Ss _ _ a,←Nat.add_assoc]
  exact We rec n t hs hn hr hr2 k m (i+1) (c+t.elem[i].size) (by omega) (by omega) (by omega)
theorem Q8:∀ (n:Nat) (t:Ty),t.size<n→t.size≤1000000000→IK n t=some (t.size:Int)
 | 0,t,h,_=>absurd h (Nat.not_lt_zero _)
 | n+1,t,h,hs=>by
  have d:=t.lens
  have c:=t.size_eq
  rw [IK,OL]
  have:=We (IK n) n t hs (by omega) (fun x b=>Q8 n x (by have:=t.elem_size x b;omega) (by have:=t.elem_size x b;omega)) (fun p a=>Q8 n _ (by have:=t.field_size p a;omega) (by have:=t.field_size p a;omega)) t.elem.length n 0 1 (by omega) (by omega) (by rw [List.drop_zero];omega)
  rw [List.drop_zero,←c] at this
  exact this
theorem QI (l:List Ty) (i:Nat) (h:i<l.length):D9 (l.drop i)=Max.max l[i].depth (D9 (l.drop (i+1))):=by rw [List.drop_eq_getElem_cons h,D9]
theorem Pi (l:List TF) (i:Nat) (h:i<l.length):Db (l.drop i)=Max.max l[i].2.2.2.1.depth (Db (l.drop (i+1))):=by
 rw [List.drop_eq_getElem_cons h];rfl
theorem Zap (a b:Nat):(if (a:Int)<(b:Int) then (b:Int) else (a:Int))=((Max.max a b:Nat):Int):=by
 split<;>omega
theorem RZ (rec:Ty→Option Int) (n:Nat) (t:Ty) (hr:∀ p∈t.fields,rec p.2.2.2.1=some (p.2.2.2.1.depth:Int)) (hl:t.fields.length≤1000000000):∀ (k m i c:Nat),i+k=t.fields.length→k<m→Max.max c (Db (t.fields.drop i))≤1000000000 →
  F7 rec n t m (c:Int) i=some ((Max.max c (Db (t.fields.drop i))+1:Nat):Int)
 | k,0,i,c,_,h,_=>absurd h (Nat.not_lt_zero _)
 | 0,m+1,i,c,hi,_,hc=>by
  rw [F7,As,Ac (show ¬ i<t.fields.length by omega),List.drop_eq_nil_of_le (by omega),Af (by decide),JL,Ae (by unfold BV;omega)]
  simp [Db]
 | k+1,m+1,i,c,hi,hm,hc=>by
  have a:i<t.fields.length:=by omega
  rw [Pi _ _ a] at hc
  rw [F7,As,Ad a]
  rw [Ae rfl,Ax a,Ab,hr _ (List.getElem_mem a),Ab]
  rw [Ae (Aw (by omega)),Pi _ _ a,Zap,←Nat.max_assoc]
  exact RZ rec n t hr hl k m (i+1) _ (by omega) (by omega) (by omega)
theorem UJ (rec:Ty→Option Int) (n:Nat) (t:Ty) (hs:t.size≤1000000000) (hn:t.fields.length<n) (hr:∀ x∈t.elem,rec x=some (x.depth:Int)) (hr2:∀ p∈t.fields,rec p.2.2.2.1=some (p.2.2.2.1.depth:Int)):∀ (k m i c:Nat),i+k=t.elem.length→k<m→Max.max (Max.max c (D9 (t.elem.drop i))) (Db t.fields)≤1000000000 →
  GX rec n t m (c:Int) i=some ((Max.max (Max.max c (D9 (t.elem.drop i))) (Db t.fields)+1:Nat):Int)
 | k,0,i,c,_,h,_=>absurd h (Nat.not_lt_zero _)
 | 0,m+1,i,c,hi,_,hc=>by
  have:=t.lens
  rw [GX,As,Ac (show ¬ i<t.elem.length by omega),Af (by decide)]
  rw [List.drop_eq_nil_of_le (by omega)] at hc ⊢
  have h:=RZ rec n t hr2 (by omega) t.fields.length n 0 c (by omega) hn (by rw [List.drop_zero];simp only [D9] at hc;omega)
  rw [List.drop_zero] at h
  rw [Ly]
  refine h.trans ?_
  simp only [D9,Nat.max_zero]
 | k+1,m+1,i,c,hi,hm,hc=>by
  have:=t.lens
  have a:i<t.elem.length:=by omega
  rw [QI _ _ a] at hc
  rw [GX,As,Ad a]
  rw [Ae rfl,Ax a,Ab,hr _ (List.getElem_mem a),Ab]
  rw [Ae (Aw (by omega)),QI _ _ a,Zap,←Nat.max_assoc]
  exact UJ rec n t hs hn hr hr2 k m (i+1) _ (by omega) (by omega) (by omega)
mutual
theorem Ty.depth_size:∀ v:Ty,v.depth≤v.size
 | .mk _ _ _ _ _ l f=>by have:=QD l;have:=Pe f;simp only [Ty.depth,Ty.size];omega
theorem QD:∀ l:List Ty,D9 l≤GP l
 | []=>Nat.le_refl _
 | v::r=>by have:=v.depth_size;have:=QD r;simp only [D9,GP];omega
theorem Pe:∀ l:List TF,Db l≤EK l
 | []=>Nat.le_refl _
 | (_,_,_,v,_)::r=>by have:=v.depth_size;have:=Pe r;simp only [Db,EK];omega
end
theorem P4:∀ (n:Nat) (t:Ty),t.size<n→t.size≤1000000000→HO n t=some (t.depth:Int)
 | 0,t,h,_=>absurd h (Nat.not_lt_zero _)
 | n+1,t,h,hs=>by
  have d:=t.lens
  have c:=t.depth_eq
  have hd:=t.depth_size
  rw [HO,MX]
  have:=UJ (HO n) n t hs (by omega) (fun x b=>P4 n x (by have:=t.elem_size x b;omega) (by have:=t.elem_size x b;omega)) (fun p a=>P4 n _ (by have:=t.field_size p a;omega) (by have:=t.field_size p a;omega)) t.elem.length n 0 0 (by omega) (by omega) (by rw [List.drop_zero];omega)
  rw [List.drop_zero,Nat.zero_max,Nat.add_comm,←c] at this
  exact this
theorem Pz (n:Nat) (t:Ty) (hn:t.size<n) (hs:t.size≤1000000000):HF n t=some (decide (t.depth≤10∧t.size≤60)):=by
 rw [HF,P4 n t hn hs,Ab]
 by_cases h:t.depth≤10
 ·rw [Ad (show (t.depth:Int)≤10 by omega),Ae rfl,Q8 n t hn hs,Ab]
  congr 1
  rw [decide_eq_decide]
  omega
 ·rw [Ac (show ¬ (t.depth:Int)≤10 by omega),Af (by decide)]
  congr 1
  exact (Ac (by omega)).symm
theorem Wm:∀ (l:List (Nat × Vl)) (b:Int),∃ c,HJ l b=some c
 | [],b=>⟨b,rfl⟩
 | p::r,b=>by rw [HJ];exact Wm r _
theorem Zb0 (v:Vl) (h:v.size≤1048576):∃ b,OC v=some b:=by
 obtain ⟨c,a⟩:=Wm (Fa 1 v) 0
 rw [OC,OP,Ae ⟨by have:=v.depth_size;omega,G3 _ v (Nat.le_refl _) (by omega)⟩,a,Ab]
 by_cases q:c≤12
 ·rw [Ad q,Ae rfl,YU v h];exact ⟨_,rfl⟩
 ·rw [Ac q,Af (by decide)];exact ⟨_,rfl⟩
def F3  : Ty :=
 Ty.mk 9 0 0 0 ([]) ([]) ([(2,(⟨#[114,101,109,97,114,107]⟩:ByteArray),2,Ty.mk 4 0 40 0 ([]) ([]) ([]),[]),(1,(⟨#[105,100]⟩:ByteArray),1,Ty.mk 3 0 9999 2 ([]) ([]) ([]),[]),(3,(⟨#[107,105,110,100]⟩:ByteArray),3,Ty.mk 4 0 0 0 ([(⟨#[97]⟩:ByteArray),(⟨#[98]⟩:ByteArray)]) ([]) ([]),[Vl.mk 4 0 0 ((⟨#[97]⟩:ByteArray)) ([]) ([])])])
theorem Vh (w0:World) (B:List (List AV)) (Rw:List RowA) (L:List LoopA)  (r:Ty) (h:F3  = r) :
  ACalls Tryz.prog w0 73 [] ⟨B,Rw,L⟩ fun x st=>x = .agg (r.cs)∧st=⟨B,Rw,L⟩:=by
 rw [F3] at h
 refine hd [.cell 0 26] Tryz.func73 Tryz.ntmps73 fun M0 W0 f d c a e b hs=>?_
 simp only [Au]
 refine rg [0] hs ?_
 refine rg [0,1] hs ?_
 refine rg [0] hs ?_
 exact rT h hs a b
theorem N1 (w0:World) (B:List (List AV)) (Rw:List RowA) (L:List LoopA)  :
  ACalls Tryz.prog w0 73 [] ⟨B,Rw,L⟩ fun x st=>x = .agg ((F3 ).cs)∧st=⟨B,Rw,L⟩:=Vh w0 B Rw L  _ rfl
def F2  : Ty :=
 Ty.mk 9 0 0 0 ([]) ([]) ([(1,(⟨#[105,100]⟩:ByteArray),1,Ty.mk 2 0 99 0 ([]) ([]) ([]),[]),(2,(⟨#[110,111,116,101]⟩:ByteArray),2,Ty.mk 4 0 20 0 ([]) ([]) ([]),[])])
theorem U8 (w0:World) (B:List (List AV)) (Rw:List RowA) (L:List LoopA)  (r:Ty) (h:F2  = r) :
  ACalls Tryz.prog w0 72 [] ⟨B,Rw,L⟩ fun x st=>x = .agg (r.cs)∧st=⟨B,Rw,L⟩:=by
 rw [F2] at h
 refine hd [.cell 0 26] Tryz.func72 Tryz.ntmps72 fun M0 W0 f d c a e b hs=>?_
 simp only [Au]
 refine rg [0] hs ?_
 refine rg [0] hs ?_
 exact rT h hs a b
theorem Ot (w0:World) (B:List (List AV)) (Rw:List RowA) (L:List LoopA)  :
  ACalls Tryz.prog w0 72 [] ⟨B,Rw,L⟩ fun x st=>x = .agg ((F2 ).cs)∧st=⟨B,Rw,L⟩:=U8 w0 B Rw L  _ rfl
def F8 (n:Nat)  : Option Bool :=
 (Em n (F2 ) (F3 ) (Vl.mk 9 0 0 ((⟨#[]⟩:ByteArray)) ([]) ([((⟨#[105,100]⟩:ByteArray),Vl.mk 2 5 0 ((⟨#[]⟩:ByteArray)) ([]) ([])),((⟨#[110,111,116,101]⟩:ByteArray),Vl.mk 4 0 0 ((⟨#[120]⟩:ByteArray)) ([]) ([]))]))).bind fun g =>
 (Eo n (F2 ) (F3 )).bind fun q =>
 if (decide (g.2=0))&&(decide ((g.1.fields.length:Int)=3)) then
  (Cb g.1.fields 0).bind fun x9 =>
  if DK x9.1 ((⟨#[105,100]⟩:ByteArray)) then
   if decide (x9.2.int=500) then
    (Cb g.1.fields 1).bind fun y =>
    if DK y.2.text ((⟨#[97]⟩:ByteArray)) then
     (Cb g.1.fields 2).bind fun s =>
     if ((DK s.1 ((⟨#[114,101,109,97,114,107]⟩:ByteArray)))&&(decide (q.2=0)))&&(decide ((q.1.length:Int)=4)) then
      (Cb q.1 0).bind fun h =>
      if DK h.1 ((⟨#[114,101,109,97,114,107]⟩:ByteArray))&&(decide (h.2=3)) then
       (Cb q.1 3).bind fun b =>
       some (DK b.1 ((⟨#[107,105,110,100]⟩:ByteArray))&&(decide (b.2=1)))
      else
       some (false)
     else
      some (false)
    else
     some (false)
   else
    some (false)
  else
   some (false)
 else
  some (false)
theorem FY (w0:World) (hP:Pow10 w0) (hT:Lib.Utf8Tabs 0 1 w0) (n:Nat) (B:List (List AV)) (Rw:List RowA) (L:List LoopA)  (r:Bool) (h:F8 n  = some r) :
  ACalls Tryz.prog w0 26 [] ⟨B,Rw,L⟩ fun x st=>x = .val (.bool r)∧st=⟨B,Rw,L⟩:=by
 rw [F8] at h
 refine hd [.tmp 0] Tryz.func26 Tryz.ntmps26 fun M0 W0 hN Y aa a hu o hs=>?_
 simp only [Au]
 refine rg [] hs ?_
 refine rg [1] hs ?_
 apply Ah;intro K3 v
 obtain ⟨q,y,h⟩:=bind_some h
 apply JP Iw [7,8] [2,3] kr (fun s=>∃ (X:List (List AV)) (rows:List RowA),s=⟨B++([[.val (.int .i64 9),.val (.int .i64 0),.val (.int .i64 0),.val (.string ((⟨#[]⟩:ByteArray))),.list ([]) .full,.list (([((⟨#[105,100]⟩:ByteArray),Vl.mk 2 5 0 ((⟨#[]⟩:ByteArray)) ([]) ([])),((⟨#[110,111,116,101]⟩:ByteArray),Vl.mk 4 0 0 ((⟨#[120]⟩:ByteArray)) ([]) ([]))]).map B9) .full]]++X),rows,L⟩) 3 (B.length+1)
 ·simp +decide only [go_sem,Nat.reduceAdd]
 ·rintro s ⟨X,rows,rfl⟩
  refine ⟨4,?_⟩
  rw [Am];simp +decide only [go_sem,Nat.reduceAdd,EO]
  (repeat' apply Aa)<;>first | refine Ai _ (Ot w0 _ _ _ ) (hv hs) ?_ | exact cl
  rw [Am];simp +decide only [go_sem,Nat.reduceAdd]
  (repeat' apply Aa)<;>first | refine Ai _ (N1 w0 _ _ _ ) (hv hs) ?_ | exact cl
  rw [Am];simp +decide only [go_sem,Nat.reduceAdd]
  (repeat' apply Aa)<;>first | refine Ai _ (Ls w0 hP hT n _ _ _ (F2 ) (F3 ) (Vl.mk 9 0 0 ((⟨#[]⟩:ByteArray)) ([]) ([((⟨#[105,100]⟩:ByteArray),Vl.mk 2 5 0 ((⟨#[]⟩:ByteArray)) ([]) ([])),((⟨#[110,111,116,101]⟩:ByteArray),Vl.mk 4 0 0 ((⟨#[120]⟩:ByteArray)) ([]) ([]))])) _ y) (hv hs) ?_ | exact cl
  rw [Am];simp +decide only [go_sem,Nat.reduceAdd]
  (repeat' apply Aa)<;>first | rfl | exact cl
 ·refine Good.mk [7] kr ⟨[],_,by first | rfl | simp only [List.append_nil,List.nil_append]⟩ ?_ ?_
  ·intro h;exact absurd h (by decide)
  ·intro i hi;simp only [List.mem_cons,List.not_mem_nil,or_false] at hi
   subst hi
   ·apply D3 rfl rfl ev
    ·simp +decide only [go_sem,Nat.reduceAdd,Gt]
     (repeat' apply Aa)<;>first | rfl | exact cl
    ·simp +decide only [go_sem,Nat.reduceAdd]
     refine Good.mk [8] kr ⟨_,_,by first | rfl | simp only [List.append_nil,List.nil_append]⟩ ?_ ?_
     ·intro h;exact absurd h (by decide)
     ·intro i hi;simp only [List.mem_cons,List.not_mem_nil,or_false] at hi
      subst hi
      ·apply D3 rfl rfl ev
       ·simp +decide only [go_sem,Nat.reduceAdd,Gt]
        (repeat' apply Aa)<;>first | rfl | exact cl
       ·simp +decide only [go_sem,Nat.reduceAdd]
        refine Good.mk [] kr ⟨_,_,by first | rfl | simp only [List.append_nil,List.nil_append]⟩ ?_ ?_
        ·intro _;apply DJ [2,3];first | (simp +decide only [go_sem,Nat.reduceAdd];done) | (simp +decide only [go_sem,Nat.reduceAdd];rfl)
        ·intro i hi;cases hi
 simp +decide only [go_sem,Nat.reduceAdd]
 (repeat' apply Aa)<;>first | refine v _ _ ?_ | exact cl
 clear v
 obtain ⟨w,O,h⟩:=bind_some h
 refine rc 4 [2,3,4,5] hs ?_;intro K5 t
 refine Ai _ (Ot w0 _ _ _ ) (hv hs) ?_
 refine nc hs ?_
 refine Ai _ (N1 w0 _ _ _ ) (hv hs) ?_
 refine nc hs ?_
 refine Ai _ (Lc w0 hT n _ _ _ (F2 ) (F3 ) _ O) (hv hs) ?_
 refine ne hs t ?_
 clear t
 apply Ah;intro K7 b
 rcases Bool.eq_false_or_eq_true ((decide (q.2=0))&&(decide ((q.1.fields.length:Int)=3))) with hf8 | hf8
 ·replace h:=AY h hf8
  obtain ⟨U,Q,V,c,h⟩:=ix B9 h
  have e:(q.1.fields.map B9).getD 0 .junk=_:=c
  rcases Bool.eq_false_or_eq_true (DK U.1 ((⟨#[105,100]⟩:ByteArray))) with hf10 | hf10
  ·replace h:=AY h hf10
   rcases Bool.eq_false_or_eq_true (decide (U.2.int=500)) with hf11 | hf11
   ·replace h:=AY h hf11
    obtain ⟨E,F,N,d,h⟩:=ix B9 h
    have g:(q.1.fields.map B9).getD 1 .junk=_:=d
    rcases Bool.eq_false_or_eq_true (DK E.2.text ((⟨#[97]⟩:ByteArray))) with hf13 | hf13
    ·replace h:=AY h hf13
     obtain ⟨J,C,K,f,h⟩:=ix B9 h
     have k:(q.1.fields.map B9).getD 2 .junk=_:=f
     rcases Bool.eq_false_or_eq_true (((DK J.1 ((⟨#[114,101,109,97,114,107]⟩:ByteArray)))&&(decide (w.2=0)))&&(decide ((w.1.length:Int)=4))) with hf15 | hf15
     ·replace h:=AY h hf15
      obtain ⟨u,H,D,j,h⟩:=ix Jt h
      have l:(w.1.map Jt).getD 0 .junk=_:=j
      rcases Bool.eq_false_or_eq_true (DK u.1 ((⟨#[114,101,109,97,114,107]⟩:ByteArray))&&(decide (u.2=3))) with hf17 | hf17
      ·replace h:=AY h hf17
       obtain ⟨Z,z,G,m,h⟩:=ix Jt h
       have p:(w.1.map Jt).getD 3 .junk=_:=m
       have hs:=Aa hf8 hs
       have hs:=Aa c hs
       have hs:=Aa e hs
       have hs:=Aa hf10 hs
       have hs:=Aa hf11 hs
       have hs:=Aa d hs
       have hs:=Aa g hs
       have hs:=Aa hf13 hs
       have hs:=Aa f hs
       have hs:=Aa k hs
       have hs:=Aa hf15 hs
       have hs:=Aa j hs
       have hs:=Aa l hs
       have hs:=Aa hf17 hs
       have hs:=Aa m hs
       have hs:=Aa p hs
       refine rl [0] (al hs) b ?_
       clear b
       exact rt h hs a o
      ·replace h:=AZ h hf17
       have hs:=Aa hf8 hs
       have hs:=Aa c hs
       have hs:=Aa e hs
       have hs:=Aa hf10 hs
       have hs:=Aa hf11 hs
       have hs:=Aa d hs
       have hs:=Aa g hs
       have hs:=Aa hf13 hs
       have hs:=Aa f hs
       have hs:=Aa k hs
       have hs:=Aa hf15 hs
       have hs:=Aa j hs
       have hs:=Aa l hs
       have hs:=Aa hf17 hs
       refine rl [0] (al hs) b ?_
       clear b
       exact rt h hs a o
     ·replace h:=AZ h hf15
      have hs:=Aa hf8 hs
      have hs:=Aa c hs
      have hs:=Aa e hs
      have hs:=Aa hf10 hs
      have hs:=Aa hf11 hs
      have hs:=Aa d hs
      have hs:=Aa g hs
      have hs:=Aa hf13 hs
      have hs:=Aa f hs
      have hs:=Aa k hs
      have hs:=Aa hf15 hs
      refine rl [0] (al hs) b ?_
      clear b
      exact rt h hs a o
    ·replace h:=AZ h hf13
     have hs:=Aa hf8 hs
     have hs:=Aa c hs
     have hs:=Aa e hs
     have hs:=Aa hf10 hs
     have hs:=Aa hf11 hs
     have hs:=Aa d hs
     have hs:=Aa g hs
     have hs:=Aa hf13 hs
     refine rl [0] (al hs) b ?_
     clear b
     exact rt h hs a o
   ·replace h:=AZ h hf11
    have hs:=Aa hf8 hs
    have hs:=Aa c hs
    have hs:=Aa e hs
    have hs:=Aa hf10 hs
    have hs:=Aa hf11 hs
    refine rl [0] (al hs) b ?_
    clear b
    exact rt h hs a o
  ·replace h:=AZ h hf10
   have hs:=Aa hf8 hs
   have hs:=Aa c hs
   have hs:=Aa e hs
   have hs:=Aa hf10 hs
   refine rl [0] (al hs) b ?_
   clear b
   exact rt h hs a o
 ·replace h:=AZ h hf8
  have hs:=Aa hf8 hs
  refine rl [0] (al hs) b ?_
  clear b
  exact rt h hs a o
theorem ZcR (m:Nat):F8 (m+100)=some true:=by kernel_rfl
theorem Za3 (n:Nat) (h:100≤n):F8 n=some true:=by
 obtain ⟨m,rfl⟩:∃ m,n=m+100:=⟨n-100,by omega⟩
 exact ZcR m
@[go_sem] theorem ZkL (a b:Ty):List.take 14 (a.cs++b.cs)=a.cs++b.cs:=List.take_of_length_le (by simp [Ty.cs_length])
@[go_sem] theorem Zmw (a b:Ty):List.map AV.pubCell (a.cs++b.cs)=a.cs++b.cs:=by rw [List.map_append,Ty.cs_pub,Ty.cs_pub]
theorem TS (n:Nat) (v:Vl) (h:v.size≤4096) (hn:10000≤n):FD n v v=some true:=by
 obtain ⟨c,e,a⟩:=Zbf n v v (by omega) (by omega)
 rw [e,a.2 rfl]
def Ed (n:Nat) (g:Ty) (b:Ty):Option Bool :=
 (Cd n g b).bind fun h =>
 if decide (h=0) then
  (AH n g b).bind fun q =>
  some (q)
 else
  some (false)
theorem Jq (w0:World) (hT:Lib.Utf8Tabs 0 1 w0) (n:Nat) (B:List (List AV)) (Rw:List RowA) (L:List LoopA) (a0:Ty) (a1:Ty) (r:Bool) (h:Ed n a0 a1=some r) :
  ACalls Tryz.prog w0 36 [.agg (a0.cs),.agg (a1.cs)] ⟨B,Rw,L⟩ fun x st=>x = .val (.bool r)∧st=⟨B,Rw,L⟩:=by
 rw [Ed] at h
 refine hd [.tmp 4] Tryz.func36 Tryz.ntmps36 fun M0 W0 l g f a j e hs=>?_
 simp only [Au]
 refine rg [2,3] hs ?_
 apply Ah;intro K2 b
 obtain ⟨i,c,h⟩:=bind_some h
 rcases Bool.eq_false_or_eq_true (decide (i=0)) with hf4 | hf4
 ·replace h:=AY h hf4
  obtain ⟨k,d,h⟩:=bind_some h
  have hs:=Aa hf4 hs
  refine rk 3 [4] hs ?_
  refine Ai _ (EU w0 hT n _ _ _ a0 a1 _ c) (hv hs) ?_
  refine nc hs ?_
  refine Ai _ (EY w0 n _ _ _ a0 a1 _ d) (hv hs) ?_
  refine ne hs b ?_
  clear b
  exact rt h hs a e
 ·replace h:=AZ h hf4
  have hs:=Aa hf4 hs
  refine rk 3 [4] hs ?_
  refine Ai _ (EU w0 hT n _ _ _ a0 a1 _ c) (hv hs) ?_
  refine nc hs ?_
  refine Az ?_
  refine ne hs b ?_
  clear b
  exact rt h hs a e
def Ov (n:Nat) (b:Ty × Ty):Option Bool :=
 (HF n b.1).bind fun h =>
 if h then
  (HF n b.2).bind fun q =>
  if q then
   (DR n b.1).bind fun g =>
   if decide (g=0) then
    (DR n b.2).bind fun s =>
    some (decide (s=0))
   else
    some (false)
  else
   some (false)
 else
  some (false)
theorem ZfO (n:Nat) (hn:10000000000≤n) (t:Ty × Ty) (h1:t.1.bulk≤1048576) (h2:t.2.bulk≤1048576) (s1:t.1.depth≤10∧t.1.size≤60) (s2:t.2.depth≤10∧t.2.size≤60) :
  ∃ c1 c2,DR n t.1=some c1∧DR n t.2=some c2∧(c1=0→t.1.Fine 8)∧(c2=0→t.2.Fine 8)∧Ov n t=some (decide (c1=0)&&decide (c2=0))∧Cd n t.1 t.2=some (if c1=0 then c2 else c1):=by
 have e:=t.1.size_bulk
 have f:=t.2.size_bulk
 obtain ⟨c1,b,d⟩:=RP n t.1 (by omega) (Ty.small_of h1 (by omega) (by omega))
 obtain ⟨c2,a,c⟩:=RP n t.2 (by omega) (Ty.small_of h2 (by omega) (by omega))
 refine ⟨c1,c2,b,a,d,c,?_,?_⟩
 ·rw [Ov,Pz n t.1 (by omega) (by omega),Ab,Ad s1,Ae rfl,Pz n t.2 (by omega) (by omega),Ab,Ad s2,Ae rfl,b,Ab]
  by_cases z:c1=0
  ·rw [Ad z,Ae rfl,a,Ab,Bool.true_and]
  ·rw [Ac z,Af (by decide),Bool.false_and]
 ·rw [Cd,b,Ab]
  by_cases z:c1=0
  ·rw [Ad z,Af (by decide),a,Ab,Ae z]
  ·rw [Ac z,Ae (by rfl),Af z]
def E0 (n:Nat) (g:Ty) (b:Ty):Option Bool :=
 (Cd n g b).bind fun h =>
 if decide (h=0) then
  (Cf n g b).bind fun q =>
  some (q)
 else
  some (false)
theorem PV (w0:World) (hT:Lib.Utf8Tabs 0 1 w0) (n:Nat) (B:List (List AV)) (Rw:List RowA) (L:List LoopA) (a0:Ty) (a1:Ty) (r:Bool) (h:E0 n a0 a1=some r) :
  ACalls Tryz.prog w0 40 [.agg (a0.cs),.agg (a1.cs)] ⟨B,Rw,L⟩ fun x st=>x = .val (.bool r)∧st=⟨B,Rw,L⟩:=by
 rw [E0] at h
 refine hd [.tmp 4] Tryz.func40 Tryz.ntmps40 fun M0 W0 l g f a j e hs=>?_
 simp only [Au]
 refine rg [2,3] hs ?_
 apply Ah;intro K2 b
 obtain ⟨i,c,h⟩:=bind_some h
 rcases Bool.eq_false_or_eq_true (decide (i=0)) with hf4 | hf4
 ·replace h:=AY h hf4
  obtain ⟨k,d,h⟩:=bind_some h
  have hs:=Aa hf4 hs
  refine rk 3 [4] hs ?_
  refine Ai _ (EU w0 hT n _ _ _ a0 a1 _ c) (hv hs) ?_
  refine nc hs ?_
  refine Ai _ (NB w0 n _ _ _ a0 a1 _ d) (hv hs) ?_
  refine ne hs b ?_
  clear b
  exact rt h hs a e
 ·replace h:=AZ h hf4
  have hs:=Aa hf4 hs
  refine rk 3 [4] hs ?_
  refine Ai _ (EU w0 hT n _ _ _ a0 a1 _ c) (hv hs) ?_
  refine nc hs ?_
  refine Az ?_
  refine ne hs b ?_
  clear b
  exact rt h hs a e
def HA (n:Nat) (h:Ty) (y:Vl):Option Bool :=
 (F8 n ).bind fun y4 =>
 if !y4 then
  (F8 n ).bind fun y8 =>
  some (y8)
 else
  (HF n h).bind fun y9 =>
  if !y9 then
   (F8 n ).bind fun y13 =>
   some (y13)
  else
   (OC y).bind fun y14 =>
   if !y14 then
    (F8 n ).bind fun y18 =>
    some (y18)
   else
    (DR n h).bind fun y19 =>
    if !(decide (y19=0)) then
     (F8 n ).bind fun s =>
     some (s)
    else
     (Eo n h h).bind fun q =>
     if (!(decide (q.2=0)))||(!(decide ((q.1.length:Int)=0))) then
      some (false)
     else
      (Ed n h h).bind fun y30 =>
      if !y30 then
       some (false)
      else
       (E0 n h h).bind fun y34 =>
       if !y34 then
        some (false)
       else
        (Ft n h y).bind fun b =>
        (Em n h h y).bind fun g =>
        if decide (b.2=0) then
         (EX n b.1).bind fun y44 =>
         if !(decide (y44=0)) then
          if decide (g.2=9) then
           (FD n g.1 (Vl.mk 0 0 0 ((⟨#[]⟩:ByteArray)) ([]) ([]))).bind fun y48 =>
           some (y48)
          else
           some (false)
         else
          if decide (g.2=b.2) then
           (FD n g.1 b.1).bind fun y51 =>
           some (y51)
          else
           some (false)
        else
         if decide (g.2=b.2) then
          (FD n g.1 b.1).bind fun y55 =>
          some (y55)
         else
          some (false)
theorem Rn (w0:World) (hP:Pow10 w0) (hT:Lib.Utf8Tabs 0 1 w0) (n:Nat) (B:List (List AV)) (Rw:List RowA) (L:List LoopA) (a0:Ty) (a1:Vl) (r:Bool) (h:HA n a0 a1=some r) :
  ACalls Tryz.prog w0 9 [.agg (a0.cs),.agg (a1.cs)] ⟨B,Rw,L⟩ fun x st=>x = .val (.bool r)∧st=⟨B,Rw,L⟩:=by
 rw [HA] at h
 refine hd [.tmp 4] Tryz.func9 Tryz.ntmps9 fun M0 W0 hN ah ak a hu k hs=>?_
 simp only [Au]
 refine rg [2,3] hs ?_
 apply Ah;intro K2 Q
 apply Ah;intro K3 c
 obtain ⟨y4,m,h⟩:=bind_some h
 rcases Bool.eq_false_or_eq_true (!y4) with hf5 | hf5
 ·replace h:=AY h hf5
  have hs:=Aa hf5 hs
  refine rk 5 [2,3,27] hs ?_
  refine Ai _ (FY w0 hP hT n _ _ _  _ m) (hv hs) ?_
  refine nc hs ?_
  refine Az ?_
  refine nc hs ?_
  refine Az ?_
  refine nc hs ?_
  refine Az ?_
  refine ne hs c ?_
  clear c
  refine A2 true ev (ef hs) (fun hb6=>?_) (fun hb6=>by cases hb6)
  obtain ⟨y8,ad,h⟩:=bind_some h
  refine rc 2 [4] hs ?_;intro K7 C
  refine Ai _ (FY w0 hP hT n _ _ _  _ ad) (hv hs) ?_
  refine ne hs C ?_
  clear C
  exact rt h hs a k
 ·replace h:=AZ h hf5
  obtain ⟨y9,z,h⟩:=bind_some h
  rcases Bool.eq_false_or_eq_true (!y9) with hf10 | hf10
  ·replace h:=AY h hf10
   have hs:=Aa hf5 hs
   have hs:=Aa hf10 hs
   refine rk 5 [2,3,27] hs ?_
   refine Ai _ (FY w0 hP hT n _ _ _  _ m) (hv hs) ?_
   refine nc hs ?_
   refine Ai _ (Oh w0 n _ _ _ a0 _ z) (hv hs) ?_
   refine nc hs ?_
   refine Az ?_
   refine nc hs ?_
   refine Az ?_
   refine ne hs c ?_
   clear c
   refine A2 true ev (ef hs) (fun hb11=>?_) (fun hb11=>by cases hb11)
   obtain ⟨af,Y,h⟩:=bind_some h
   refine rc 2 [4] hs ?_;intro K12 s
   refine Ai _ (FY w0 hP hT n _ _ _  _ Y) (hv hs) ?_
   refine ne hs s ?_
   clear s
   exact rt h hs a k
  ·replace h:=AZ h hf10
   obtain ⟨ab,q,h⟩:=bind_some h
   rcases Bool.eq_false_or_eq_true (!ab) with hf15 | hf15
   ·replace h:=AY h hf15
    have hs:=Aa hf5 hs
    have hs:=Aa hf10 hs
    have hs:=Aa hf15 hs
    refine rk 5 [2,3,27] hs ?_
    refine Ai _ (FY w0 hP hT n _ _ _  _ m) (hv hs) ?_
    refine nc hs ?_
    refine Ai _ (Oh w0 n _ _ _ a0 _ z) (hv hs) ?_
    refine nc hs ?_
    refine Ai _ (VI w0 _ _ _ a1 _ q) (hv hs) ?_
    refine nc hs ?_
    refine Az ?_
    refine ne hs c ?_
    clear c
    refine A2 true ev (ef hs) (fun hb16=>?_) (fun hb16=>by cases hb16)
    obtain ⟨am,U,h⟩:=bind_some h
    refine rc 2 [4] hs ?_;intro K17 u
    refine Ai _ (FY w0 hP hT n _ _ _  _ U) (hv hs) ?_
    refine ne hs u ?_
    clear u
    exact rt h hs a k
   ·replace h:=AZ h hf15
    obtain ⟨ag,H,h⟩:=bind_some h
    have hs:=Aa hf5 hs
    have hs:=Aa hf10 hs
    have hs:=Aa hf15 hs
    refine rk 5 [2,3,27] hs ?_
    refine Ai _ (FY w0 hP hT n _ _ _  _ m) (hv hs) ?_
    refine nc hs ?_
    refine Ai _ (Oh w0 n _ _ _ a0 _ z) (hv hs) ?_
    refine nc hs ?_
    refine Ai _ (VI w0 _ _ _ a1 _ q) (hv hs) ?_
    refine nc hs ?_
    refine Ai _ (Px w0 hT n _ _ _ a0 _ H) (hv hs) ?_
    refine ne hs c ?_
    clear c
    refine AL h hs (fun hs h=>?_) (fun hs h=>?_)
    ·obtain ⟨ae,V,h⟩:=bind_some h
     refine rc 2 [4] hs ?_;intro K21 o
     refine Ai _ (FY w0 hP hT n _ _ _  _ V) (hv hs) ?_
     refine ne hs o ?_
     clear o
     exact rt h hs a k
    refine sk [2,3] hs Q ?_
    clear Q
    obtain ⟨J,D,h⟩:=bind_some h
    refine rc 2 [2,3,5,6] hs ?_;intro K23 w
    refine Ai _ (Lc w0 hT n _ _ _ a0 a0 _ D) (hv hs) ?_
    refine ne hs w ?_
    clear w
    apply Ah;intro K25 y
    apply Ah;intro K26 b
    rcases Bool.eq_false_or_eq_true ((!(decide (J.2=0)))||(!(decide ((J.1.length:Int)=0)))) with hf27 | hf27
    ·replace h:=AY h hf27
     have hs:=Aa hf27 hs
     refine rk 3 [2,3,53] hs ?_
     refine Az ?_
     refine nc hs ?_
     refine Az ?_
     refine ne hs b ?_
     clear b
     refine A2 true ev (ef hs) (fun hb28=>?_) (fun hb28=>by cases hb28)
     refine rg [4] hs ?_
     exact rt h hs a k
    ·replace h:=AZ h hf27
     obtain ⟨aa,p,h⟩:=bind_some h
     rcases Bool.eq_false_or_eq_true (!aa) with hf31 | hf31
     ·replace h:=AY h hf31
      have hs:=Aa hf27 hs
      have hs:=Aa hf31 hs
      refine rk 3 [2,3,53] hs ?_
      refine Ai _ (Jq w0 hT n _ _ _ a0 a0 _ p) (hv hs) ?_
      refine nc hs ?_
      refine Az ?_
      refine ne hs b ?_
      clear b
      refine A2 true ev (ef hs) (fun hb32=>?_) (fun hb32=>by cases hb32)
      refine rg [4] hs ?_
      exact rt h hs a k
     ·replace h:=AZ h hf31
      obtain ⟨aj,O,h⟩:=bind_some h
      have hs:=Aa hf27 hs
      have hs:=Aa hf31 hs
      refine rk 3 [2,3,53] hs ?_
      refine Ai _ (Jq w0 hT n _ _ _ a0 a0 _ p) (hv hs) ?_
      refine nc hs ?_
      refine Ai _ (PV w0 hT n _ _ _ a0 a0 _ O) (hv hs) ?_
      refine ne hs b ?_
      clear b
      refine AL h hs (fun hs h=>?_) (fun hs h=>?_)
      ·refine rg [4] hs ?_
       exact rt h hs a k
      refine sk [2,3] hs y ?_
      clear y
      obtain ⟨j,F,h⟩:=bind_some h
      refine rc 2 [2,3,7,8] hs ?_;intro K37 v
      refine Ai _ (NE w0 hP hT n _ _ _ a0 a1 _ F) (hv hs) ?_
      refine ne hs v ?_
      clear v
      obtain ⟨l,E,h⟩:=bind_some h
      refine rc 2 [7,8,9,10] hs ?_;intro K39 t
      refine Ai _ (Ls w0 hP hT n _ _ _ a0 a0 a1 _ E) (hv hs) ?_
      refine ne hs t ?_
      clear t
      apply Ah;intro K41 g
      apply Ah;intro K42 e
      rcases Bool.eq_false_or_eq_true (decide (j.2=0)) with hf43 | hf43
      ·replace h:=AY h hf43
       obtain ⟨ao,G,h⟩:=bind_some h
       have hs:=Aa hf43 hs
       refine rk 2 [7,8,9,10,73] hs ?_
       refine Ai _ (Kt w0 hT n _ _ _ j.1 _ G) (hv hs) ?_
       refine ne hs e ?_
       clear e
       refine AL h hs (fun hs h=>?_) (fun hs h=>?_)
       ·apply Ah;intro K46 d
        rcases Bool.eq_false_or_eq_true (decide (l.2=9)) with hf47 | hf47
        ·replace h:=AY h hf47
         obtain ⟨ai,N,h⟩:=bind_some h
         have hs:=Aa hf47 hs
         refine rk 2 [4] hs ?_
         refine Ai _ (MQ w0 n _ _ _ l.1 (Vl.mk 0 0 0 ((⟨#[]⟩:ByteArray)) ([]) ([])) _ N) (hv hs) ?_
         refine ne hs d ?_
         clear d
         exact rt h hs a k
        ·replace h:=AZ h hf47
         have hs:=Aa hf47 hs
         refine rk 2 [4] hs ?_
         refine Az ?_
         refine ne hs d ?_
         clear d
         exact rt h hs a k
       refine sk [7,8,9,10] hs g ?_
       clear g
       apply Ah;intro K49 i
       rcases Bool.eq_false_or_eq_true (decide (l.2=j.2)) with hf50 | hf50
       ·replace h:=AY h hf50
        obtain ⟨ap,K,h⟩:=bind_some h
        have hs:=Aa hf50 hs
        refine rk 2 [4] hs ?_
        refine Ai _ (MQ w0 n _ _ _ l.1 j.1 _ K) (hv hs) ?_
        refine ne hs i ?_
        clear i
        exact rt h hs a k
       ·replace h:=AZ h hf50
        have hs:=Aa hf50 hs
        refine rk 2 [4] hs ?_
        refine Az ?_
        refine ne hs i ?_
        clear i
        exact rt h hs a k
      ·replace h:=AZ h hf43
       have hs:=Aa hf43 hs
       refine rk 2 [7,8,9,10,73] hs ?_
       refine Az ?_
       refine ne hs e ?_
       clear e
       refine A2 false ev (ef hs) (fun hb52=>by cases hb52) (fun hb52=>?_)
       refine sk [7,8,9,10] hs g ?_
       clear g
       apply Ah;intro K53 f
       rcases Bool.eq_false_or_eq_true (decide (l.2=j.2)) with hf54 | hf54
       ·replace h:=AY h hf54
        obtain ⟨aq,Z,h⟩:=bind_some h
        have hs:=Aa hf54 hs
        refine rk 2 [4] hs ?_
        refine Ai _ (MQ w0 n _ _ _ l.1 j.1 _ Z) (hv hs) ?_
        refine ne hs f ?_
        clear f
        exact rt h hs a k
       ·replace h:=AZ h hf54
        have hs:=Aa hf54 hs
        refine rk 2 [4] hs ?_
        refine Az ?_
        refine ne hs f ?_
        clear f
        exact rt h hs a k
theorem Y4 (n:Nat) (hn:10000000000≤n) (t:Ty) (v:Vl) (h1:t.bulk≤1048576) (hv:v.bulk≤1048576):HA n t v=some true:=by
 have C:=Za3 n (by omega)
 have H:=t.size_bulk
 have G:=v.size_bulk
 have e:=v.ok_bulk hv
 rw [HA,C,Ab,Af (by decide),Pz n t (by omega) (by omega),Ab]
 by_cases s1:t.depth≤10∧t.size≤60
 rotate_left
 ·rw [Ac s1,Ae (by rfl),Ab]
 obtain ⟨few,h⟩:=Zb0 v (by omega)
 rw [Ad s1,Af (by decide),h,Ab]
 cases few with
 | false=>rw [Ae (by rfl),Ab]
 | true =>
  rw [Af (by decide)]
  have a:t.small:=Ty.small_of h1 (by omega) (by omega)
  obtain ⟨i,j,f,m,x,E,J,b⟩:=ZfO n hn (t,t) h1 h1 s1 s1
  have f:DR n t=some i:=f
  have m:DR n t=some j:=m
  have b:Cd n t t=some (if i=0 then j else i):=b
  obtain rfl:i=j:=Option.some.inj (f.symm.trans m)
  rw [f,Ab]
  by_cases z:i=0
  rotate_left
  ·rw [Ac z,Ae (by rfl),Ab]
  subst z
  have g:t.Fine 8:=x rfl
  obtain ⟨r,_⟩:=TT 12 n t t a a g.good g.good a.2.1 (by omega)
  obtain ⟨q,_⟩:=WY 12 n t t a a g.good g.good a.2.1 (by omega)
  rw [Ob 12 t g.good a.2.1] at r
  rw [RF 12 t g.good a.2.1] at q
  have s:=UW 12 n t ⟨#[]⟩ [] a g.good a.2.1 (by omega) (by decide)
  have w:=SA n t v a e (by omega) (by omega)
  have D:=ZI n t t v hn a a e (by omega) f f g g
  rw [Ae rfl] at b
  have l:Eo n t t=some ([],0):=by rw [Eo,b,Ab,Af (by decide),s,Ab]
  have p:Ed n t t=some true:=by rw [Ed,b,Ab,Ae (by decide),r,Ab]
  have k:E0 n t t=some true:=by rw [E0,b,Ab,Ae (by decide),q,Ab]
  have d:FD n nilV nilV=some true:=TS n nilV (by decide) (by omega)
  rw [Af (by decide),l,Ab,Af (by decide),p,Ab,Af (by decide),k,Ab,Af (by decide),w,Ab,D,Ab,UpR]
  by_cases hf:IY 12 t (CQ 12 t v)=true
  rotate_left
  ·rw [Af hf,Af hf,Af (by decide),Ae (by decide),d,Ab]
  obtain ⟨u,F⟩:=N7 12 t v a e (by omega)
  have K:=v.depth_size
  rw [Ae hf,Ae hf,SK 12 t _ g.good hf,Ae (by rfl),US n _ (by omega) (by omega) u,Ab]
  by_cases c:NZ (CQ 12 t v)=0
  ·have xs:=ZdA c
   simp only [c,if_true,decide_true,Bool.not_true,Bool.false_eq_true,if_false]
   rw [TS n _ xs (by omega),Ab]
  ·simp only [c,if_false,decide_false,Bool.not_false,if_true]
   rw [Ae (by rfl)]
   exact (congrArg (fun o=>Option.bind o fun y=>some y) d).trans rfl
end Go.Proofs.YtgpmlelfkjfbiaaGreatDoor
