/-
  Part 6 of the proof: rules and walks that the claim's last text uses.
-/
import Derived.Lib.ItoaLen
import Derived.Test.YtmcnjijeocmkgaaGreatDoorSy5
set_option linter.unusedSimpArgs false
set_option linter.unusedVariables false
set_option maxRecDepth 100000
set_option maxHeartbeats 4000000
namespace Go.Proofs.YtmcnjijeocmkgaaGreatDoor
open Go Go.RowKit Go.Ev
def Cd (rec:Bool→Bool→Ty→Vl→ByteArray→Option (Bool × Bool)) (n:Nat) (g:Int→Bool→Bool→Option (Bool × Bool)) (b:Int) (pla0_k11_1:Bool) (plx0_ok_k11:Bool):Option (Bool × Bool) :=
 if BM (b+1) then
  g (b+1) pla0_k11_1 plx0_ok_k11
 else none
def Dy (rec:Bool→Bool→Ty→Vl→ByteArray→Option (Bool × Bool)) (n:Nat) (g:Int→Bool→Bool→Option (Bool × Bool)) (b:Int) (pla0_k32_1:Bool) (plx0_ok_k32:Bool):Option (Bool × Bool) :=
 if BM (b+1) then
  g (b+1) pla0_k32_1 plx0_ok_k32
 else none
def BO (rec:Bool→Bool→Ty→Vl→ByteArray→Option (Bool × Bool)) (n:Nat) (y:Ty) (q:Vl) (a3:ByteArray):Nat→Int→Bool→Bool→Option (Bool × Bool)
 | 0,_,_,_=>none
 | m+1,b,pla0_l27_1,plx0_ok_l27 =>
  if decide (b<(q.fields.length:Int)) then
   (B1 q.fields b).bind fun h =>
   (DK n y h.1).bind fun y37 =>
   if !y37.2 then
    (Ib a3 h.1).bind fun y40 =>
    (BI pla0_l27_1 plx0_ok_l27 y40 6).bind fun g =>
    Dy rec n (BO rec n y q a3 m) b g.1 g.2
   else
    Dy rec n (BO rec n y q a3 m) b pla0_l27_1 plx0_ok_l27
  else
   some ((pla0_l27_1,plx0_ok_l27))
def Gi (rec:Bool→Bool→Ty→Vl→ByteArray→Option (Bool × Bool)) (n:Nat) (b:Ty) (g:Vl) (h:ByteArray) (pla0_k3_1:Bool) (plx0_ok_k3:Bool):Option (Bool × Bool) :=
 BO rec n b g h n 0 pla0_k3_1 plx0_ok_k3
def BG (rec:Bool→Bool→Ty→Vl→ByteArray→Option (Bool × Bool)) (n:Nat) (h:Ty) (y:Vl) (q:ByteArray):Nat→Int→Bool→Bool→Option (Bool × Bool)
 | 0,_,_,_=>none
 | m+1,b,pla0_l6_1,plx0_ok_l6 =>
  if decide (b<(h.fields.length:Int)) then
   (B1 h.fields b).bind fun g =>
   (I0 n y g.2.1).bind fun y16 =>
   if y16.2 then
    (Ib q g.2.1).bind fun y19 =>
    (rec pla0_l6_1 plx0_ok_l6 g.2.2.2.1 y16.1 y19).bind fun y20 =>
    Cd rec n (BG rec n h y q m) b y20.1 y20.2
   else
    if !(decide (g.2.2.1=2)) then
     (Ib q g.2.1).bind fun y23 =>
     (BI pla0_l6_1 plx0_ok_l6 y23 5).bind fun y24 =>
     Cd rec n (BG rec n h y q m) b y24.1 y24.2
    else
     Cd rec n (BG rec n h y q m) b pla0_l6_1 plx0_ok_l6
  else
   Gi rec n h y q pla0_l6_1 plx0_ok_l6
def I7 (rec:Bool→Bool→Ty→Vl→ByteArray→Option (Bool × Bool)) (n:Nat) (a0_done:Bool) (x0_ok:Bool) (b:Ty) (g:Vl) (h:ByteArray):Option (Bool × Bool) :=
 BG rec n b g h n 0 a0_done x0_ok
theorem Qj (w0:World) (rec:Bool→Bool→Ty→Vl→ByteArray→Option (Bool × Bool)) (ih:∀ (B:Am) (Rw:Aq) (L:Ar) (lx0_ok:Nat) (la0:Nat) (a0_done:Bool) (hla0:B[la0]? = some ([.clo 53 [.box lx0_ok 0],.val (.bool a0_done)])) (x0_ok:Bool) (hlx0_ok:B[lx0_ok]? = some ([.val (.bool x0_ok)])) (hne_lx0_ok_la0:lx0_ok≠la0) (a1:Ty) (a2:Vl) (a3:ByteArray) (r:Bool × Bool) (h:rec a0_done x0_ok a1 a2 a3=some r),ACalls Tryz.prog w0 54 [.box la0 0,.agg (a1.cs),.agg (a2.cs),.val (.string a3)] ⟨B,Rw,L⟩ fun x st=>x = .tup []∧st=⟨((B.set la0 ([.clo 53 [.box lx0_ok 0],.val (.bool r.1)])).set lx0_ok [.val (.bool r.2)]),Rw,L⟩) (n:Nat) (B:Am) (Rw:Aq) (L:Ar) (lx0_ok:Nat) (la0:Nat) (a0_done:Bool) (hla0:B[la0]? = some ([.clo 53 [.box lx0_ok 0],.val (.bool a0_done)])) (x0_ok:Bool) (hlx0_ok:B[lx0_ok]? = some ([.val (.bool x0_ok)])) (hne_lx0_ok_la0:lx0_ok≠la0) (a1:Ty) (a2:Vl) (a3:ByteArray) (r:Bool × Bool) (h:I7 rec n a0_done x0_ok a1 a2 a3=some r) :
  ACalls Tryz.prog w0 135 [.box la0 0,.agg (a1.cs),.agg (a2.cs),.val (.string a3)] ⟨B,Rw,L⟩ fun x st=>x = .tup []∧st=⟨((B.set la0 ([.clo 53 [.box lx0_ok 0],.val (.bool r.1)])).set lx0_ok [.val (.bool r.2)]),Rw,L⟩:=by
 rw [I7] at h
 refine hd [] Tryz.func135 Tryz.ntmps135 fun M0 W0 J D C d hu E hs=>?_
 simp only [AG]
 have aw:=(Aj.1 hla0).1
 have aa:=(Aj.1 hlx0_ok).1
 have F:=Ad (Aw hla0) (Ad (Aw hlx0_ok) (Ad (DL hla0 hne_lx0_ok_la0) (Ad (DL hlx0_ok (Ne.symm hne_lx0_ok_la0)) (Ad (TW hne_lx0_ok_la0) (Ad (NC hla0 lx0_ok) (Ad (NC hlx0_ok la0) (Ad (NJ hla0 la0 lx0_ok) (Ad (NJ hlx0_ok la0 lx0_ok) (Ad (Ls lx0_ok) (Ad (Ls la0) (Ad (ZG hla0 hne_lx0_ok_la0) (V8 hlx0_ok (Ne.symm hne_lx0_ok_la0)))))))))))))
 have hs:=Ad F hs
 refine rg [0,3,5,6] hs ?_
 refine AA (fun e st=>∃ (o:Bool) (k:Bool) (Xk3:Am) (Rk3:Aq),e=[(0,true,.box la0 0),(3,true,.val (.string a3)),(5,true,.box B.length 0),(6,true,.box (B.length+1) 0)]∧st=⟨((B.set la0 ([.clo 53 [.box lx0_ok 0],.val (.bool o)])).set lx0_ok ([.val (.bool k)]))++([a1.cs,a2.cs]++Xk3),Rk3,L⟩∧Owns Rw Rk3 []∧Gi rec n a1 a2 a3 o k=some r) ?_ ?_
 ·intro K4 a7
  refine rg [0,3,5,6,17,18,19] hs ?_
  apply Ao
  refine AL (fun m e st=>∃ (y:Int) (c:Bool) (b:Bool) (Xl6:Am) (Rl6:Aq),e=[(0,true,.box la0 0),(3,true,.val (.string a3)),(5,true,.box B.length 0),(6,true,.box (B.length+1) 0),(17,true,.list (a1.fields.map ET) .none),(18,true,Ak (a1.fields.length:Int)),(19,true,Ak y)]∧st=⟨((B.set la0 ([.clo 53 [.box lx0_ok 0],.val (.bool c)])).set lx0_ok ([.val (.bool b)]))++([a1.cs,a2.cs]++Xl6),Rl6,L⟩∧Owns Rw Rl6 []∧BG rec n a1 a2 a3 m y c b=some r) n ⟨0,a0_done,x0_ok,([]),Rw,ef hs,ef hs,E,h⟩ ?_
  rintro ml6 e st ⟨y,c,b,Xl6,Rl6,rfl,rfl,E,h⟩ Ul6 Vl6
  cases ml6 with
  | zero=>cases h
  | succ ml6 =>
  rw [BG] at h
  refine AY J D C Lj (Az (Az d ow) ow) E ow ow ?_
  refine rg [0,3,5,6,17,18,19,20] hs ?_
  apply An;intro K8 aq
  refine BN h hs ?_ ?_<;>intro hs h
  rotate_left
  ·have G:=hs.1
   refine sx [0,3,5,6] hs a7 ?_
   exact ⟨c,b,([]),Rl6,ef hs,ef hs,E,h⟩
  have G:=hs.1
  refine sk [0,3,5,6,17,18,19] hs aq ?_
  clear aq
  refine AA (fun e st=>∃ (q:Bool) (p:Bool) (Xk11:Am) (Rk11:Aq),e=[(0,true,.box la0 0),(3,true,.val (.string a3)),(5,true,.box B.length 0),(6,true,.box (B.length+1) 0),(17,true,.list (a1.fields.map ET) .none),(18,true,Ak (a1.fields.length:Int)),(19,true,Ak y)]∧st=⟨((B.set la0 ([.clo 53 [.box lx0_ok 0],.val (.bool q)])).set lx0_ok ([.val (.bool p)]))++([a1.cs,a2.cs]++Xk11),Rk11,L⟩∧Owns Rw Rk11 []∧Cd rec n (BG rec n a1 a2 a3 ml6) y q p=some r) ?_ ?_
  ·intro K12 N
   apply Ao
   obtain ⟨w,ag,h⟩:=bind_some h
   obtain ⟨ax,ay,ae⟩:=B9 ag
   have v:=C5 (f:=ET) ae
   have hs:=Ad v hs
   refine rg [0,3,5,6,9,17,18,19] hs ?_
   obtain ⟨ad,af,h⟩:=bind_some h
   refine rc 2 [0,3,5,6,9,10,11,17,18,19] hs ?_;intro K15 U
   refine As _ (SH w0 n _ _ _ a2 w.2.1 _ af) (hv hs) ?_
   refine ne hs U ?_
   clear U
   refine rg [0,3,5,6,9,10,17,18,19,30] hs ?_
   refine BN h hs ?_ ?_<;>intro hs h
   ·have z:=hs.1
    obtain ⟨a4,aj,h⟩:=bind_some h
    obtain ⟨ap,ah,h⟩:=bind_some h
    apply G5 Oo [8] [0,3,5,6,17,18,19] kr (fun s=>∃ (X:Am) (rows:Aq) (Q:List AV) (H:List AV),s=⟨((B.set la0 Q).set lx0_ok H)++([a1.cs,a2.cs,Ak w.1::(.val (.string w.2.1)::(Ak w.2.2.1::((w.2.2.2.1.cs)++([.list (w.2.2.2.2.map Bv) .none])))),ad.1.cs]++X),rows,L⟩) 2 (B.length+4)
    ·simp +decide only [go_sem,Nat.reduceAdd]
    ·rintro s ⟨X,rows,Q,H,rfl⟩
     refine ⟨2,?_⟩
     rw [Ap];simp +decide only [go_sem,Nat.reduceAdd,EI,F,G,v,z]
     (repeat' apply Ad)<;>first | refine As _ (O6 w0 _ _ _ a3 w.2.1 _ aj) (hv hs) ?_ | exact cl
     rw [Ap];simp +decide only [go_sem,Nat.reduceAdd,F,G,v,z]
     (repeat' apply Ad)<;>first | rfl | exact cl
    ·refine Good.mk [8] kr ⟨[],_,_,_,by first | rfl | simp only [List.append_nil,List.nil_append]⟩ ?_ ?_
     ·intro h;exact absurd h (by decide)
     ·intro i hi;simp only [List.mem_cons,List.not_mem_nil,or_false] at hi
      subst hi
      ·apply MJ rfl rfl ev
       ·simp +decide only [go_sem,Nat.reduceAdd,KI,F,G,v,z]
        (repeat' with_reducible apply Ad)<;>first | exact UU (ih _ _ _ lx0_ok la0 c (ef hs) b (ef hs) nq w.2.2.2.1 ad.1 a4 _ ah) (hv hs) | rfl | exact cl
       ·simp +decide only [go_sem,Nat.reduceAdd,F,G,v,z]
        refine Good.mk [] kr ⟨[],_,_,_,by first | rfl | simp only [List.append_nil,List.nil_append]⟩ ?_ ?_
        ·intro _;apply GP [0,3,5,6,17,18,19];first | (simp +decide only [go_sem,Nat.reduceAdd,F,G,v,z];done) | (simp +decide only [go_sem,Nat.reduceAdd,F,G,v,z];rfl)
        ·intro i hi;cases hi
    simp +decide only [go_sem,Nat.reduceAdd,F,G,v,z]
    (repeat' apply Ad)<;>first | refine N _ _ ⟨ap.1,ap.2,([Ak w.1::(.val (.string w.2.1)::(Ak w.2.2.1::((w.2.2.2.1.cs)++([.list (w.2.2.2.2.map Bv) .none])))),ad.1.cs]),Rl6,ef hs,ef hs,E,h⟩ | exact cl
   have z:=hs.1
   refine rg [0,3,5,6,9,17,18,19,42] hs ?_
   refine BN h hs ?_ ?_<;>intro hs h
   ·obtain ⟨a0,ak,h⟩:=bind_some h
    obtain ⟨ba,ao,h⟩:=bind_some h
    refine rk 3 [0,3,5,6,17,18,19] hs ?_
    refine As _ (O6 w0 _ _ _ a3 w.2.1 _ ak) (hv hs) ?_
    refine nc hs ?_
    refine BF _ (C0 w0 _ _ _ lx0_ok la0 c (ef hs) b (ef hs) nq a0 5 _ ao) (hv hs) ?_;rintro _ _ ⟨rfl,rfl⟩
    exact go (tg (a:=((),()))) h hs J D C d E trivial (q1 N)
   exact go (tg (a:=([0,3,5,6,17,18,19],()))) h hs J D C d E trivial (q1 N)
  ·clear h;rintro e st ⟨q,p,Xk11,Rk11,rfl,rfl,E,h⟩
   rw [Cd] at h
   refine AY J D C Lj (Az (Az d ow) ow) E ow ow ?_
   exact go (tg (a:=([0,3,5,6,17,18,19],()))) h hs J D C d E trivial (q1 (fun e s=>Vl6 ml6 e s (Nat.lt_succ_self _)))
 ·clear h;rintro e st ⟨o,k,Xk3,Rk3,rfl,rfl,E,h⟩
  rw [Gi] at h
  refine AY J D C Lj (Az (Az d ow) ow) E ow ow ?_
  refine rg [0,3,5,51,52,53] hs ?_
  apply Ao
  refine AL (fun m e st=>∃ (t:Int) (j:Bool) (g:Bool) (Xl27:Am) (Rl27:Aq),e=[(0,true,.box la0 0),(3,true,.val (.string a3)),(5,true,.box B.length 0),(51,true,.list (a2.fields.map BV) .none),(52,true,Ak (a2.fields.length:Int)),(53,true,Ak t)]∧st=⟨((B.set la0 ([.clo 53 [.box lx0_ok 0],.val (.bool j)])).set lx0_ok ([.val (.bool g)]))++([a1.cs,a2.cs]++Xl27),Rl27,L⟩∧Owns Rw Rl27 []∧BO rec n a1 a2 a3 m t j g=some r) n ⟨0,o,k,([]),Rk3,ef hs,ef hs,E,h⟩ ?_
  rintro ml27 e st ⟨t,j,g,Xl27,Rl27,rfl,rfl,E,h⟩ Ul27 Vl27
  cases ml27 with
  | zero=>cases h
  | succ ml27 =>
  rw [BO] at h
  refine AY J D C Lj (Az (Az d ow) ow) E ow ow ?_
  refine rg [0,3,5,51,52,53,54] hs ?_
  apply An;intro K29 V
  refine BN h hs ?_ ?_<;>intro hs h
  rotate_left
  ·have K:=hs.1
   refine Jf (EY [] _) ?_ (Dx _ _)
   apply LK;simp +decide only [go_sem,Nat.reduceAdd]
   (repeat' with_reducible apply Ad)<;>first | exact cl | skip
   have hgt:=Option.some.inj h;subst hgt
   first | refine E8 (Az (Az d ow) ow) Lj E.pre ev ⟨?_,by first | rfl | (simp only [AB hla0,AB hlx0_ok];done)⟩ | refine HD (Az (Az d ow) ow) Lj E.pre ev ⟨?_,by first | rfl | (simp only [AB hla0,AB hlx0_ok];done)⟩
   first | rfl | (simp +decide only [go_sem,Nat.reduceAdd,F,K];done) | (simp +decide only [go_sem,Nat.reduceAdd,Vl.cs,Ty.cs,F,K];done)
  have K:=hs.1
  refine sk [0,3,5,51,52,53] hs V ?_
  clear V
  refine AA (fun e st=>∃ (u:Bool) (l:Bool) (Xk32:Am) (Rk32:Aq),e=[(0,true,.box la0 0),(3,true,.val (.string a3)),(5,true,.box B.length 0),(51,true,.list (a2.fields.map BV) .none),(52,true,Ak (a2.fields.length:Int)),(53,true,Ak t)]∧st=⟨((B.set la0 ([.clo 53 [.box lx0_ok 0],.val (.bool u)])).set lx0_ok ([.val (.bool l)]))++([a1.cs,a2.cs]++Xk32),Rk32,L⟩∧Owns Rw Rk32 []∧Dy rec n (BO rec n a1 a2 a3 ml27) t u l=some r) ?_ ?_
  ·intro K33 O
   apply Ao
   obtain ⟨au,av,h⟩:=bind_some h
   obtain ⟨a6,a5,ab⟩:=B9 av
   have Z:=C5 (f:=BV) ab
   have hs:=Ad Z hs
   refine rg [0,3,5,13,51,52,53] hs ?_
   obtain ⟨a9,ar,h⟩:=bind_some h
   refine rc 2 [0,3,5,13,15,51,52,53] hs ?_;intro K36 Y
   refine As _ (GH w0 n _ _ _ a1 au.1 _ ar) (hv hs) ?_
   refine ne hs Y ?_
   clear Y
   refine rg [0,3,5,13,51,52,53,65] hs ?_
   refine BN h hs ?_ ?_<;>intro hs h
   ·obtain ⟨az,ai,h⟩:=bind_some h
    obtain ⟨a8,am,h⟩:=bind_some h
    refine rk 3 [0,3,5,51,52,53] hs ?_
    refine As _ (O6 w0 _ _ _ a3 au.1 _ ai) (hv hs) ?_
    refine nc hs ?_
    refine BF _ (C0 w0 _ _ _ lx0_ok la0 j (ef hs) g (ef hs) nq az 6 _ am) (hv hs) ?_;rintro _ _ ⟨rfl,rfl⟩
    exact go (tg (a:=((),()))) h hs J D C d E trivial (q1 O)
   exact go (tg (a:=([0,3,5,51,52,53],()))) h hs J D C d E trivial (q1 O)
  ·clear h;rintro e st ⟨u,l,Xk32,Rk32,rfl,rfl,E,h⟩
   rw [Dy] at h
   refine AY J D C Lj (Az (Az d ow) ow) E ow ow ?_
   exact go (tg (a:=([0,3,5,51,52,53],()))) h hs J D C d E trivial (q1 (fun e s=>Vl27 ml27 e s (Nat.lt_succ_self _)))
def Dk (rec:Bool→Bool→Ty→Vl→ByteArray→Option (Bool × Bool)) (n:Nat) (g:Int→Bool→Bool→Option (Bool × Bool)) (b:Int) (pla0_k53_1:Bool) (plx0_ok_k53:Bool):Option (Bool × Bool) :=
 if BM (b+1) then
  g (b+1) pla0_k53_1 plx0_ok_k53
 else none
def BQ (rec:Bool→Bool→Ty→Vl→ByteArray→Option (Bool × Bool)) (n:Nat) (y:Ty) (a2:Vl) (g:ByteArray):Nat→Int→Bool→Bool→Option (Bool × Bool)
 | 0,_,_,_=>none
 | m+1,b,pla0_l48_1,plx0_ok_l48 =>
  if decide (b<(a2.list.length:Int)) then
   (B1 a2.list b).bind fun x56 =>
   if g.size+((⟨#[91]⟩:ByteArray)).size≤9223372036854775807 then
    if BM (b) then
     if (g++((⟨#[91]⟩:ByteArray))).size+((⟨(Lib.itoa b).toArray⟩:ByteArray)).size≤9223372036854775807 then
      if ((g++((⟨#[91]⟩:ByteArray)))++((⟨(Lib.itoa b).toArray⟩:ByteArray))).size+((⟨#[93]⟩:ByteArray)).size≤9223372036854775807 then
       if decide ((y.elem.length:Int)=1) then
        (B1 y.elem 0).bind fun x64 =>
        (rec pla0_l48_1 plx0_ok_l48 x64 x56 (((g++((⟨#[91]⟩:ByteArray)))++((⟨(Lib.itoa b).toArray⟩:ByteArray)))++((⟨#[93]⟩:ByteArray)))).bind fun q =>
        Dk rec n (BQ rec n y a2 g m) b q.1 q.2
       else
        (BI pla0_l48_1 plx0_ok_l48 (((g++((⟨#[91]⟩:ByteArray)))++((⟨(Lib.itoa b).toArray⟩:ByteArray)))++((⟨#[93]⟩:ByteArray))) 1).bind fun h =>
        Dk rec n (BQ rec n y a2 g m) b h.1 h.2
      else none
     else none
    else none
   else none
  else
   some ((pla0_l48_1,plx0_ok_l48))
def Dm (rec:Bool→Bool→Ty→Vl→ByteArray→Option (Bool × Bool)) (n:Nat) (x0_ok:Bool) (a0_done:Bool) (b:Ty) (q:Vl) (h:ByteArray) (g:Bool):Option (Bool × Bool) :=
 if g then
  if (decide (b.kind=4))&&(decide (0<(b.words.length:Int))) then
   (BX n b.words q.text).bind fun y39 =>
   if !y39 then
    (BI a0_done x0_ok h 4).bind fun y =>
    some ((y.1,y.2))
   else
    some ((a0_done,x0_ok))
  else
   (B5 a0_done x0_ok b h (q.text.size:Int)).bind fun y42 =>
   some ((y42.1,y42.2))
 else
  if decide (b.kind=8) then
   (B5 a0_done x0_ok b h (q.list.length:Int)).bind fun y46 =>
   BQ rec n b q h n 0 y46.1 y46.2
  else
   if decide (b.kind=9) then
    (I7 rec n a0_done x0_ok b q h).bind fun y70 =>
    some ((y70.1,y70.2))
   else
    if decide (b.kind=10) then
     (DK n b q.text).bind fun y74 =>
     if y74.2 then
      (B1 q.list 0).bind fun x77 =>
      if h.size+((⟨#[63]⟩:ByteArray)).size≤9223372036854775807 then
       if (h++((⟨#[63]⟩:ByteArray))).size+q.text.size≤9223372036854775807 then
        (rec a0_done x0_ok y74.1.2.2.2.1 x77 ((h++((⟨#[63]⟩:ByteArray)))++q.text)).bind fun y80 =>
        some ((y80.1,y80.2))
       else none
      else none
     else
      (BI a0_done x0_ok h 7).bind fun y81 =>
      some ((y81.1,y81.2))
    else
     some ((a0_done,x0_ok))
def Ce (rec:Bool→Bool→Ty→Vl→ByteArray→Option (Bool × Bool)) (n:Nat) (x0_ok:Bool) (a0_done:Bool) (g:Ty) (a2:Vl) (h:ByteArray) (b:Bool):Option (Bool × Bool) :=
 if b then
  (B5 a0_done x0_ok g h a2.int).bind fun q =>
  some ((q.1,q.2))
 else
  if decide (g.kind=3) then
   if !(decide (a2.scale=g.scale)) then
    (BI a0_done x0_ok h 3).bind fun y =>
    some ((y.1,y.2))
   else
    (B5 a0_done x0_ok g h a2.int).bind fun y29 =>
    some ((y29.1,y29.2))
  else
   if decide (g.kind=4) then
    Dm rec n x0_ok a0_done g a2 h true
   else
    Dm rec n x0_ok a0_done g a2 h (decide (g.kind=5))
def HW (rec:Bool→Bool→Ty→Vl→ByteArray→Option (Bool × Bool)) (n:Nat) (a0_done:Bool) (x0_ok:Bool) (b:Ty) (q:Vl) (g:ByteArray):Option (Bool × Bool) :=
 if a0_done then
  some ((a0_done,x0_ok))
 else
  if ((decide (b.kind<1))||(decide (10<b.kind)))||(!(decide (q.kind=b.kind))) then
   (BI a0_done x0_ok g 1).bind fun y8 =>
   some ((y8.1,y8.2))
  else
   (IU n q).bind fun y =>
   if !y then
    (BI a0_done x0_ok g 8).bind fun h =>
    some ((h.1,h.2))
   else
    if decide (b.kind=2) then
     Ce rec n x0_ok a0_done b q g true
    else
     if decide (b.kind=6) then
      Ce rec n x0_ok a0_done b q g true
     else
      Ce rec n x0_ok a0_done b q g (decide (b.kind=7))
def CY:Nat→Bool→Bool→Ty→Vl→ByteArray→Option (Bool × Bool)
 | 0,_,_,_,_,_=>none
 | n+1,a0_done,x0_ok,b,g,h=>HW (CY n) n a0_done x0_ok b g h
def JW (w0:World) (F:Bool→Bool→Ty→Vl→ByteArray→Option (Bool × Bool)):Prop:=∀ (B:Am) (Rw:Aq) (L:Ar) (lx0_ok:Nat) (la0:Nat) (a0_done:Bool) (hla0:B[la0]? = some ([.clo 53 [.box lx0_ok 0],.val (.bool a0_done)])) (x0_ok:Bool) (hlx0_ok:B[lx0_ok]? = some ([.val (.bool x0_ok)])) (hne_lx0_ok_la0:lx0_ok≠la0) (b:Ty) (g:Vl) (h:ByteArray) (r:Bool × Bool),F a0_done x0_ok b g h=some r→ACalls Tryz.prog w0 54 [.box la0 0,.agg (b.cs),.agg (g.cs),.val (.string h)] ⟨B,Rw,L⟩ fun x st=>x = .tup []∧st=⟨((B.set la0 ([.clo 53 [.box lx0_ok 0],.val (.bool r.1)])).set lx0_ok [.val (.bool r.2)]),Rw,L⟩
theorem Qs (w0:World) (hP:Pow10 w0) (hT:Lib.Utf8Tabs 2 3 w0) (rec:Bool→Bool→Ty→Vl→ByteArray→Option (Bool × Bool)) (ih:JW w0 rec) (n:Nat):JW w0 (HW rec n):=by
 intro B Rw L k D u t z b w a1 a2 a3 r h
 rw [HW] at h
 refine hd [] Tryz.func54 Tryz.ntmps54 fun M0 W0 hN aj ai g hu H hs=>?_
 simp only [AG]
 have b2:=(Aj.1 t).1
 have a0:=(Aj.1 b).1
 have o:=Ad (Aw t) (Ad (Aw b) (Ad (DL t w) (Ad (DL b (Ne.symm w)) (Ad (TW w) (Ad (NC t k) (Ad (NC b D) (Ad (NJ t D k) (Ad (NJ b D k) (Ad (Ls k) (Ad (Ls D) (Ad (ZG t w) (V8 b (Ne.symm w)))))))))))))
 have hs:=Ad o hs
 refine rg [0,3,5,6] hs ?_
 apply An;intro K2 b0
 apply Ao
 refine rg [0,3,5,6,13] hs ?_
 refine BN h hs ?_ ?_<;>intro hs h
 ·have l:=hs.1
  apply Df;simp +decide only [go_sem,Nat.reduceAdd,o,l]
  have hgt:=Option.some.inj h;subst hgt
  first | refine E8 g rfl H.pre ev ⟨?_,by first | rfl | (simp only [AB t,AB b];done)⟩ | refine HD g rfl H.pre ev ⟨?_,by first | rfl | (simp only [AB t,AB b];done)⟩
  first | rfl | (simp +decide only [go_sem,Nat.reduceAdd,o,l];done) | (simp +decide only [go_sem,Nat.reduceAdd,Vl.cs,Ty.cs,o,l];done)
 have l:=hs.1
 refine rg [0,3,5,6,18] hs ?_
 refine BN h hs ?_ ?_<;>intro hs h
 ·have q:=hs.1
  obtain ⟨y8,b3,h⟩:=bind_some h
  refine rc 2 [] hs ?_;intro K7 bp
  refine BF _ (C0 w0 _ _ _ k D u (ef hs) z (ef hs) nq a3 1 _ b3) (hv hs) ?_;rintro _ _ ⟨rfl,rfl⟩
  refine ne hs bp ?_
  clear bp
  apply Df;simp +decide only [go_sem,Nat.reduceAdd,o,l,q]
  have hgt:=Option.some.inj h;subst hgt
  first | refine E8 (Az (Az g ow) ow) Lj H.pre ev ⟨?_,by first | rfl | (simp only [AB t,AB b];done)⟩ | refine HD (Az (Az g ow) ow) Lj H.pre ev ⟨?_,by first | rfl | (simp only [AB t,AB b];done)⟩
  first | rfl | (simp +decide only [go_sem,Nat.reduceAdd,o,l,q];done) | (simp +decide only [go_sem,Nat.reduceAdd,Vl.cs,Ty.cs,o,l,q];done)
 have q:=hs.1
 obtain ⟨co,bj,h⟩:=bind_some h
 refine rc 2 [0,3,5,6,37] hs ?_;intro K9 bx
 refine As _ (RP w0 hT n _ _ _ a2 _ bj) (hv hs) ?_
 refine ne hs bx ?_
 clear bx
 refine BN h hs ?_ ?_<;>intro hs h
 ·have c:=hs.1
  obtain ⟨cd,bd,h⟩:=bind_some h
  refine rc 2 [] hs ?_;intro K12 ar
  refine BF _ (C0 w0 _ _ _ k D u (ef hs) z (ef hs) nq a3 8 _ bd) (hv hs) ?_;rintro _ _ ⟨rfl,rfl⟩
  refine ne hs ar ?_
  clear ar
  apply Df;simp +decide only [go_sem,Nat.reduceAdd,o,l,q,c]
  have hgt:=Option.some.inj h;subst hgt
  first | refine E8 (Az (Az g ow) ow) Lj H.pre ev ⟨?_,by first | rfl | (simp only [AB t,AB b];done)⟩ | refine HD (Az (Az g ow) ow) Lj H.pre ev ⟨?_,by first | rfl | (simp only [AB t,AB b];done)⟩
  first | rfl | (simp +decide only [go_sem,Nat.reduceAdd,o,l,q,c];done) | (simp +decide only [go_sem,Nat.reduceAdd,Vl.cs,Ty.cs,o,l,q,c];done)
 have c:=hs.1
 refine sk [0,3,5,6] hs b0 ?_
 clear b0
 refine rg [0,3,5,6,45] hs ?_
 apply Ao
 refine AA (fun e st=>∃ (ae:Bool),Ck e st B Rw L [(0,true,.box D 0),(3,true,.val (.string a3)),(5,true,.box B.length 0),(6,true,.box (B.length+1) 0),(45,true,Ak a1.kind),(46,true,.val (.bool ae))] [a1.cs,a2.cs] [] (Ce rec n z u a1 a2 a3 ae=some r)) ?_ ?_
 ·intro K17 bs
  exact go (tg (a:=([0,3,5,6,45,46],([0,3,5,6,45,46],()),[0,3,5,6,45,46],([0,3,5,6,45,46],()),[0,3,5,6,45,46],()))) h hs hN aj ai g H trivial (q1 bs)
 ·clear h;rintro e st ⟨ae,Xk16,Rk16,rfl,rfl,H,h⟩
  rw [Ce] at h
  refine td hN aj ai g H ?_
  refine BN h hs ?_ ?_<;>intro hs h
  ·have d:=hs.1
   obtain ⟨cf,bn,h⟩:=bind_some h
   apply Ax 2 []
   rw [Ap];simp +decide only [go_sem,Nat.reduceAdd,o,l,q,c,d]
   (repeat' apply Ad)<;>first | (refine BF _ (FU w0 _ _ _ k D u (ef hs) z (ef hs) nq a1 a3 a2.int _ bn) (hv hs) ?_;rintro _ _ ⟨rfl,rfl⟩) | exact cl
   rw [Ap];simp +decide only [go_sem,Nat.reduceAdd,o,l,q,c,d]
   (repeat' with_reducible apply Ad)<;>first | exact cl | skip
   have hgt:=Option.some.inj h;subst hgt
   first | refine E8 (Az (Az g ow) ow) Lj H.pre ev ⟨?_,by first | rfl | (simp only [AB t,AB b];done)⟩ | refine HD (Az (Az g ow) ow) Lj H.pre ev ⟨?_,by first | rfl | (simp only [AB t,AB b];done)⟩
   first | rfl | (simp +decide only [go_sem,Nat.reduceAdd,o,l,q,c,d];done) | (simp +decide only [go_sem,Nat.reduceAdd,Vl.cs,Ty.cs,o,l,q,c,d];done)
  have d:=hs.1
  refine rg [0,3,5,6,45,56] hs ?_
  refine BN h hs ?_ ?_<;>intro hs h
  ·have j:=hs.1
   refine rg [0,3,5,6,62] hs ?_
   refine BN h hs ?_ ?_<;>intro hs h
   ·have aa:=hs.1
    obtain ⟨cj,bm,h⟩:=bind_some h
    apply Ax 2 []
    rw [Ap];simp +decide only [go_sem,Nat.reduceAdd,o,l,q,c,d,j,aa]
    (repeat' apply Ad)<;>first | (refine BF _ (C0 w0 _ _ _ k D u (ef hs) z (ef hs) nq a3 3 _ bm) (hv hs) ?_;rintro _ _ ⟨rfl,rfl⟩) | exact cl
    rw [Ap];simp +decide only [go_sem,Nat.reduceAdd,o,l,q,c,d,j,aa]
    (repeat' with_reducible apply Ad)<;>first | exact cl | skip
    have hgt:=Option.some.inj h;subst hgt
    first | refine E8 (Az (Az g ow) ow) Lj H.pre ev ⟨?_,by first | rfl | (simp only [AB t,AB b];done)⟩ | refine HD (Az (Az g ow) ow) Lj H.pre ev ⟨?_,by first | rfl | (simp only [AB t,AB b];done)⟩
    first | rfl | (simp +decide only [go_sem,Nat.reduceAdd,o,l,q,c,d,j,aa];done) | (simp +decide only [go_sem,Nat.reduceAdd,Vl.cs,Ty.cs,o,l,q,c,d,j,aa];done)
   have aa:=hs.1
   obtain ⟨ck,a7,h⟩:=bind_some h
   apply Ax 2 []
   rw [Ap];simp +decide only [go_sem,Nat.reduceAdd,o,l,q,c,d,j,aa]
   (repeat' apply Ad)<;>first | (refine BF _ (FU w0 _ _ _ k D u (ef hs) z (ef hs) nq a1 a3 a2.int _ a7) (hv hs) ?_;rintro _ _ ⟨rfl,rfl⟩) | exact cl
   rw [Ap];simp +decide only [go_sem,Nat.reduceAdd,o,l,q,c,d,j,aa]
   (repeat' with_reducible apply Ad)<;>first | exact cl | skip
   have hgt:=Option.some.inj h;subst hgt
   first | refine E8 (Az (Az g ow) ow) Lj H.pre ev ⟨?_,by first | rfl | (simp only [AB t,AB b];done)⟩ | refine HD (Az (Az g ow) ow) Lj H.pre ev ⟨?_,by first | rfl | (simp only [AB t,AB b];done)⟩
   first | rfl | (simp +decide only [go_sem,Nat.reduceAdd,o,l,q,c,d,j,aa];done) | (simp +decide only [go_sem,Nat.reduceAdd,Vl.cs,Ty.cs,o,l,q,c,d,j,aa];done)
  have j:=hs.1
  refine AA (fun e st=>∃ (ad:Bool),Ck e st B Rw L [(0,true,.box D 0),(3,true,.val (.string a3)),(5,true,.box B.length 0),(6,true,.box (B.length+1) 0),(45,true,Ak a1.kind),(72,true,.val (.bool ad))] [a1.cs,a2.cs] [] (Dm rec n z u a1 a2 a3 ad=some r)) ?_ ?_
  ·intro K32 bz
   exact go (tg (a:=([0,3,5,6,45,72],([0,3,5,6,45,72],()),[0,3,5,6,45,72],()))) h hs hN aj ai g H trivial (q1 bz)
  ·clear h;rintro e st ⟨ad,Xk31,Rk31,rfl,rfl,H,h⟩
   rw [Dm] at h
   refine td hN aj ai g H ?_
   refine BN h hs ?_ ?_<;>intro hs h
   ·have p:=hs.1
    refine rg [0,3,5,6,83] hs ?_
    refine BN h hs ?_ ?_<;>intro hs h
    ·have Y:=hs.1
     obtain ⟨cn,br,h⟩:=bind_some h
     refine rc 2 [0,3,89] hs ?_;intro K38 av
     refine As _ (FR w0 n _ _ _ a1.words a2.text _ br) (hv hs) ?_
     refine ne hs av ?_
     clear av
     refine BN h hs ?_ ?_<;>intro hs h
     ·have ag:=hs.1
      obtain ⟨ci,bw,h⟩:=bind_some h
      apply Ax 2 []
      rw [Ap];simp +decide only [go_sem,Nat.reduceAdd,o,l,q,c,d,j,p,Y,ag]
      (repeat' apply Ad)<;>first | (refine BF _ (C0 w0 _ _ _ k D u (ef hs) z (ef hs) nq a3 4 _ bw) (hv hs) ?_;rintro _ _ ⟨rfl,rfl⟩) | exact cl
      rw [Ap];simp +decide only [go_sem,Nat.reduceAdd,o,l,q,c,d,j,p,Y,ag]
      (repeat' with_reducible apply Ad)<;>first | exact cl | skip
      have hgt:=Option.some.inj h;subst hgt
      first | refine E8 (Az (Az g ow) ow) Lj H.pre ev ⟨?_,by first | rfl | (simp only [AB t,AB b];done)⟩ | refine HD (Az (Az g ow) ow) Lj H.pre ev ⟨?_,by first | rfl | (simp only [AB t,AB b];done)⟩
      first | rfl | (simp +decide only [go_sem,Nat.reduceAdd,o,l,q,c,d,j,p,Y,ag];done) | (simp +decide only [go_sem,Nat.reduceAdd,Vl.cs,Ty.cs,o,l,q,c,d,j,p,Y,ag];done)
     have ag:=hs.1
     refine Jf (EY [] _) ?_ (Dx _ _)
     apply Dj;simp +decide only [go_sem,Nat.reduceAdd]
     (repeat' with_reducible apply Ad)<;>first | exact cl | skip
     have hgt:=Option.some.inj h;subst hgt
     first | refine E8 g rfl H.pre ev ⟨?_,by first | rfl | (simp only [AB t,AB b];done)⟩ | refine HD g rfl H.pre ev ⟨?_,by first | rfl | (simp only [AB t,AB b];done)⟩
     first | rfl | (simp +decide only [go_sem,Nat.reduceAdd,o,l,q,c,d,j,p,Y,ag];done) | (simp +decide only [go_sem,Nat.reduceAdd,Vl.cs,Ty.cs,o,l,q,c,d,j,p,Y,ag];done)
    have Y:=hs.1
    obtain ⟨ce,b1,h⟩:=bind_some h
    apply Ax 2 []
    rw [Ap];simp +decide only [go_sem,Nat.reduceAdd,o,l,q,c,d,j,p,Y]
    (repeat' apply Ad)<;>first | (refine BF _ (FU w0 _ _ _ k D u (ef hs) z (ef hs) nq a1 a3 (a2.text.size:Int) _ b1) (hv hs) ?_;rintro _ _ ⟨rfl,rfl⟩) | exact cl
    rw [Ap];simp +decide only [go_sem,Nat.reduceAdd,o,l,q,c,d,j,p,Y]
    (repeat' with_reducible apply Ad)<;>first | exact cl | skip
    have hgt:=Option.some.inj h;subst hgt
    first | refine E8 (Az (Az g ow) ow) Lj H.pre ev ⟨?_,by first | rfl | (simp only [AB t,AB b];done)⟩ | refine HD (Az (Az g ow) ow) Lj H.pre ev ⟨?_,by first | rfl | (simp only [AB t,AB b];done)⟩
    first | rfl | (simp +decide only [go_sem,Nat.reduceAdd,o,l,q,c,d,j,p,Y];done) | (simp +decide only [go_sem,Nat.reduceAdd,Vl.cs,Ty.cs,o,l,q,c,d,j,p,Y];done)
   have p:=hs.1
   refine rg [0,3,5,6,45,100] hs ?_
   refine BN h hs ?_ ?_<;>intro hs h
   ·have v:=hs.1
    obtain ⟨a8,bl,h⟩:=bind_some h
    refine rc 2 [0,3,5,6] hs ?_;intro K45 aq
    refine BF _ (FU w0 _ _ _ k D u (ef hs) z (ef hs) nq a1 a3 (a2.list.length:Int) _ bl) (hv hs) ?_;rintro _ _ ⟨rfl,rfl⟩
    refine ne hs aq ?_
    clear aq
    refine rg [0,3,5,110,111,112] hs ?_
    apply Ao
    refine AL (fun m e st=>∃ (x:Int) (E:Bool) (C:Bool) (Xl48:Am) (Rl48:Aq),e=[(0,true,.box D 0),(3,true,.val (.string a3)),(5,true,.box B.length 0),(110,true,.list (a2.list.map Bv) .none),(111,true,Ak (a2.list.length:Int)),(112,true,Ak x)]∧st=⟨((B.set D ([.clo 53 [.box k 0],.val (.bool E)])).set k ([.val (.bool C)]))++([a1.cs,a2.cs]++Xl48),Rl48,L⟩∧Owns Rw Rl48 []∧BQ rec n a1 a2 a3 m x E C=some r) n ⟨0,a8.1,a8.2,([]),Rk31,ef hs,ef hs,H,h⟩ ?_
    rintro ml48 e st ⟨x,E,C,Xl48,Rl48,rfl,rfl,H,h⟩ Ul48 Vl48
    cases ml48 with
    | zero=>cases h
    | succ ml48 =>
    rw [BQ] at h
    refine AY hN aj ai Lj (Az (Az g ow) ow) H ow ow ?_
    refine rg [0,3,5,110,111,112,113] hs ?_
    apply An;intro K50 aw
    refine BN h hs ?_ ?_<;>intro hs h
    rotate_left
    ·have ab:=hs.1
     refine Jf (EY [] _) ?_ (Dx _ _)
     apply LK;simp +decide only [go_sem,Nat.reduceAdd]
     (repeat' with_reducible apply Ad)<;>first | exact cl | skip
     have hgt:=Option.some.inj h;subst hgt
     first | refine E8 (Az (Az g ow) ow) Lj H.pre ev ⟨?_,by first | rfl | (simp only [AB t,AB b];done)⟩ | refine HD (Az (Az g ow) ow) Lj H.pre ev ⟨?_,by first | rfl | (simp only [AB t,AB b];done)⟩
     first | rfl | (simp +decide only [go_sem,Nat.reduceAdd,o,l,q,c,d,j,p,v,ab];done) | (simp +decide only [go_sem,Nat.reduceAdd,Vl.cs,Ty.cs,o,l,q,c,d,j,p,v,ab];done)
    have ab:=hs.1
    refine sk [0,3,5,110,111,112] hs aw ?_
    clear aw
    refine AA (fun e st=>∃ (U:Bool) (N:Bool) (Xk53:Am) (Rk53:Aq),e=[(0,true,.box D 0),(3,true,.val (.string a3)),(5,true,.box B.length 0),(110,true,.list (a2.list.map Bv) .none),(111,true,Ak (a2.list.length:Int)),(112,true,Ak x)]∧st=⟨((B.set D ([.clo 53 [.box k 0],.val (.bool U)])).set k ([.val (.bool N)]))++([a1.cs,a2.cs]++Xk53),Rk53,L⟩∧Owns Rw Rk53 []∧Dk rec n (BQ rec n a1 a2 a3 ml48) x U N=some r) ?_ ?_
    ·intro K54 ao
     apply Ao
     obtain ⟨am,bo,h⟩:=bind_some h
     obtain ⟨b8,b6,a4⟩:=B9 bo
     have Z:=C5 (f:=Bv) a4
     have hs:=Ad Z hs
     refine rg [0,3,5,8,9,110,111,112] hs ?_
     obtain ⟨bg,h⟩:=Au h
     have ax:=bg
     try simp +decide only [go_sem] at ax
     obtain ⟨ba,h⟩:=Au h
     obtain ⟨bb,h⟩:=Au h
     have a5:=bb
     try simp +decide only [go_sem] at a5
     obtain ⟨bh,h⟩:=Au h
     have a6:=bh
     try simp +decide only [go_sem] at a6
     refine rc 2 [0,3,5,9,10,110,111,112] hs ?_;intro K57 ap
     refine As _ (Zf7 w0 _ _ _ hP x ba) (hv hs) ?_
     refine ne hs ap ?_
     clear ap
     refine rg [0,3,5,9,10,110,111,112,126] hs ?_
     refine BN h hs ?_ ?_<;>intro hs h
     ·have af:=hs.1
      obtain ⟨b9,b7,cb,O,h⟩:=ix Ny h
      have V:(a1.elem.map Ny).getD 0 .junk=_:=O
      obtain ⟨a9,be,h⟩:=bind_some h
      apply G5 Oo [7] [0,3,5,110,111,112] kr (fun s=>∃ (X:Am) (rows:Aq) (ah:List AV) (Q:List AV),s=⟨((B.set D ah).set k Q)++([a1.cs,a2.cs,am.cs]++X),rows,L⟩) 2 (B.length+3)
      ·simp +decide only [go_sem,Nat.reduceAdd]
      ·rintro s ⟨X,rows,ah,Q,rfl⟩
       refine ⟨1,?_⟩
       rw [Ap];simp +decide only [go_sem,Nat.reduceAdd,EI,o,l,q,c,d,j,p,v,ab,Z,af,O,V]
       (repeat' apply Ad)<;>first | rfl | exact cl
      ·refine Good.mk [7] kr ⟨[],_,_,_,by first | rfl | simp only [List.append_nil,List.nil_append]⟩ ?_ ?_
       ·intro h;exact absurd h (by decide)
       ·intro i hi;simp only [List.mem_cons,List.not_mem_nil,or_false] at hi
        subst hi
        ·apply MJ rfl rfl ev
         ·simp +decide only [go_sem,Nat.reduceAdd,KI,o,l,q,c,d,j,p,v,ab,Z,af,O,V]
          have hs:=Ad O hs
          have hs:=Ad V hs
          (repeat' with_reducible apply Ad)<;>first | exact UU (ih _ _ _ k D E (ef hs) C (ef hs) nq b9 am (((a3++((⟨#[91]⟩:ByteArray)))++((⟨(Lib.itoa x).toArray⟩:ByteArray)))++((⟨#[93]⟩:ByteArray))) _ be) (hv hs) | rfl | exact cl
         ·simp +decide only [go_sem,Nat.reduceAdd,o,l,q,c,d,j,p,v,ab,Z,af,O,V]
          refine Good.mk [] kr ⟨[],_,_,_,by first | rfl | simp only [List.append_nil,List.nil_append]⟩ ?_ ?_
          ·intro _;apply GP [0,3,5,110,111,112];first | (simp +decide only [go_sem,Nat.reduceAdd,o,l,q,c,d,j,p,v,ab,Z,af,O,V];done) | (simp +decide only [go_sem,Nat.reduceAdd,o,l,q,c,d,j,p,v,ab,Z,af,O,V];rfl)
          ·intro i hi;cases hi
      simp +decide only [go_sem,Nat.reduceAdd,o,l,q,c,d,j,p,v,ab,Z,af,O,V]
      have hs:=Ad O hs
      have hs:=Ad V hs
      (repeat' apply Ad)<;>first | refine ao _ _ ⟨a9.1,a9.2,([am.cs]),Rl48,ef hs,ef hs,H,h⟩ | exact cl
     have af:=hs.1
     obtain ⟨bi,bq,h⟩:=bind_some h
     refine rk 2 [0,3,5,110,111,112] hs ?_
     refine BF _ (C0 w0 _ _ _ k D E (ef hs) C (ef hs) nq (((a3++((⟨#[91]⟩:ByteArray)))++((⟨(Lib.itoa x).toArray⟩:ByteArray)))++((⟨#[93]⟩:ByteArray))) 1 _ bq) (hv hs) ?_;rintro _ _ ⟨rfl,rfl⟩
     refine ne hs ao ?_
     exact ⟨bi.1,bi.2,([am.cs]),Rl48,ef hs,ef hs,H,h⟩
    ·clear h;rintro e st ⟨U,N,Xk53,Rk53,rfl,rfl,H,h⟩
     rw [Dk] at h
     refine AY hN aj ai Lj (Az (Az g ow) ow) H ow ow ?_
     exact go (tg (a:=([0,3,5,110,111,112],()))) h hs hN aj ai g H trivial (q1 (fun e s=>Vl48 ml48 e s (Nat.lt_succ_self _)))
   have v:=hs.1
   refine rg [0,3,5,6,45,139] hs ?_
   refine BN h hs ?_ ?_<;>intro hs h
   ·have y:=hs.1
    obtain ⟨cc,bf,h⟩:=bind_some h
    apply Ax 2 []
    rw [Ap];simp +decide only [go_sem,Nat.reduceAdd,o,l,q,c,d,j,p,v,y]
    (repeat' apply Ad)<;>first | (refine BF _ (Qj w0 rec ih n _ _ _ k D u (ef hs) z (ef hs) nq a1 a2 a3 _ bf) (hv hs) ?_;rintro _ _ ⟨rfl,rfl⟩) | exact cl
    rw [Ap];simp +decide only [go_sem,Nat.reduceAdd,o,l,q,c,d,j,p,v,y]
    (repeat' with_reducible apply Ad)<;>first | exact cl | skip
    have hgt:=Option.some.inj h;subst hgt
    first | refine E8 (Az (Az g ow) ow) Lj H.pre ev ⟨?_,by first | rfl | (simp only [AB t,AB b];done)⟩ | refine HD (Az (Az g ow) ow) Lj H.pre ev ⟨?_,by first | rfl | (simp only [AB t,AB b];done)⟩
    first | rfl | (simp +decide only [go_sem,Nat.reduceAdd,o,l,q,c,d,j,p,v,y];done) | (simp +decide only [go_sem,Nat.reduceAdd,Vl.cs,Ty.cs,o,l,q,c,d,j,p,v,y];done)
   have y:=hs.1
   refine rg [0,3,5,6,146] hs ?_
   refine BN h hs ?_ ?_<;>intro hs h
   ·have F:=hs.1
    obtain ⟨ak,bk,h⟩:=bind_some h
    refine rc 2 [0,3,6,11,12] hs ?_;intro K73 au
    refine As _ (GH w0 n _ _ _ a1 a2.text _ bk) (hv hs) ?_
    refine ne hs au ?_
    clear au
    refine rg [0,3,6,11,155] hs ?_
    refine BN h hs ?_ ?_<;>intro hs h
    ·have J:=hs.1
     obtain ⟨ca,b5,b4,G,h⟩:=ix Bv h
     have K:(a2.list.map Bv).getD 0 .junk=_:=G
     obtain ⟨bv,h⟩:=Au h
     have az:=bv
     try simp +decide only [go_sem] at az
     obtain ⟨bc,h⟩:=Au h
     have ay:=bc
     try simp +decide only [go_sem] at ay
     obtain ⟨cg,bt,h⟩:=bind_some h
     refine ZhX (B':=((B.set D ([.clo 53 [.box k 0],.val (.bool u)])).set k ([.val (.bool z)]))) (by simp only [AB t,AB b]) ?_
     apply G5 Oo [12] [] kr (fun s=>∃ (X:Am) (rows:Aq) (ah:List AV) (Q:List AV),s=⟨((B.set D ah).set k Q)++([a1.cs,a2.cs,Ak ak.1.1::(.val (.string ak.1.2.1)::(Ak ak.1.2.2.1::((ak.1.2.2.2.1.cs)++([.list (ak.1.2.2.2.2.map Bv) .none]))))]++X),rows,L⟩) 2 (B.length+3)
     ·simp +decide only [go_sem,Nat.reduceAdd]
     ·rintro s ⟨X,rows,ah,Q,rfl⟩
      refine ⟨1,?_⟩
      rw [Ap];simp +decide only [go_sem,Nat.reduceAdd,EI,o,l,q,c,d,j,p,v,y,F,J,G,K]
      (repeat' apply Ad)<;>first | rfl | exact cl
     ·refine Good.mk [12] kr ⟨[],_,_,_,by first | rfl | simp only [List.append_nil,List.nil_append]⟩ ?_ ?_
      ·intro h;exact absurd h (by decide)
      ·intro i hi;simp only [List.mem_cons,List.not_mem_nil,or_false] at hi
       subst hi
       ·apply MJ rfl rfl ev
        ·simp +decide only [go_sem,Nat.reduceAdd,KI,o,l,q,c,d,j,p,v,y,F,J,G,K]
         have hs:=Ad G hs
         have hs:=Ad K hs
         (repeat' with_reducible apply Ad)<;>first | exact UU (ih _ _ _ k D u (ef hs) z (ef hs) nq ak.1.2.2.2.1 ca ((a3++((⟨#[63]⟩:ByteArray)))++a2.text) _ bt) (hv hs) | rfl | exact cl
        ·simp +decide only [go_sem,Nat.reduceAdd,o,l,q,c,d,j,p,v,y,F,J,G,K]
         refine Good.mk [] kr ⟨[],_,_,_,by first | rfl | simp only [List.append_nil,List.nil_append]⟩ ?_ ?_
         ·intro _;apply GP [];first | (simp +decide only [go_sem,Nat.reduceAdd,o,l,q,c,d,j,p,v,y,F,J,G,K];done) | (simp +decide only [go_sem,Nat.reduceAdd,o,l,q,c,d,j,p,v,y,F,J,G,K];rfl)
         ·intro i hi;cases hi
     simp +decide only [go_sem,Nat.reduceAdd,o,l,q,c,d,j,p,v,y,F,J,G,K]
     (repeat' with_reducible apply Ad)<;>first | exact cl | skip
     have hgt:=Option.some.inj h;subst hgt
     first | refine E8 (Az (Az g ow) ow) Lj H.pre ev ⟨?_,by first | rfl | (simp only [AB t,AB b];done)⟩ | refine HD (Az (Az g ow) ow) Lj H.pre ev ⟨?_,by first | rfl | (simp only [AB t,AB b];done)⟩
     first | rfl | (simp +decide only [go_sem,Nat.reduceAdd,o,l,q,c,d,j,p,v,y,F,J,G,K];done) | (simp +decide only [go_sem,Nat.reduceAdd,Vl.cs,Ty.cs,o,l,q,c,d,j,p,v,y,F,J,G,K];done)
    have J:=hs.1
    obtain ⟨ch,bu,h⟩:=bind_some h
    apply Ax 2 []
    rw [Ap];simp +decide only [go_sem,Nat.reduceAdd,o,l,q,c,d,j,p,v,y,F,J]
    (repeat' apply Ad)<;>first | (refine BF _ (C0 w0 _ _ _ k D u (ef hs) z (ef hs) nq a3 7 _ bu) (hv hs) ?_;rintro _ _ ⟨rfl,rfl⟩) | exact cl
    rw [Ap];simp +decide only [go_sem,Nat.reduceAdd,o,l,q,c,d,j,p,v,y,F,J]
    (repeat' with_reducible apply Ad)<;>first | exact cl | skip
    have hgt:=Option.some.inj h;subst hgt
    first | refine E8 (Az (Az g ow) ow) Lj H.pre ev ⟨?_,by first | rfl | (simp only [AB t,AB b];done)⟩ | refine HD (Az (Az g ow) ow) Lj H.pre ev ⟨?_,by first | rfl | (simp only [AB t,AB b];done)⟩
    first | rfl | (simp +decide only [go_sem,Nat.reduceAdd,o,l,q,c,d,j,p,v,y,F,J];done) | (simp +decide only [go_sem,Nat.reduceAdd,Vl.cs,Ty.cs,o,l,q,c,d,j,p,v,y,F,J];done)
   have F:=hs.1
   refine Jf (EY [] _) ?_ (Dx _ _)
   apply Dj;simp +decide only [go_sem,Nat.reduceAdd]
   (repeat' with_reducible apply Ad)<;>first | exact cl | skip
   have hgt:=Option.some.inj h;subst hgt
   first | refine E8 g rfl H.pre ev ⟨?_,by first | rfl | (simp only [AB t,AB b];done)⟩ | refine HD g rfl H.pre ev ⟨?_,by first | rfl | (simp only [AB t,AB b];done)⟩
   first | rfl | (simp +decide only [go_sem,Nat.reduceAdd,o,l,q,c,d,j,p,v,y,F];done) | (simp +decide only [go_sem,Nat.reduceAdd,Vl.cs,Ty.cs,o,l,q,c,d,j,p,v,y,F];done)
theorem Nk (w0:World) (hP:Pow10 w0) (hT:Lib.Utf8Tabs 2 3 w0):∀ n:Nat,JW w0 (CY n)
 | 0=>fun _ _ _ _ _ _ _ _ _ _ _ _ _ _ h=>(nomatch h)
 | n+1=>Qs w0 hP hT (CY n) (Nk w0 hP hT n) n
def KO (n:Nat) (h:Ty) (b:Vl):Option Bool :=
 (CY n false true h b (⟨#[]⟩:ByteArray)).bind fun g =>
 some (g.2)
theorem VI (w0:World) (hP:Pow10 w0) (hT:Lib.Utf8Tabs 2 3 w0) (n:Nat) (B:Am) (Rw:Aq) (L:Ar) (a0:Ty) (a1:Vl) (r:Bool) (h:KO n a0 a1=some r) :
  ACalls Tryz.prog w0 15 [.agg (a0.cs),.agg (a1.cs)] ⟨B,Rw,L⟩ fun x st=>x = .val (.bool r)∧st=⟨B,Rw,L⟩:=by
 rw [KO] at h
 refine hd [.tmp 4] Tryz.func15 Tryz.ntmps15 fun M0 W0 i e d a j f hs=>?_
 simp only [AG]
 refine rg [2,3] hs ?_
 refine rg [2,3,5] hs ?_
 refine rg [2,3,5,6] hs ?_
 obtain ⟨g,c,h⟩:=bind_some h
 refine rc 2 [5] hs ?_;intro K4 b
 refine BF _ (Nk w0 hP hT n _ _ _ (B.length+2) (B.length+3) false ev true ev nq a0 a1 (⟨#[]⟩:ByteArray) _ c) (hv hs) ?_;rintro _ _ ⟨rfl,rfl⟩
 refine ne hs b ?_
 clear b
 refine rg [4] hs ?_
 exact rt h hs a f
def GN (n:Nat) (h:Ty) (q:Vl):Option (Vl × Int) :=
 (Dz n h q).bind fun g =>
 (KO n h g).bind fun y =>
 if !y then
  some ((Vl.mk 0 0 0 (⟨#[]⟩:ByteArray) ([]) ([]),18))
 else
  (Bm n g).bind fun b =>
  some ((b,0))
theorem P0 (w0:World) (hP:Pow10 w0) (hT:Lib.Utf8Tabs 2 3 w0) (n:Nat) (B:Am) (Rw:Aq) (L:Ar) (a0:Ty) (a1:Vl) (r:Vl × Int) (h:GN n a0 a1=some r) :
  ACalls Tryz.prog w0 16 [.agg (a0.cs),.agg (a1.cs)] ⟨B,Rw,L⟩ fun x st=>x = .tup [.agg (r.1.cs),Ak r.2]∧st=⟨B,Rw,L⟩:=by
 rw [GN] at h
 refine hd [.cell 4 34,.tmp 5] Tryz.func16 Tryz.ntmps16 fun M0 W0 e d c b g f hs=>?_
 simp only [AG]
 exact go (tg (a:=([2,3,4],[2,4,6],[4,6,13],([4,5],()),[4,6],[4,5],()))) h hs e d c b f (q3 (P2 w0 hT n) (VI w0 hP hT n) (DO w0 n)) trivial
def ssB:List (ByteArray × Vl)→Bool
 | p::q::r=>X7 p.1 q.1&&ssB (q::r)
 | _=>true
theorem Zy:∀ l,ssB l=true↔SS l
 | []=>by simp [ssB,SS]
 | [p]=>by simp [ssB,SS]
 | p::q::r=>by
  rw [ssB,Bool.and_eq_true,Zy (q::r),Rn,decide_eq_true_eq]
  unfold SS
  rw [List.pairwise_cons (a:=p)]
  constructor
  ·rintro ⟨b,c⟩
   refine ⟨fun x hx=>?_,c⟩
   rcases List.mem_cons.1 hx with rfl | hx
   ·exact b
   ·exact Rr b ((List.pairwise_cons.1 c).1 x hx)
  ·rintro ⟨b,c⟩
   exact ⟨b q (by simp),c⟩
def bare (i s t l f:Bool) (v:Vl):Bool:=(i||decide (v.int=0))&&(s||decide (v.scale=0))&&(t||Eb v.text ⟨#[]⟩)&&(l||decide (v.list.length=0))&&(f||decide (v.fields.length=0))
def AW (v:Vl):Bool :=
 if v.kind=1 then (decide (v.int=0)||decide (v.int=1))&&bare true false false false false v
 else if v.kind=2∨v.kind=6∨v.kind=7 then bare true false false false false v
 else if v.kind=3 then bare true true false false false v
 else if v.kind=4 then Lib.validD v.text.data.toList&&bare false false true false false v
 else if v.kind=5 then bare false false true false false v
 else if v.kind=8 then bare false false false true false v
 else if v.kind=9 then ssB v.fields&&bare false false false false true v
 else if v.kind=10 then decide (v.list.length=1)&&bare false false true true false v
 else bare false false false false false v
theorem Zlq (k:Nat):decide ((k:Int)=0)=decide (k=0):=by rw [decide_eq_decide];omega
theorem Qi (n:Nat) (k i s:Int) (t:ByteArray) (l:List Vl) (f:List (ByteArray × Vl)):CS n (Vl.mk k i s t l f)=some (decide (i=0)&&decide (s=0)&&Eb t ⟨#[]⟩&&decide (l.length=0)&&decide (f.length=0)):=by
 unfold CS
 change some ((((decide (i=0)&&decide (s=0))&&Eb t ⟨#[]⟩)&&decide ((l.length:Int)=0))&&decide ((f.length:Int)=0))=_
 rw [Zlq,Zlq]
theorem SY (n:Nat) (v:Vl) (hl:v.fields.length≤1000000000):∀ (k m j:Nat),v.fields.length≤j+1+k→k<m→EN n v m ((j+1:Nat):Int)=some (ssB (v.fields.drop j)&&bare false false false false true v)
 | k,0,j,_,h=>absurd h (Nat.not_lt_zero _)
 | 0,m+1,j,hj,_=>by
  rw [EN,AC,Ac,Ai (by decide),J2,Qi]
  have:ssB (v.fields.drop j)=true:=by
   match h:v.fields.drop j with
   | []=>rfl
   | [_]=>rfl
   | a::b::r =>
    have:=congrArg List.length h
    simp at this;omega
  rw [this];simp [bare]
 | k+1,m+1,j,hj,hm=>by
  rw [EN,AC]
  by_cases q:j+1<v.fields.length
  ·have d:j<v.fields.length:=by omega
   have e:((j+1:Nat):Int)-1=(j:Int):=by omega
   rw [Ag q,Ah rfl,e,Ah (by unfold BM;omega),AM d,Ae,AM q,Ae,List.drop_eq_getElem_cons d,List.drop_eq_getElem_cons q,ssB]
   cases c:X7 v.fields[j].1 v.fields[j+1].1 with
   | false=>rw [Ah (by rfl)];rfl
   | true =>
    rw [Ai (by decide),Ah (AK (by omega)),Bool.true_and,←List.drop_eq_getElem_cons q]
    exact SY n v hl k m (j+1) (by omega) (by omega)
  ·have:=SY n v hl 0 (m+1) j (by omega) (by omega)
   rw [EN,AC] at this
   exact this
theorem Y0 (n:Nat) (v:Vl) (hn:v.fields.length+1<n) (hl:v.fields.length≤1000000000) (ht:v.text.size≤maxLen):IU n v=some (AW v):=by
 have a:=SY n v hl v.fields.length n 0 (by omega) (by omega)
 rw [List.drop_zero,show ((0+1:Nat):Int)=1 from rfl] at a
 have z:Eb (⟨#[]⟩:ByteArray) ⟨#[]⟩=true:=Cj _
 rw [IU,AW]
 by_cases h1:v.kind=1
 ·rw [Ag h1,Ah rfl,Ah h1,Qi]
  by_cases q0:v.int=0
  ·rw [Ag q0,Bool.not_true,Bool.false_and,Ai (by decide)];simp [bare]
  ·by_cases q1:v.int=1
   ·rw [Ag q1,Af q0,Ai (by decide)];simp [bare]
   ·rw [Af q1,Af q0,Ah (by rfl)];rfl
 rw [Af h1,Ai (by decide),Ai h1]
 by_cases h2:v.kind=2
 ·rw [Ag h2,Ah rfl,Ab,Ej,Ah rfl,Qi];simp [bare]
 rw [Af h2,Ai (by decide)]
 by_cases h6:v.kind=6
 ·rw [Ag h6,Ah rfl,Ab,Ej,Ah rfl,Qi];simp [bare]
 rw [Af h6,Ai (by decide)]
 by_cases h7:v.kind=7
 ·rw [Ag h7,Ab,Ej,Ah rfl,Qi];simp [bare]
 rw [Af h7,Aa,Ej,Ai (by decide)]
 by_cases h3:v.kind=3
 ·rw [Ag h3,Ah rfl,Ah h3,Qi];simp [bare]
 rw [Af h3,Ai (by decide),Ai h3]
 by_cases h4:v.kind=4
 ·rw [Ag h4,Ah rfl,Ah h4,PI,Ah ht,Ae]
  cases Lib.validD v.text.data.toList with
  | false=>rfl
  | true=>rw [Ai (by decide),Qi,z];simp [bare]
 rw [Af h4,Ai (by decide),Ai h4]
 by_cases h5:v.kind=5
 ·rw [Ag h5,Ah rfl,Ah h5,Qi,z];simp [bare]
 rw [Af h5,Ai (by decide),Ai h5]
 by_cases h8:v.kind=8
 ·rw [Ag h8,Ah rfl,Ah h8,Qi];simp [bare]
 rw [Af h8,Ai (by decide),Ai h8]
 by_cases h9:v.kind=9
 ·rw [Ag h9,Ah rfl,Ah h9,a]
 rw [Af h9,Ai (by decide),Ai h9]
 by_cases h10:v.kind=10
 ·rw [Ag h10,Ah rfl,Ah h10]
  by_cases q:v.list.length=1
  ·rw [Ag (show (v.list.length:Int)=1 by omega),Ai (by decide),Qi,z,Ag q];simp [bare]
  ·rw [Af (show ¬ (v.list.length:Int)=1 by omega),Ah (by rfl),Af q];rfl
 ·rw [Af h10,Ai (by decide),Ai h10]
  have:=Qi n v.kind v.int v.scale v.text v.list v.fields
  rw [Vl.eta] at this
  rw [this];simp [bare]
def S9 (l:List (ByteArray × Vl)) (w:ByteArray):Nat:=(l.takeWhile fun q=>decide (E6 q.1 w<0)).length
theorem Zge (l:List (ByteArray × Vl)) (w:ByteArray):S9 l w≤l.length:=(List.takeWhile_sublist _).length_le
theorem Zh4 {p:ByteArray × Vl} {r:List (ByteArray × Vl)} {w:ByteArray}:S9 (p::r) w=if E6 p.1 w<0 then S9 r w+1 else 0:=by
 unfold S9
 by_cases q:E6 p.1 w<0
 ·rw [List.takeWhile_cons_of_pos (by simpa using q),Ah q];rfl
 ·rw [List.takeWhile_cons_of_neg (by simpa using q),Ai q];rfl
theorem Qp (w:ByteArray):∀ (l:List (ByteArray × Vl)),∀ p∈l.take (S9 l w),E6 p.1 w<0
 | [],p,hp=>by simp at hp
 | q::r,p,hp=>by
  rw [Zh4] at hp
  by_cases c:E6 q.1 w<0
  ·rw [Ah c,List.take_succ_cons] at hp
   rcases List.mem_cons.1 hp with rfl | hp
   ·exact c
   ·exact Qp w r p hp
  ·rw [Ai c] at hp;simp at hp
theorem Zfu (l:List (ByteArray × Vl)) (w:ByteArray) (h:S9 l w<l.length):¬ E6 l[S9 l w].1 w<0:=by
 induction l with
 | nil=>simp at h
 | cons p r ih =>
  by_cases q:E6 p.1 w<0
  ·have e:S9 (p::r) w=S9 r w+1:=by unfold S9;rw [List.takeWhile_cons_of_pos (by simpa using q)];rfl
   simp only [e,List.getElem_cons_succ]
   exact ih (by rw [e] at h;simpa using h)
  ·have e:S9 (p::r) w=0:=by unfold S9;rw [List.takeWhile_cons_of_neg (by simpa using q)];rfl
   simp only [e,List.getElem_cons_zero]
   exact q
theorem Rq {l:List (ByteArray × Vl)} {w:ByteArray} {k:Nat} (hk:k≤l.length) (h1:∀ i (h:i<k),E6 (l[i]'(by omega)).1 w<0) (h2:∀ h:k<l.length,¬ E6 l[k].1 w<0):k=S9 l w:=by
 rcases Nat.lt_trichotomy k (S9 l w) with q | q | q
 ·have b:=Zge l w
  have a:l[k]'(by omega)∈l.take (S9 l w):=List.mem_take_iff_getElem.2 ⟨k,by omega,rfl⟩
  exact absurd (Qp w l _ a) (h2 (by omega))
 ·exact q
 ·exact absurd (h1 (S9 l w) q) (Zfu l w (by omega))
def inN (l:List (ByteArray × Vl)) (w:ByteArray):Bool:=l.any fun q=>Eb q.1 w
theorem MF {l:List (ByteArray × Vl)} {w:ByteArray}:inN l w=true↔∃ q∈l,q.1=w:=by
 unfold inN
 rw [List.any_eq_true]
 exact ⟨fun ⟨q,h,e⟩=>⟨q,h,(Db _ _).1 e⟩,fun ⟨q,h,e⟩=>⟨q,h,(Db _ _).2 e⟩⟩
theorem Zkb {l:List (ByteArray × Vl)} (hs:SS l) (w:ByteArray) (h:S9 l w<l.length):decide (E6 l[S9 l w].1 w=0)=inN l w:=by
 have d:=Zfu l w h
 cases q:inN l w with
 | true =>
  obtain ⟨x,b,e⟩:=MF.1 q
  obtain ⟨i,a,rfl⟩:=List.mem_iff_getElem.1 b
  have z:E6 l[i].1 w=0:=(KW _ _).2 e
  rcases Nat.lt_trichotomy i (S9 l w) with c | c | c
  ·have:=Qp w l l[i] (List.mem_take_iff_getElem.2 ⟨i,by omega,rfl⟩)
   omega
  ·subst c;exact Ag z
  ·have:=List.pairwise_iff_getElem.1 hs _ _ h a c
   rw [e] at this
   exact absurd this d
 | false =>
  refine Af fun z=>?_
  have:=MF.2 ⟨_,List.getElem_mem h,(KW _ _).1 z⟩
  rw [this] at q;cases q
theorem Zi6 {l:List (ByteArray × Vl)} (w:ByteArray) (h:S9 l w=l.length):inN l w=false:=by
 cases q:inN l w with
 | false=>rfl
 | true =>
  obtain ⟨x,a,e⟩:=MF.1 q
  have:=Qp w l x (by rw [h,List.take_length];exact a)
  rw [e,JB] at this
  omega
theorem ZgU (n:Nat) (l:List (ByteArray × Vl)) (w:ByteArray) (f:ByteArray × Vl→ByteArray→Option Int) (hf:∀ x,f x w=some (E6 x.1 w)) (hs:SS l) (hl:l.length≤1000000000):∀ (k m lo hi:Nat),hi-lo≤k→lo≤hi→hi≤l.length →
  (∀ i (h:i<lo) (h2:i<l.length),E6 l[i].1 w<0)→(∀ i (h:hi≤i) (h2:i<l.length),¬ E6 l[i].1 w<0)→k<m→Bt n l w f m lo hi=some ((S9 l w:Int),inN l w)
 | k,0,lo,hi,_,_,_,_,_,h=>absurd h (Nat.not_lt_zero _)
 | k,m+1,lo,hi,hk,h1,h2,h3,h4,hm=>by
  rw [Bt,AC]
  by_cases q:lo<hi
  ·have e:(lo:Int)+(hi:Int)=((lo+hi:Nat):Int):=by omega
   have g:((lo+hi:Nat):Int) / 2=(((lo+hi) / 2:Nat):Int):=by omega
   have d:(lo+hi) / 2<l.length:=by omega
   rw [Ag q,Ah rfl,e,Ah (by unfold BM;omega),Ab,Ab,g,Ah (by unfold BM;omega),AM d,Ae,hf,Ae]
   obtain ⟨k,rfl⟩:∃ j,k=j+1:=⟨k-1,by omega⟩
   by_cases c:E6 l[(lo+hi) / 2].1 w<0
   ·rw [Ag c,Ah rfl,Ah (AK (by omega))]
    refine ZgU n l w f hf hs hl k m ((lo+hi) / 2+1) hi (by omega) (by omega) h2 (fun i a b=>?_) h4 (by omega)
    rcases Nat.lt_or_ge i ((lo+hi) / 2) with z | z
    ·exact Rr (List.pairwise_iff_getElem.1 hs i _ b d z) c
    ·obtain rfl:i=(lo+hi) / 2:=by omega
     exact c
   ·rw [Af c,Ai (by decide)]
    refine ZgU n l w f hf hs hl k m lo ((lo+hi) / 2) (by omega) (by omega) (by omega) h3 (fun i a b=>?_) (by omega)
    rcases Nat.lt_or_ge ((lo+hi) / 2) i with z | z
    ·exact fun y=>c (Rr (List.pairwise_iff_getElem.1 hs _ i d b z) y)
    ·obtain rfl:i=(lo+hi) / 2:=by omega
     exact c
  ·obtain rfl:lo=hi:=by omega
   have e:=Rq (l:=l) (w:=w) h2 (fun i a=>h3 i a (by omega)) (fun a=>h4 lo (Nat.le_refl _) a)
   rw [Af q,Ai (by decide),Dq,AC,e]
   by_cases c:S9 l w<l.length
   ·rw [Ag c,Ah rfl,AM c,Ae,hf,Ae,Zkb hs w c]
   ·rw [Af c,Ai (by decide),Zi6 w (by have:=Zge l w;omega)]
theorem ZkX (n:Nat) (l:List (ByteArray × Vl)) (w:ByteArray) (f:ByteArray × Vl→ByteArray→Option Int) (hf:∀ x,f x w=some (E6 x.1 w)) (hs:SS l) (hl:l.length≤1000000000) (hn:l.length<n):DJ n l w f=some ((S9 l w:Int),inN l w) :=
 ZgU n l w f hf hs hl l.length n 0 l.length (by omega) (by omega) (Nat.le_refl _) (fun i h=>by omega) (fun i h a=>by omega) hn
def ZgP (p:TF):Option Vl:=if p.2.2.1=3∧p.2.2.2.2.length=1 then p.2.2.2.2[0]? else none
def RA (l:List (ByteArray × Vl)) (w:ByteArray) (x:Vl):List (ByteArray × Vl):=N8 l (S9 l w:Int) (w,x)
def Qk:List TF→List (ByteArray × Vl)→List (ByteArray × Vl)
 | [],l=>l
 | p::ps,l=>match ZgP p with
  | some x=>if inN l p.2.1=true then Qk ps l else Qk ps (RA l p.2.1 x)
  | none=>Qk ps l
theorem Z9 {l:List (ByteArray × Vl)} (hs:SS l) {w:ByteArray} (h:inN l w=false) (x:Vl):SS (RA l w x):=by
 unfold RA N8
 rw [Int.toNat_natCast]
 have:=ZeG hs (w,x) (fun p a e=>by rw [MF.2 ⟨p,a,e⟩] at h;cases h) (j:=S9 l w) (Qp w l) (fun q=>Zfu l w q)
 simpa using this
theorem Rh (l:List (ByteArray × Vl)) (w:ByteArray) (x:Vl):(RA l w x).Perm ((w,x)::l):=by
 unfold RA N8
 rw [Int.toNat_natCast]
 have:=(List.perm_middle (a:=(w,x)) (l₁:=l.take (S9 l w)) (l₂:=l.drop (S9 l w)))
 rwa [List.take_append_drop] at this
theorem WR (l:List (ByteArray × Vl)) (w:ByteArray) (x:Vl):(RA l w x).length=l.length+1:=(Rh l w x).length_eq
def Ya (v:Vl) (l:List (ByteArray × Vl)):Vl:=Vl.mk v.kind v.int v.scale v.text v.list l
theorem ZbL (rec:Ty→Vl→Option Vl) (n:Nat) (t:Ty) (y:Vl) (hl:t.fields.length≤1000000) (hn:1000000000<n):∀ (k m i:Nat) (l:List (ByteArray × Vl)),i+k=t.fields.length→k<m→SS l→l.length+k≤100000000 →
  BU rec n t y m i l=some (Ya y (Qk (t.fields.drop i) l))
 | k,0,i,l,_,h,_,_=>absurd h (Nat.not_lt_zero _)
 | 0,m+1,i,l,hi,_,_,_=>by
  rw [BU,AC,Ac,Ai (by decide),List.drop_eq_nil_of_le (by omega)];rfl
 | k+1,m+1,i,l,hi,hm,hs,hk=>by
  have d:i<t.fields.length:=by omega
  have go:∀ e,SS e→e.length+k≤100000000→EC rec n (BU rec n t y m) i e=some (Ya y (Qk (t.fields.drop (i+1)) e)):=fun e a b=>by
   rw [EC,Ah (AK (by omega))]
   exact ZbL rec n t y hl hn k m (i+1) e (by omega) (by omega) a b
  rw [BU,AC,Ag d,Ah rfl,AM d,Ae,List.drop_eq_getElem_cons d,Qk,ZgP]
  by_cases c:t.fields[i].2.2.1=3∧t.fields[i].2.2.2.2.length=1
  ·have f:0<t.fields[i].2.2.2.2.length:=by omega
   rw [Ag c.1,Ag (show (t.fields[i].2.2.2.2.length:Int)=1 by omega),Ai (by decide),ZkX n l _ _ (fun x=>rfl) hs (by omega) (by omega),Ae,Ah c,List.getElem?_eq_getElem f]
   simp only
   cases q:inN l t.fields[i].2.1 with
   | true=>rw [Ai (by decide),Ah rfl];exact go l hs (by omega)
   | false =>
    have g:=Zge l t.fields[i].2.1
    rw [Ah (by rfl),Ai (by decide),show B1 t.fields[i].2.2.2.2 0=some t.fields[i].2.2.2.2[0] from AM (k:=0) f,Ae,Ab]
    exact go _ (Z9 hs q _) (by have:=WR l t.fields[i].2.1 t.fields[i].2.2.2.2[0];rw [RA] at this;rw [this];omega)
  ·rw [Ah,Ai c]
   ·exact go l hs (by omega)
   ·rw [Bool.or_eq_true,Bool.not_eq_true',Bool.not_eq_true',decide_eq_false_iff_not,decide_eq_false_iff_not];omega
def Ey (f:Ty→Vl→Vl) (t:Ty) (v:Vl):Vl :=
 if t.kind=8 then (match t.elem with | [x]=>Vl.mk v.kind v.int v.scale v.text (v.list.map (f x)) v.fields | _=>v)
 else if t.kind=9 then Ya v (v.fields.map fun q=>match A7 t q.1 with | some p=>(q.1,f p.2.2.2.1 q.2) | none=>q)
 else if t.kind=10 then (match A7 t v.text,v.list with | some p,x::_=>Vl.mk v.kind v.int v.scale v.text [f p.2.2.2.1 x] v.fields | _,_=>v)
 else v
def C4:Nat→Ty→Vl→Vl
 | 0,_,v=>v
 | d+1,t,v=>if v.kind≠t.kind∨AW v=false then v else if t.kind=9 then Ya (Ey (C4 d) t v) (Qk t.fields (Ey (C4 d) t v).fields) else Ey (C4 d) t v
theorem Zft (n:Nat) (t:Ty) (v:Vl) (a2:Ty→Vl→Option Vl) (f:Ty→Vl→Vl) (hf:∀ q∈v.fields,∀ p,A7 t q.1=some p→a2 p.2.2.2.1 q.2=some (f p.2.2.2.1 q.2)) (ht:t.fields.length≤1000000000) (htn:t.fields.length<n) (hl:v.fields.length≤1000000000):∀ (k m i:Nat),i+k=v.fields.length→k<m →
  Ed n t v a2 m i ((v.fields.take i).map fun q=>match A7 t q.1 with | some p=>(q.1,f p.2.2.2.1 q.2) | none=>q)=some (Ya v (v.fields.map fun q=>match A7 t q.1 with | some p=>(q.1,f p.2.2.2.1 q.2) | none=>q))
 | k,0,i,_,h=>absurd h (Nat.not_lt_zero _)
 | 0,m+1,i,hi,_=>by
  rw [Ed,AC,Ac,Ai (by decide),List.take_of_length_le (by omega)];rfl
 | k+1,m+1,i,hi,hm=>by
  have a:i<v.fields.length:=by omega
  have ih:=Zft n t v a2 f hf ht htn hl k m (i+1) (by omega) (by omega)
  rw [List.take_succ_eq_append_getElem a,List.map_append,List.map_singleton] at ih
  rw [Ed,AC,Ag a,Ah rfl,AM a,Ae,Mc n t _ ht htn,Ae]
  cases c:A7 t v.fields[i].1 with
  | none =>
   rw [c] at ih
   rw [Ai (by decide),GI,Ah (by rw [List.length_map,List.length_take];omega),Ah (AK (by omega))]
   exact ih
  | some p =>
   rw [c] at ih
   have e:=hf _ (List.getElem_mem a) p c
   simp only [Option.isSome_some,if_true,Option.getD_some,e,Ae]
   rw [GI,Ah (by rw [List.length_map,List.length_take];omega),Ah (AK (by omega))]
   exact ih
theorem Zjq (n:Nat) (t x:Ty) (v:Vl) (a2:Ty→Vl→Option Vl) (f:Ty→Vl→Vl) (he:t.elem=[x]) (hf:∀ u∈v.list,a2 x u=some (f x u)) (hl:v.list.length≤1000000000):∀ (k m i:Nat),i+k=v.list.length→k<m →
  Gl n t v a2 m i ((v.list.take i).map (f x))=some (Vl.mk v.kind v.int v.scale v.text (v.list.map (f x)) v.fields)
 | k,0,i,_,h=>absurd h (Nat.not_lt_zero _)
 | 0,m+1,i,hi,_=>by
  rw [Gl,AC,Ac,Ai (by decide),List.take_of_length_le (by omega)];rfl
 | k+1,m+1,i,hi,hm=>by
  have a:i<v.list.length:=by omega
  have ih:=Zjq n t x v a2 f he hf hl k m (i+1) (by omega) (by omega)
  rw [List.take_succ_eq_append_getElem a,List.map_append,List.map_singleton] at ih
  rw [Gl,AC,Ag a,Ah rfl,AM a,Ae,he,show B1 [x] 0=some x from rfl,Ae,hf _ (List.getElem_mem a),Ae,Ah (by rw [List.length_map,List.length_take];omega),Ah (AK (by omega))]
  exact ih
theorem Ky {v:Vl} (h:AW v=true) (hk:v.kind=9):SS v.fields:=by
 rw [AW,Aa,Aa,Aa,Aa,Aa,Aa,Ah hk,Bool.and_eq_true] at h
 exact (Zy _).1 h.1
theorem Nq {v:Vl} (h:AW v=true) (hk:v.kind=10):v.list.length=1:=by
 rw [AW,Aa,Aa,Aa,Aa,Aa,Aa,Aa,Ah hk,Bool.and_eq_true,decide_eq_true_eq] at h
 exact h.1
theorem Zfh {l m:List (ByteArray × Vl)} (h:l.map Prod.fst=m.map Prod.fst) (hs:SS m):SS l:=by
 have c:∀ l:List (ByteArray × Vl),SS l↔(l.map Prod.fst).Pairwise fun a b=>E6 a b<0:=fun l=>by unfold SS;rw [List.pairwise_map]
 rw [c] at hs ⊢
 rwa [h]
theorem Vf (f:Ty→Vl→Vl) (t:Ty) (v:Vl) (hk:t.kind=9):(Ey f t v).fields.map Prod.fst=v.fields.map Prod.fst:=by
 rw [Ey,Aa,Ah hk]
 simp only [Ya,Vl.fields,List.map_map]
 refine List.map_congr_left fun q _=>?_
 simp only [Function.comp]
 cases A7 t q.1<;>rfl
theorem N1:∀ (d n:Nat) (t:Ty) (v:Vl),t.depth≤d→t.size≤200→v.size≤1048576→v.ok→2000000000+d<n→Dz n t v=some (C4 d t v)
 | 0,n,t,v,h,_,_,_,_=>by have:=t.depth_eq;omega
 | d+1,0,t,v,_,_,_,_,h=>absurd h (by omega)
 | d+1,n+1,t,v,hd,ht,hv,ho,hn=>by
  have J:=t.lens
  have H:=IM v
  obtain ⟨D,s,E⟩:=v.ok_eq.1 ho
  rw [Dz,J9,C4]
  by_cases hk:v.kind=t.kind
  rotate_left
  ·rw [Af hk,Ah (by rfl),Ah (.inl hk)]
  rw [Ag hk,Ai (by decide),Y0 n v (by omega) (by omega) (Xu D),Ae]
  cases hf:AW v with
  | false=>rw [Ah (by rfl),Ah (.inr rfl)]
  | true =>
   rw [Ai (by decide),Ai (show ¬ (v.kind≠t.kind∨true=false) by simp [hk])]
   by_cases k9:t.kind=9
   ·rw [Ag k9,Ah rfl,Ah k9]
    have e:=Zft n t v (fun m k=>Dz n m k) (C4 d) (fun q C p j=>N1 d n _ _ (by have:=Ty.depth_field (BC j).1;omega) (by have:=t.field_size p (BC j).1;omega) (by have:=v.field_size q C;omega) (E q C).2 (by omega)) (by omega) (by omega) (by omega) v.fields.length n 0 (by omega) (by omega)
    have F:Ya v (v.fields.map fun q=>match A7 t q.1 with | some p=>(q.1,C4 d p.2.2.2.1 q.2) | none=>q)=Ey (C4 d) t v:=by rw [Ey,Aa,Ah k9]
    rw [List.take_zero,List.map_nil,F] at e
    have l:SS (Ey (C4 d) t v).fields:=Zfh (Vf _ t v k9) (Ky hf (by omega))
    have z:(Ey (C4 d) t v).fields.length=v.fields.length:=by have:=congrArg List.length (Vf (C4 d) t v k9);simpa using this
    have:=ZbL (Dz n) n t (Ey (C4 d) t v) (by omega) (by omega) t.fields.length n 0 (Ey (C4 d) t v).fields (by omega) (by omega) l (by omega)
    rw [MB,Ah k9]
    rw [List.drop_zero] at this
    refine Eq.trans ?_ this
    exact congrArg (fun o=>Option.bind o fun i=>BU (Dz n) n t i n 0 i.fields) e
   ·rw [Af k9,Ai (by decide),Ai k9,Ey,N3]
    by_cases k8:t.kind=8
    ·rw [Ah k8,Ag k8,Bool.true_and]
     match he:t.elem with
     | [x] =>
      have f:x∈t.elem:=by rw [he];simp
      have e:=Zjq n t x v (fun m k=>Dz n m k) (C4 d) he (fun u w=>N1 d n x u (by have:=Ty.depth_elem f;omega) (by have:=t.elem_size x f;omega) (by have:=v.list_size u w;omega) (s u w) (by omega)) (by omega) v.list.length n 0 (by omega) (by omega)
      rw [List.take_zero,List.map_nil] at e
      rw [Ah (by rfl)]
      exact congrArg (fun o=>Option.bind o fun y=>some y) e
     | []=>rw [Ai (by decide),Af k9,Ai (by decide),Af (show ¬ t.kind=10 by omega),Ai (by decide),DI,Ae,Vl.eta]
     | a::b::r=>rw [Ai (by rw [decide_eq_true_eq];simp;omega),Af k9,Ai (by decide),Af (show ¬ t.kind=10 by omega),Ai (by decide),DI,Ae,Vl.eta]
    rw [Ai k8,Ai k9,Af k8,Bool.false_and,Ai (by decide),Af k9,Ai (by decide)]
    by_cases k10:t.kind=10
    ·have G:=Nq hf (by omega)
     obtain ⟨x,f⟩:=List.length_eq_one_iff.1 G
     have g:x∈v.list:=by rw [f];simp
     rw [Ag k10,Ah rfl,Ah k10,Mc n t v.text (by omega) (by omega),Ae,f]
     cases c:A7 t v.text with
     | none=>rw [Ai (by decide),DI,Ae,←f,Vl.eta]
     | some p =>
      have j:=(BC c).1
      have e:=N1 d n p.2.2.2.1 x (by have:=Ty.depth_field j;omega) (by have:=t.field_size p j;omega) (by have:=v.list_size x g;omega) (s x g) (by omega)
      rw [Ah (by rfl),show B1 [x] 0=some x from rfl,Ae]
      simp only [Option.getD_some,e,Ae,DI]
    ·rw [Af k10,Ai (by decide),Ai k10,DI,Ae,Vl.eta]
inductive Vl.Nar:Vl→Prop
 | mk (v:Vl) (hl:v.list.length≤100000000) (hf:v.fields.length≤100000000) (ht:v.text.size≤1048576) (h1:∀ x∈v.list,Vl.Nar x) (h2:∀ p∈v.fields,p.1.size≤1048576) (h3:∀ p∈v.fields,Vl.Nar p.2):Vl.Nar v
theorem Vl.Nar.inv {v:Vl} (h:v.Nar):v.list.length≤100000000∧v.fields.length≤100000000∧v.text.size≤1048576∧(∀ x∈v.list,Vl.Nar x)∧∀ p∈v.fields,p.1.size≤1048576∧Vl.Nar p.2:=by
 cases h with
 | mk _ a b c d e f=>exact ⟨a,b,c,d,fun p g=>⟨e p g,f p g⟩⟩
theorem Vl.Nar.wide {v:Vl} (h:v.Nar):v.wide=true:=by
 induction h with
 | mk v a b c d e f i1 i2=>exact v.wide_iff.2 ⟨by omega,by omega,i1,i2⟩
theorem Vl.Nar.ok {v:Vl} (h:v.Nar):v.ok:=by
 induction h with
 | mk v a b c d e f i1 i2=>exact v.ok_eq.2 ⟨c,i1,fun p g=>⟨e p g,i2 p g⟩⟩
theorem Pv:∀ (k:Nat) (v:Vl),v.size≤k→v.size≤1048576→v.ok→v.Nar
 | 0,v,h,_,_=>by have:=v.size_pos;omega
 | k+1,v,h,hs,ho=>by
  obtain ⟨d,e,b⟩:=v.ok_eq.1 ho
  have f:=IM v
  exact .mk v (by omega) (by omega) d (fun x c=>by have:=v.list_size x c;exact Pv k x (by omega) (by omega) (e x c)) (fun p a=>(b p a).1) (fun p a=>by have:=v.field_size p a;exact Pv k p.2 (by omega) (by omega) (b p a).2)
theorem Vl.Nar.list {v x:Vl} (h:v.Nar) (hx:x∈v.list):x.Nar:=h.inv.2.2.2.1 x hx
theorem Vl.Nar.field {v:Vl} {p:ByteArray × Vl} (h:v.Nar) (hp:p∈v.fields):p.2.Nar:=(h.inv.2.2.2.2 p hp).2
theorem Vl.depth_list {v x:Vl} (hx:x∈v.list):x.depth<v.depth:=by
 have e:=v.depth_eq
 have:=(Ie v.list _).1 (Nat.le_refl _) x hx
 omega
theorem Vl.depth_fld {v:Vl} {p:ByteArray × Vl} (hp:p∈v.fields):p.2.depth<v.depth:=by
 have e:=v.depth_eq
 have:=(Jn v.fields _).1 (Nat.le_refl _) p hp
 omega
theorem JP:∀ (n:Nat) (v:Vl),v.Nar→v.depth+1000000000<n→Bm n v=some v
 | 0,v,_,h=>absurd h (Nat.not_lt_zero _)
 | n+1,v,hv,h=>by
  obtain ⟨d,c,_,_,_⟩:=hv.inv
  rw [Bm,Ox]
  have:=UJ (Bm n) n v ⟨by omega,by omega⟩ (by omega) ⟨fun x a=>JP n x (hv.list a) (by have:=Vl.depth_list a;omega),fun p b=>JP n p.2 (hv.field b) (by have:=Vl.depth_fld b;omega)⟩ v.list.length n 0 (by omega) (by omega)
  rw [List.take_zero] at this
  exact this
def Du:Nat→Ty→Vl→Bool
 | 0,_,_=>false
 | d+1,t,v =>
  if (t.kind<1∨10<t.kind)∨v.kind≠t.kind∨AW v=false then false
  else if t.kind=2∨t.kind=6∨t.kind=7 then On v.int t
  else if t.kind=3 then decide (v.scale=t.scale)&&On v.int t
  else if t.kind=4 then Es v.text t
  else if t.kind=5 then On v.text.size t
  else if t.kind=8 then On v.list.length t&&v.list.all fun u=>(match t.elem with | [x]=>Du d x u | _=>false)
  else if t.kind=9 then (t.fields.all fun p=>match DG v p.2.1 with | some y=>Du d p.2.2.2.1 y | none=>decide (p.2.2.1=2))&&v.fields.all fun q=>(A7 t q.1).isSome
  else if t.kind=10 then (match A7 t v.text,v.list with | some p,x::_=>Du d p.2.2.2.1 x | _,_=>false)
  else true
theorem Ux (b:Bool) (p:ByteArray) (c:Int):BI (!b) b p c=some (true,false):=by cases b<;>rfl
theorem WL (b:Bool) (t:Ty) (p:ByteArray) (k:Int):B5 (!b) b t p k=some (!(b&&On k t),b&&On k t):=by
 rw [B5,Ux]
 by_cases h1:k<t.min
 ·rw [Ag h1,Ah (by rfl)]
  rw [On,Ac];simp
 ·by_cases h2:t.max<k
  ·rw [Ag h2,Ah (by simp)]
   rw [On,Af (show ¬ k≤t.max by omega)];simp
  ·rw [Af h1,Af h2,Ai (by decide),On,Ag (show t.min≤k by omega),Ag (show k≤t.max by omega)];simp
theorem Zko (l:List UInt8):(⟨l.toArray⟩:ByteArray).size=l.length:=by simp [ByteArray.size]
theorem LP (a b:ByteArray):(a++b).size=a.size+b.size:=ByteArray.size_append
theorem Za6 (p w:ByteArray) (hp:p.size≤1000000000000000) (hw:w.size≤1048576):∃ s,Ib p w=some s∧s.size≤p.size+1048577:=by
 rw [Ib]
 cases Eb p ⟨#[]⟩ with
 | true=>exact ⟨w,rfl,by omega⟩
 | false =>
  have e:(⟨#[46]⟩:ByteArray).size=1:=rfl
  rw [Ai (by decide),Ab,Ah (by rw [LP];omega)]
  exact ⟨_,rfl,by rw [LP,LP];omega⟩
theorem Za4 (rec:Bool→Bool→Ty→Vl→ByteArray→Option (Bool × Bool)) (n:Nat) (t:Ty) (v:Vl) (p:ByteArray) (g:Ty→Vl→Bool) (hp:p.size≤1000000000000000) (hl:v.list.length≤1000000000)
  (hr:∀ x,t.elem=[x]→∀ u∈v.list,∀ (b:Bool) (s:ByteArray),s.size≤p.size+1048577→rec (!b) b x u s=some (!(b&&g x u),b&&g x u)):∀ (k m i:Nat) (b:Bool),i+k=v.list.length→k<m →
  BQ rec n t v p m i (!b) b=some (!(b&&(v.list.drop i).all fun u=>(match t.elem with | [x]=>g x u | _=>false)),b&&(v.list.drop i).all fun u=>(match t.elem with | [x]=>g x u | _=>false))
 | k,0,i,b,_,h=>absurd h (Nat.not_lt_zero _)
 | 0,m+1,i,b,hi,_=>by
  rw [BQ,AC,Ac,Ai (by decide),List.drop_eq_nil_of_le (by omega),List.all_nil,Bool.and_true]
 | k+1,m+1,i,b,hi,hm=>by
  have d:i<v.list.length:=by omega
  have ih:=fun b=>Za4 rec n t v p g hp hl hr k m (i+1) b (by omega) (by omega)
  have l:(⟨#[91]⟩:ByteArray).size=1:=rfl
  have f:(⟨#[93]⟩:ByteArray).size=1:=rfl
  have e:=Lib.itoa_length_le (i:Int) (by omega) (by omega)
  have j:(⟨(Lib.itoa i).toArray⟩:ByteArray).size=(Lib.itoa i).length:=Zko _
  rw [BQ,AC,Ag d,Ah rfl,AM d,Ae,Ab,Ah (by unfold BM;omega),Ah (by rw [LP];omega),Ah (by rw [LP,LP];omega),List.drop_eq_getElem_cons d,List.all_cons]
  match he:t.elem with
  | [x] =>
   have:=hr x he _ (List.getElem_mem d) b (((p++(⟨#[91]⟩:ByteArray))++(⟨(Lib.itoa i).toArray⟩:ByteArray))++(⟨#[93]⟩:ByteArray)) (by rw [LP,LP,LP];omega)
   have ih:=ih (b&&g x v.list[i])
   rw [he] at ih
   rw [Ah (by rfl),show B1 [x] 0=some x from rfl,Ae,this,Ae,Dk,Ah (AK (by omega))]
   simp only [Bool.and_assoc] at ih ⊢
   exact ih
  | [] =>
   have ih:=ih false
   rw [he] at ih
   rw [Ai (by decide),Ux,Ae,Dk,Ah (AK (by omega)),Bool.false_and,Bool.and_false]
   exact ih
  | a::c::r =>
   have ih:=ih false
   rw [he] at ih
   rw [Ai (by rw [decide_eq_true_eq];simp;omega),Ux,Ae,Dk,Ah (AK (by omega)),Bool.false_and,Bool.and_false]
   exact ih
theorem ZdK (rec:Bool→Bool→Ty→Vl→ByteArray→Option (Bool × Bool)) (n:Nat) (t:Ty) (v:Vl) (p:ByteArray) (hp:p.size≤1000000000000000) (ht:t.fields.length≤1000000000) (htn:t.fields.length<n) (hl:v.fields.length≤1000000000) (hv:∀ q∈v.fields,q.1.size≤1048576):∀ (k m i:Nat) (b:Bool),i+k=v.fields.length→k<m →
  BO rec n t v p m i (!b) b=some (!(b&&(v.fields.drop i).all fun q=>(A7 t q.1).isSome),b&&(v.fields.drop i).all fun q=>(A7 t q.1).isSome)
 | k,0,i,b,_,h=>absurd h (Nat.not_lt_zero _)
 | 0,m+1,i,b,hi,_=>by
  rw [BO,AC,Ac,Ai (by decide),List.drop_eq_nil_of_le (by omega),List.all_nil,Bool.and_true]
 | k+1,m+1,i,b,hi,hm=>by
  have a:i<v.fields.length:=by omega
  have ih:=fun b=>ZdK rec n t v p hp ht htn hl hv k m (i+1) b (by omega) (by omega)
  rw [BO,AC,Ag a,Ah rfl,AM a,Ae,Mc n t _ ht htn,Ae,List.drop_eq_getElem_cons a,List.all_cons]
  cases c:A7 t v.fields[i].1 with
  | none =>
   obtain ⟨s,d,_⟩:=Za6 p v.fields[i].1 hp (hv _ (List.getElem_mem a))
   have ih:=ih false
   rw [Ah (by rfl),d,Ae,Ux,Ae,Dy,Ah (AK (by omega)),Option.isSome_none,Bool.false_and,Bool.and_false]
   exact ih
  | some q =>
   rw [Ai (by simp),Dy,Ah (AK (by omega)),Option.isSome_some,Bool.true_and]
   exact ih b
theorem IC {v y:Vl} {w:ByteArray} (h:DG v w=some y):∃ q∈v.fields,q.1=w∧q.2=y:=by
 rw [DG] at h
 obtain ⟨q,a,b⟩:=Option.map_eq_some_iff.1 h
 exact ⟨q,List.mem_of_find?_eq_some a,(Db _ _).1 (List.find?_some (p:=fun q:ByteArray × Vl=>Eb q.1 w) a),b⟩
theorem Zkx (rec:Bool→Bool→Ty→Vl→ByteArray→Option (Bool × Bool)) (n:Nat) (t:Ty) (v:Vl) (p:ByteArray) (g:Ty→Vl→Bool) (hk:v.kind=9) (hc:∀ q∈v.fields,Bm n q.2=some q.2) (hs:v.fields.length<n) (hp:p.size≤1000000000000000) (ht:t.fields.length≤1000000000) (htn:t.fields.length<n) (hl:v.fields.length≤1000000000) (hv:∀ q∈v.fields,q.1.size≤1048576) (hn:∀ q∈t.fields,q.2.1.size≤1048576)
  (hr:∀ q∈t.fields,∀ y,DG v q.2.1=some y→∀ (b:Bool) (s:ByteArray),s.size≤p.size+1048577→rec (!b) b q.2.2.2.1 y s=some (!(b&&g q.2.2.2.1 y),b&&g q.2.2.2.1 y)):∀ (k m i:Nat) (b:Bool),i+k=t.fields.length→k<m →
  BG rec n t v p m i (!b) b=some (!(b&&(((t.fields.drop i).all fun q=>match DG v q.2.1 with | some y=>g q.2.2.2.1 y | none=>decide (q.2.2.1=2))&&v.fields.all fun q=>(A7 t q.1).isSome)),b&&(((t.fields.drop i).all fun q=>match DG v q.2.1 with | some y=>g q.2.2.2.1 y | none=>decide (q.2.2.1=2))&&v.fields.all fun q=>(A7 t q.1).isSome)):=by
 intro k
 induction k with
 | zero =>
  intro m i b r o
  obtain ⟨m,rfl⟩:∃ q,m=q+1:=⟨m-1,by omega⟩
  have:=ZdK rec n t v p hp ht htn hl hv v.fields.length n 0 b (by omega) (by omega)
  rw [List.drop_zero] at this
  rw [BG,AC,Ac,Ai (by decide),Gi,List.drop_eq_nil_of_le (by omega),List.all_nil,Bool.true_and]
  exact this
 | succ k ih =>
  intro m i b r o
  obtain ⟨m,rfl⟩:∃ q,m=q+1:=⟨m-1,by omega⟩
  have d:i<t.fields.length:=by omega
  have f:=List.getElem_mem d
  have ih:=fun b=>ih m (i+1) b (by omega) (by omega)
  obtain ⟨s,h,l⟩:=Za6 p t.fields[i].2.1 hp (hn _ f)
  rw [BG,AC,Ag d,Ah rfl,AM d,Ae,ZbB n v _ hk hl hs hc,Ae,List.drop_eq_getElem_cons d,List.all_cons]
  cases c:DG v t.fields[i].2.1 with
  | some y =>
   have e:=hr _ f y c b s l
   have ih:=ih (b&&g t.fields[i].2.2.2.1 y)
   have j:∀ a g x y:Bool,(a&&g&&(x&&y))=(a&&(g&&x&&y)):=by decide
   rw [j] at ih
   rw [Ah Option.isSome_some,h,Ae,Option.getD_some,e,Ae,Cd,Ah (AK (by omega))]
   exact ih
  | none =>
   rw [Ai (by simp)]
   by_cases q:t.fields[i].2.2.1=2
   ·rw [Ag q,Ai (by decide),Cd,Ah (AK (by omega))]
    simp only [Bool.true_and]
    exact ih b
   ·have ih:=ih false
    rw [Af q,Ah (by rfl),h,Ae,Ux,Ae,Cd,Ah (AK (by omega))]
    simp only [Bool.false_and,Bool.and_false] at ih ⊢
    exact ih
theorem Tc:∀ (d n:Nat) (t:Ty) (v:Vl) (p:ByteArray) (b:Bool),t.depth≤d→t.size≤200→t.ok→v.Nar→v.depth+1000000000<n→2000000000+d<n→p.size+d*2000000≤100000000000000→CY n (!b) b t v p=some (!(b&&Du d t v),b&&Du d t v)
 | 0,n,t,v,p,b,h,_,_,_,_,_,_=>by have:=t.depth_eq;omega
 | d+1,0,t,v,p,b,_,_,_,_,_,h,_=>absurd h (by omega)
 | d+1,n+1,t,v,p,b,hd,ht,hto,hv,hvs,hn,hp=>by
  have Q:=t.lens
  have K:=IM v
  obtain ⟨V,N,G,D,w⟩:=hv.inv
  obtain ⟨J,Y,H,r⟩:=t.ok_eq.1 hto
  rw [CY,HW,Du]
  cases b with
  | false=>rw [Ah (by rfl)];rfl
  | true =>
   rw [Ai (by decide),Bool.true_and]
   have a:∀ c,(BI (!true) true p c).bind (fun y=>some (y.1,y.2))=some (!false,false):=fun c=>by rw [Ux];rfl
   by_cases c:(t.kind<1∨10<t.kind)∨v.kind≠t.kind
   ·rw [Ah (by simp only [Bool.or_eq_true,decide_eq_true_eq,Bool.not_eq_true',decide_eq_false_iff_not];exact c),Ah (by rcases c with c | c;exact .inl c;exact .inr (.inl c))]
    exact a 1
   rw [Ai (by simp only [Bool.or_eq_true,decide_eq_true_eq,Bool.not_eq_true',decide_eq_false_iff_not];exact c),Y0 n v (by omega) (by omega) (Xu G),Ae]
   cases hf:AW v with
   | false=>rw [Ah (by rfl),Ah (.inr (.inr rfl))];exact a 8
   | true =>
    have O:v.kind=t.kind:=by
     by_cases q:v.kind=t.kind
     ·exact q
     ·exact absurd (.inr q) c
    have g:∀ k,(B5 (!true) true t p k).bind (fun y=>some (y.1,y.2))=some (!On k t,On k t):=fun k=>by rw [WL];rfl
    rw [Ai (by decide),Ai (show ¬ ((t.kind<1∨10<t.kind)∨v.kind≠t.kind∨true=false) by rintro (q | q | q);exact c (.inl q);exact c (.inr q);cases q)]
    by_cases k2:t.kind=2
    ·rw [Ag k2,Ah rfl,Ah (.inl k2),Ce,Ah rfl];exact g v.int
    rw [Af k2,Ai (by decide)]
    by_cases k6:t.kind=6
    ·rw [Ag k6,Ah rfl,Ah (.inr (.inl k6)),Ce,Ah rfl];exact g v.int
    rw [Af k6,Ai (by decide)]
    by_cases k7:t.kind=7
    ·rw [Ag k7,Ah (.inr (.inr k7)),Ce,Ah rfl];exact g v.int
    rw [Af k7,Aa,Ce,Ai (by decide)]
    by_cases k3:t.kind=3
    ·rw [Ag k3,Ah rfl,Ah k3]
     by_cases q:v.scale=t.scale
     ·rw [Ag q,Ai (by decide),Bool.true_and];exact g v.int
     ·rw [Af q,Ah (by rfl),Bool.false_and];exact a 3
    rw [Af k3,Ai (by decide),Ai k3]
    by_cases k4:t.kind=4
    ·rw [Ag k4,Ah rfl,Ah k4,Dm,Ah rfl,Ag k4,Es]
     by_cases q:t.words=[]
     ·rw [Ah q,q,Ai (by decide)];exact g v.text.size
     ·have U:0<t.words.length:=List.length_pos_iff.2 q
      rw [Ai q,Ah (by simp only [Bool.true_and,decide_eq_true_eq];omega),Ld n _ t (by omega) (by omega),Ae]
      cases t.words.any fun x=>Eb x v.text with
      | true=>rfl
      | false=>rw [Ah (by rfl)];exact a 4
    rw [Af k4,Ai (by decide),Ai k4]
    by_cases k5:t.kind=5
    ·rw [Ag k5,Ah k5,Dm,Ah rfl,Af k4,Bool.false_and,Ai (by decide)];exact g v.text.size
    rw [Af k5,Ai k5,Dm,Ai (by decide)]
    by_cases k8:t.kind=8
    ·rw [Ag k8,Ah rfl,Ah k8]
     have e:=Za4 (CY n) n t v p (Du d) (by omega) (by omega) (fun x m u E b s hs=>by
      have j:x∈t.elem:=by rw [m];simp
      exact Tc d n x u s b (by have:=Ty.depth_elem j;omega) (by have:=t.elem_size x j;omega) (H x j) (D u E) (by have:=Vl.depth_list E;omega) (by omega) (by omega)) v.list.length n 0 (On v.list.length t) (by omega) (by omega)
     rw [List.drop_zero] at e
     refine Eq.trans ?_ e
     exact congrArg (fun o=>Option.bind o fun y46:Bool × Bool=>BQ (CY n) n t v p n 0 y46.1 y46.2) (WL true t p v.list.length)
    rw [Af k8,Ai (by decide),Ai k8]
    by_cases k9:t.kind=9
    ·rw [Ag k9,Ah rfl,Ah k9]
     have e:=Zkx (CY n) n t v p (Du d) (by omega) (fun q i=>JP n q.2 (w q i).2 (by have:=Vl.depth_fld i;omega)) (by omega) (by omega) (by omega) (by omega) (by omega) (fun q i=>(w q i).1) (fun q i=>(r q i).1) (fun q i y F b s hs=>by
       obtain ⟨z,C,_,rfl⟩:=IC F
       exact Tc d n _ _ s b (by have:=Ty.depth_field i;omega) (by have:=t.field_size q i;omega) (r q i).2.1 (w z C).2 (by have:=Vl.depth_fld C;omega) (by omega) (by omega)) t.fields.length n 0 true (by omega) (by omega)
     rw [List.drop_zero,Bool.true_and] at e
     exact congrArg (fun o=>Option.bind o fun y70:Bool × Bool=>some (y70.1,y70.2)) e
    rw [Af k9,Ai (by decide),Ai k9]
    by_cases k10:t.kind=10
    ·obtain ⟨x,m⟩:=List.length_eq_one_iff.1 (Nq hf (by omega))
     have l:x∈v.list:=by rw [m];simp
     have Z:(⟨#[63]⟩:ByteArray).size=1:=rfl
     rw [Ag k10,Ah rfl,Ah k10,Mc n t v.text (by omega) (by omega),Ae,m]
     cases q:A7 t v.text with
     | none=>rw [Ai (by decide)];exact a 7
     | some f =>
      have j:=(BC q).1
      have e:=Tc d n f.2.2.2.1 x ((p++(⟨#[63]⟩:ByteArray))++v.text) true (by have:=Ty.depth_field j;omega) (by have:=t.field_size f j;omega) (r f j).2.1 (D x l) (by have:=Vl.depth_list l;omega) (by omega) (by rw [LP,LP];omega)
      rw [Ah (by rfl),show B1 [x] 0=some x from rfl,Ae,Ab,Ah (by rw [LP];omega)]
      rw [Bool.true_and] at e
      exact congrArg (fun o=>Option.bind o fun y80:Bool × Bool=>some (y80.1,y80.2)) e
    ·rw [Af k10,Ai (by decide),Ai k10]
theorem Zdl (n d:Nat) (t:Ty) (v:Vl) (hd:t.depth≤d) (hdd:d≤100) (ht:t.size≤200) (hto:t.ok) (hv:v.Nar) (hvs:v.depth+1000000000<n) (hn:2000000000+d<n):KO n t v=some (Du d t v):=by
 rw [KO]
 have:=Tc d n t v ⟨#[]⟩ true hd ht hto hv hvs hn (by have:(⟨#[]⟩:ByteArray).size=0:=rfl;omega)
 rw [Bool.true_and] at this
 exact congrArg (fun o=>Option.bind o fun y5:Bool × Bool=>some y5.2) this
theorem ZdV (n:Nat) (v:Vl) (hs:v.fields.length≤1000000000) (hr:∀ p∈v.fields,Bm n p.2=some p.2) (b:List Vl):∀ (k m i:Nat),i+k=v.fields.length→k<m→Hj n v m i b (v.fields.take i)=some (Vl.mk v.kind v.int v.scale v.text b v.fields)
 | k,0,i,_,h=>absurd h (Nat.not_lt_zero _)
 | 0,m+1,i,hi,_=>by
  rw [Hj,AC,Ac]
  simp only [Bool.false_eq_true,if_false,L9]
  rw [List.take_of_length_le (by omega)]
 | k+1,m+1,i,hi,hm=>by
  have a:i<v.fields.length:=by omega
  rw [Hj,AC,Ag a]
  simp only [if_true,AM a,Ae,hr _ (List.getElem_mem a)]
  rw [Ah (by rw [List.length_take];omega),Ah (AK (by omega))]
  have e:v.fields.take i++[(v.fields[i].1,v.fields[i].2)]=v.fields.take (i+1):=by rw [List.take_succ_eq_append_getElem a]
  rw [e]
  exact ZdV n v hs hr b k m (i+1) (by omega) (by omega)
theorem ZgO (n:Nat) (v:Vl) (hs:v.fields.length≤1000000000∧v.list.length≤1000000000) (hn:v.fields.length<n) (hr:(∀ x∈v.list,Bm n x=some x)∧∀ p∈v.fields,Bm n p.2=some p.2):∀ (k m i:Nat),i+k=v.list.length→k<m→IE n v m i (v.list.take i) []=some v
 | k,0,i,_,h=>absurd h (Nat.not_lt_zero _)
 | 0,m+1,i,hi,_=>by
  rw [IE,AC,Ac]
  simp only [Bool.false_eq_true,if_false,N7]
  rw [List.take_of_length_le (by omega)]
  have:=ZdV n v hs.1 hr.2 v.list v.fields.length n 0 (by omega) hn
  rw [List.take_zero] at this
  exact this.trans (by rw [Vl.eta])
 | k+1,m+1,i,hi,hm=>by
  have a:i<v.list.length:=by omega
  rw [IE,AC,Ag a]
  simp only [if_true,AM a,Ae,hr.1 _ (List.getElem_mem a)]
  rw [Ah (by rw [List.length_take];omega),Ah (AK (by omega))]
  have e:v.list.take i++[v.list[i]]=v.list.take (i+1):=by rw [List.take_succ_eq_append_getElem a]
  rw [e]
  exact ZgO n v hs hn hr k m (i+1) (by omega) (by omega)
instance (k:IntKind) (n:Int):Decidable (inK k n):=by cases k<;>exact inferInstanceAs (Decidable (_∧_))
@[go_sem] theorem Zeb (n:Int):XZ (.val (.int .u8 n))=(0≤n∧n≤255):=rfl
def QB (k:Nat):ByteArray:=⟨(List.replicate k (0:UInt8)).toArray⟩
@[go_sem] theorem ZhP (k:Nat):GG (List.replicate k (.val (.int .u8 0)))=QB k:=by
 simp [GG,QB,A6]
@[go_sem] theorem Zji:GG []=(⟨#[]⟩:ByteArray):=rfl
@[go_sem] theorem Zif (k:Nat):(∀ y∈List.replicate k (AV.val (.int .u8 0)),XZ y)↔True:=iff_true_intro fun y a=>by
 rw [List.eq_of_mem_replicate a,Zeb];omega
theorem WS (k:Nat):(QB k).size=k:=by show (List.replicate k (0:UInt8)).toArray.size=k;simp
def Zln:Vl:=Vl.mk 0 0 0 ⟨#[]⟩ [] []
def KC (t:Ty):Int:=if t.min<(if 0<t.max then 0 else t.max) then (if 0<t.max then 0 else t.max) else t.min
def aS (k:Nat):ByteArray:=⟨(List.replicate k (97:UInt8)).toArray⟩
def BR (f:Ty→Vl) (p:TF):Option (ByteArray × Vl):=if p.2.2.1=1 then some (p.2.1,f p.2.2.2.1) else if p.2.2.1=3 then p.2.2.2.2.head?.map fun v=>(p.2.1,v) else none
def Av:Nat→Ty→Vl
 | 0,_=>Zln
 | d+1,t =>
  if t.kind=2∨t.kind=3∨t.kind=6∨t.kind=7 then Vl.mk t.kind (KC t) t.scale ⟨#[]⟩ [] []
  else if t.kind=4 then Vl.mk 4 0 0 (t.words.head?.getD (aS t.min.toNat)) [] []
  else if t.kind=5 then Vl.mk 5 0 0 (QB t.min.toNat) [] []
  else if t.kind=8 then Vl.mk 8 0 0 ⟨#[]⟩ (t.elem.flatMap fun e=>List.replicate t.min.toNat (Av d e)) []
  else if t.kind=10 then Vl.mk 10 0 0 (t.fields.head?.elim ⟨#[]⟩ fun p=>p.2.1) (t.fields.head?.elim [] fun p=>[Av d p.2.2.2.1]) []
  else if t.kind=9 then Vl.mk 9 0 0 ⟨#[]⟩ [] (BS (t.fields.filterMap (BR (Av d))))
  else Vl.mk t.kind 0 0 ⟨#[]⟩ [] []
theorem Vp (d:Nat) (t:Ty):(Av (d+1) t).kind=t.kind:=by
 rw [Av]
 by_cases h1:t.kind=2∨t.kind=3∨t.kind=6∨t.kind=7
 ·rw [Ah h1];rfl
 rw [Ai h1]
 by_cases h2:t.kind=4
 ·rw [Ah h2];exact h2.symm
 rw [Ai h2]
 by_cases h3:t.kind=5
 ·rw [Ah h3];exact h3.symm
 rw [Ai h3]
 by_cases h4:t.kind=8
 ·rw [Ah h4];exact h4.symm
 rw [Ai h4]
 by_cases h5:t.kind=10
 ·rw [Ah h5];exact h5.symm
 rw [Ai h5]
 by_cases h6:t.kind=9
 ·rw [Ah h6];exact h6.symm
 rw [Ai h6];rfl
theorem Ty.Fine.own {d:Nat} {t:Ty} (h:t.Fine d):Tm t=0:=by cases h with | mk _ _ a _ _ _=>exact a
theorem Ty.Fine.good:∀ {d:Nat} {t:Ty},t.Fine d→t.Good
 | 0,t,h=>by cases h
 | d+1,t,h=>by
  cases h with
  | mk _ _ own he hf hd=>exact .mk t own (fun x a=>(he x a).good) fun p b=>(hf p b).good
theorem Ty.Fine.elem {d:Nat} {t x:Ty} (h:t.Fine (d+1)) (hx:x∈t.elem):x.Fine d:=by cases h with | mk _ _ _ a _ _=>exact a x hx
theorem Ty.Fine.field {d:Nat} {t:Ty} {p:TF} (h:t.Fine (d+1)) (hx:p∈t.fields):p.2.2.2.1.Fine d:=by cases h with | mk _ _ _ _ a _=>exact a p hx
theorem Ty.Fine.dfl {d:Nat} {t:Ty} {p:TF} (h:t.Fine (d+1)) (hx:p∈t.fields):∀ v∈p.2.2.2.2,OR v=0∧FB 12 p.2.2.2.1 v=true:=by cases h with | mk _ _ _ _ _ a=>exact a p hx
theorem I2 {v:Vl} (h:v.kind≠0):A3 v=false:=by
 rw [A3,Af h];simp
theorem Wv {v:Vl} (h:v.Good):1≤v.kind∧v.kind≤10:=by
 have:=(KY (GR h)).1
 omega
theorem HM (k:Int):∀ (l b:List TF),J8 k b l=0→(l.map fun p=>p.2.1).Nodup∧∀ p∈l,∀ q∈b,q.2.1≠p.2.1
 | [],_,_=>⟨.nil,by simp⟩
 | x::r,b,h=>by
  rw [J8] at h
  by_cases q:N2 k b x=0
  rotate_left
  ·rw [Ai q] at h;exact absurd h q
  rw [Ah q] at h
  obtain ⟨f,c⟩:=HM k r (b++[x]) h
  have g:∀ y∈b,y.2.1≠x.2.1:=by
   intro y a e
   unfold N2 at q
   by_cases c1:Ft x.2.1=true
   ·rw [Ah c1] at q
    by_cases c2:¬ (1≤x.1∧x.1≤9999)
    ·rw [Ah c2] at q;exact absurd q (by decide)
    rw [Ai c2,Ah (List.any_eq_true.2 ⟨y,a,by rw [Fv,(Db _ _).2 e];simp⟩)] at q
    exact absurd q (by decide)
   ·rw [Ai c1] at q;exact absurd q (by decide)
  refine ⟨List.nodup_cons.2 ⟨fun d=>?_,f⟩,fun p hp y a=>?_⟩
  ·obtain ⟨p,hp,e⟩:=List.mem_map.1 d
   exact c p hp x (by simp) e.symm
  ·rcases List.mem_cons.1 hp with rfl | hp
   ·exact g y a
   ·exact c p hp y (by simp [a])
theorem Lo {f:Ty→Vl} {p:TF} {q:ByteArray × Vl} (h:BR f p=some q):q.1=p.2.1:=by
 unfold BR at h
 by_cases h1:p.2.2.1=1
 ·rw [Ah h1] at h;exact (congrArg Prod.fst (Option.some.inj h)).symm
 rw [Ai h1] at h
 by_cases h3:p.2.2.1=3
 ·rw [Ah h3] at h
  obtain ⟨v,_,e⟩:=Option.map_eq_some_iff.1 h
  rw [←e]
 ·rw [Ai h3] at h;cases h
theorem WO (f:Ty→Vl):∀ l:List TF,((l.filterMap (BR f)).map Prod.fst).Sublist (l.map fun p=>p.2.1)
 | [] => .slnil
 | p::r=>by
  have ih:=WO f r
  cases h:BR f p with
  | none=>rw [List.filterMap_cons_none h,List.map_cons];exact ih.cons _
  | some q=>rw [List.filterMap_cons_some h,List.map_cons,List.map_cons,Lo h];exact ih.cons_cons _
theorem G9 {t:Ty} (hn:(t.fields.map fun p=>p.2.1).Nodup) {p:TF} (hp:p∈t.fields):A7 t p.2.1=some p:=by
 unfold A7
 revert hn hp
 generalize t.fields=l
 intro hn hp
 induction l with
 | nil=>simp at hp
 | cons x r ih =>
  rw [List.map_cons] at hn
  obtain ⟨a,b⟩:=List.nodup_cons.1 hn
  rw [List.find?_cons]
  rcases List.mem_cons.1 hp with rfl | hp
  ·rw [Cj]
  ·have:Eb x.2.1 p.2.1=false:=by
    rw [Bool.eq_false_iff]
    intro q
    exact a (List.mem_map.2 ⟨p,hp,((Db _ _).1 q).symm⟩)
   rw [this]
   exact ih b hp
theorem Sr (k:Nat) (b:UInt8) (hb:b.toNat<128):Lib.validD (List.replicate k b)=true:=by
 induction k with
 | zero=>exact Lib.validD_nil
 | succ k ih=>rw [List.replicate_succ,Lib.validD_cons _ _ hb];exact ih
theorem Xh:∀ (l:List ByteArray) (o:Option ByteArray),QH o l=0→∀ w∈l,Qm w=0
 | [],_,_,w,hw=>by simp at hw
 | x::r,o,h,w,hw=>by
  have a:Qm x=0∧QH (some x) r=0:=by
   by_cases h0:Qm x=0
   ·refine ⟨h0,?_⟩
    cases o with
    | none=>rw [QH,Ah h0] at h;exact h
    | some p =>
     rw [QH,Ah h0] at h
     by_cases h1:Eb x p=true
     ·rw [Ah h1] at h;exact absurd h (by decide)
     rw [Ai h1] at h
     by_cases h2:X7 x p=true
     ·rw [Ah h2] at h;exact absurd h (by decide)
     rw [Ai h2] at h;exact h
   ·cases o with
    | none=>rw [QH,Ai h0] at h;exact absurd h h0
    | some p=>rw [QH,Ai h0] at h;exact absurd h h0
  rcases List.mem_cons.1 hw with rfl | hw
  ·exact a.1
  ·exact Xh r _ a.2 w hw
theorem PM {v:Vl} (h:Ee v=0) (hp:Bn v=[]):v.Good := .mk v h fun x a=>by rw [hp] at a;simp at a
theorem MK {n lo hi:Int} (h1:lo≤n) (h2:n≤hi):Bd n lo hi=false:=by
 rw [Bd,Ac,Ac];rfl
theorem H7:∀ (d e:Nat) (t:Ty),t.small→t.Fine d→t.depth≤e→(Av d t).Good∧FB e t (Av d t)=true
 | 0,e,t,_,h,_=>by cases h
 | d+1,0,t,_,_,he=>by have:=t.depth_eq;omega
 | d+1,e+1,t,ts,tf,he=>by
  have gt:=tf.good
  have own:=gt.own
  have hk:=own.kind
  have lk:=Vp d t
  rw [FB]
  have Q:¬ (t.kind≠(Av (d+1) t).kind):=fun q=>q lk.symm
  rw [Ai Q]
  by_cases n2:t.kind=2∨t.kind=3∨t.kind=6∨t.kind=7
  ·have ev:Av (d+1) t=Vl.mk t.kind (KC t) t.scale ⟨#[]⟩ [] []:=by rw [Av,Ah n2]
   have a:=own.bounds (by omega) (by omega)
   have l:t.min≤KC t∧KC t≤t.max:=by
    unfold KC
    split<;>split<;>omega
   rw [ev]
   have hs:=own.scale
   have Y:AH t.kind=if t.kind=2∨t.kind=3 then (-999999999999999,999999999999999) else if t.kind=6 then (-719162,2932896) else (-62135596800000,253402300799999):=by
    rcases n2 with k | k | k | k<;>rw [k]<;>rfl
   rw [Y] at a
   refine ⟨PM ?_ ?_,?_⟩
   ·have i:A3 (Vl.mk t.kind (KC t) t.scale ⟨#[]⟩ [] [])=false:=I2 (by show t.kind≠0;omega)
    have f:AO (Vl.mk t.kind (KC t) t.scale ⟨#[]⟩ [] [])=false:=by
     rcases n2 with k | k | k | k
     ·have:=own.noscale (by omega);simp [AO,Vl.kind,Vl.int,Vl.scale,Vl.text,Vl.list,Vl.fields,k,this,Cj]
     ·simp [AO,Vl.kind,Vl.int,Vl.scale,Vl.text,Vl.list,Vl.fields,k,Cj]
     ·have:=own.noscale (by omega);simp [AO,Vl.kind,Vl.int,Vl.scale,Vl.text,Vl.list,Vl.fields,k,this,Cj]
     ·have:=own.noscale (by omega);simp [AO,Vl.kind,Vl.int,Vl.scale,Vl.text,Vl.list,Vl.fields,k,this,Cj]
    rw [Ee,i,f]
    simp only [Vl.kind,Vl.int,Vl.scale]
    rcases n2 with k | k | k | k
    ·rw [Ah (.inl k)] at a
     simp only at a
     have z:=MK (n:=KC t) (lo := -999999999999999) (hi:=999999999999999) (by omega) (by omega)
     have C:=MK (n:=t.scale) (lo:=0) (hi:=12) (by omega) (by omega)
     simp [k,z,C]
    ·rw [Ah (.inr k)] at a
     simp only at a
     have z:=MK (n:=KC t) (lo := -999999999999999) (hi:=999999999999999) (by omega) (by omega)
     have C:=MK (n:=t.scale) (lo:=0) (hi:=12) (by omega) (by omega)
     simp [k,z,C]
    ·rw [Aa,Ah k] at a
     simp only at a
     have z:=MK (n:=KC t) (lo := -719162) (hi:=2932896) (by omega) (by omega)
     simp [k,z]
    ·rw [Aa,Aa] at a
     simp only at a
     have z:=MK (n:=KC t) (lo := -62135596800000) (hi:=253402300799999) (by omega) (by omega)
     simp [k,z]
   ·rw [Bn,Ai (by show ¬ (t.kind=8∨t.kind=10);omega),Ai (by show ¬ (t.kind=9);omega)]
   ·rcases n2 with k | k | k | k
    ·rw [Ah (.inl k)];simp [Vl.int,l.1,l.2]
    ·rw [Aa,Ah k];simp [Vl.int,Vl.scale,l.1,l.2]
    ·rw [Ah (.inr (.inl k))];simp [Vl.int,l.1,l.2]
    ·rw [Ah (.inr (.inr k))];simp [Vl.int,l.1,l.2]
  rw [Aa,Aa]
  by_cases n4:t.kind=4
  ·have ev:Av (d+1) t=Vl.mk 4 0 0 (t.words.head?.getD (aS t.min.toNat)) [] []:=by rw [Av,Ai n2,Ah n4]
   rw [ev,Ah n4]
   match hw:t.words with
   | w::r =>
    obtain ⟨_,_,_,J⟩:=own.words n4 (by rw [hw];simp)
    have l:Qm w=0:=Xh _ _ J w (by rw [hw];simp)
    refine ⟨Gg l,?_⟩
    simp [Vl.text,Cj]
   | [] =>
    have a:=own.bounds (by omega) (by rw [hw];simp)
    rw [n4,show AH 4=(0,1024) from rfl] at a
    simp only at a
    have D:(aS t.min.toNat).size=t.min.toNat:=by show (List.replicate t.min.toNat (97:UInt8)).toArray.size=_;simp
    refine ⟨PM ?_ ?_,?_⟩
    ·have i:A3 (Vl.mk 4 0 0 (aS t.min.toNat) [] [])=false:=I2 (by show (4:Int)≠0;decide)
     have f:AO (Vl.mk 4 0 0 (aS t.min.toNat) [] [])=false:=by simp [AO,Vl.kind,Vl.int,Vl.scale,Vl.text,Vl.list,Vl.fields]
     have z:Lib.validD (aS t.min.toNat).data.toList=true:=Sr _ 97 (by decide)
     show Ee (Vl.mk 4 0 0 (aS t.min.toNat) [] [])=0
     rw [Ee,i,f]
     have C:¬ 1024<(aS t.min.toNat).size:=by omega
     simp [Vl.kind,Vl.text,z,C]
    ·rfl
    ·simp only [List.head?_nil,Option.getD_none,List.any_nil,Bool.false_or,List.length_nil]
     simp only [Vl.text,D,RS,Bool.and_eq_true,decide_eq_true_eq]
     refine ⟨rfl,by omega,by omega⟩
  rw [Ai n4]
  by_cases n5:t.kind=5
  ·have ev:Av (d+1) t=Vl.mk 5 0 0 (QB t.min.toNat) [] []:=by rw [Av,Ai n2,Ai n4,Ah n5]
   rw [ev,Ah n5]
   have a:=own.bounds (by omega) (by omega)
   rw [n5,show AH 5=(0,1024) from rfl] at a
   simp only at a
   have D:=WS t.min.toNat
   refine ⟨PM ?_ rfl,?_⟩
   ·have i:A3 (Vl.mk 5 0 0 (QB t.min.toNat) [] [])=false:=I2 (by show (5:Int)≠0;decide)
    have f:AO (Vl.mk 5 0 0 (QB t.min.toNat) [] [])=false:=by simp [AO,Vl.kind,Vl.int,Vl.scale,Vl.text,Vl.list,Vl.fields]
    rw [Ee,i,f]
    have C:¬ 1024<(QB t.min.toNat).size:=by omega
    simp [Vl.kind,Vl.text,C]
   ·simp only [Vl.text,D,RS,Bool.and_eq_true,decide_eq_true_eq]
    omega
  rw [Ai n5]
  by_cases n8:t.kind=8
  ·have ev:Av (d+1) t=Vl.mk 8 0 0 ⟨#[]⟩ (t.elem.flatMap fun e=>List.replicate t.min.toNat (Av d e)) []:=by rw [Av,Ai n2,Ai n4,Ai n5,Ah n8]
   obtain ⟨x,Z⟩:=own.elem n8
   have E:x∈t.elem:=by rw [Z];simp
   have a:=own.bounds (by omega) (by omega)
   rw [n8,Zj9] at a
   simp only at a
   obtain ⟨g1,g2⟩:=H7 d e x (Ty.small_elem ts E) (tf.elem E) (by have:=Ty.depth_elem E;omega)
   rw [ev,Ah n8]
   have el:(t.elem.flatMap fun e=>List.replicate t.min.toNat (Av d e))=List.replicate t.min.toNat (Av d x):=by rw [Z];simp
   rw [el]
   refine ⟨.mk _ ?_ fun y o=>?_,?_⟩
   ·have i:A3 (Vl.mk 8 0 0 ⟨#[]⟩ (List.replicate t.min.toNat (Av d x)) [])=false:=I2 (by show (8:Int)≠0;decide)
    have f:AO (Vl.mk 8 0 0 ⟨#[]⟩ (List.replicate t.min.toNat (Av d x)) [])=false:=by simp [AO,Vl.kind,Vl.int,Vl.scale,Vl.text,Vl.list,Vl.fields,Cj]
    rw [Ee,i,f]
    simp only [Vl.kind,Vl.list,List.length_replicate]
    simp;omega
   ·rw [Bn,Ah (.inl rfl)] at o
    rw [List.eq_of_mem_replicate o];exact g1
   ·simp only [Vl.list,List.length_replicate,RS,Bool.and_eq_true,decide_eq_true_eq]
    refine ⟨List.all_eq_true.2 fun y o=>?_,by omega,by omega⟩
    rw [List.eq_of_mem_replicate o,Z]
    simp [g2]
  rw [Ai n8]
  by_cases n10:t.kind=10
  ·have ev:Av (d+1) t=Vl.mk 10 0 0 (t.fields.head?.elim ⟨#[]⟩ fun p=>p.2.1) (t.fields.head?.elim [] fun p=>[Av d p.2.2.2.1]) []:=by rw [Av,Ai n2,Ai n4,Ai n5,Ai n8,Ah n10]
   rw [ev,Ah n10]
   match hf:t.fields with
   | []=>have:=own.cases n10;rw [hf] at this;simp at this
   | p::r =>
    have s:p∈t.fields:=by rw [hf];simp
    obtain ⟨g1,g2⟩:=H7 d e p.2.2.2.1 (Ty.small_field ts s) (tf.field s) (by have:=Ty.depth_field s;omega)
    have hn:=(own.each p s).1
    refine ⟨.mk _ ?_ fun y o=>?_,?_⟩
    ·have i:A3 (Vl.mk 10 0 0 p.2.1 [Av d p.2.2.2.1] [])=false:=I2 (by show (10:Int)≠0;decide)
     have f:AO (Vl.mk 10 0 0 p.2.1 [Av d p.2.2.2.1] [])=false:=by simp [AO,Vl.kind,Vl.int,Vl.scale,Vl.text,Vl.list,Vl.fields]
     show Ee (Vl.mk 10 0 0 p.2.1 [Av d p.2.2.2.1] [])=0
     rw [Ee,i,f]
     simp [Vl.kind,Vl.text,Vl.list,hn]
    ·have U:y∈[Av d p.2.2.2.1]:=by
      rw [Bn,Ah (.inr rfl)] at o
      exact o
     rw [List.mem_singleton.1 U];exact g1
    ·have u:A7 t p.2.1=some p:=by unfold A7;rw [hf,List.find?_cons,Cj]
     show (match A7 t p.2.1 with
      | some p=>[Av d _].all fun x=>FB e p.2.2.2.1 x
      | none=>false)=true
     rw [u]
     simp [g2]
  rw [Ai n10]
  by_cases n9:t.kind=9
  ·have ev:Av (d+1) t=Vl.mk 9 0 0 ⟨#[]⟩ [] (BS (t.fields.filterMap (BR (Av d)))):=by rw [Av,Ai n2,Ai n4,Ai n5,Ai n8,Ai n10,Ah n9]
   rw [ev,Ah n9]
   obtain ⟨F,_⟩:=HM _ _ _ own.apart
   have aa:((t.fields.filterMap (BR (Av d))).map Prod.fst).Nodup:=F.sublist (WO _ _)
   have b:=Gj (t.fields.filterMap (BR (Av d)))
   have V:=Ub _ aa
   have j:∀ q,q∈BS (t.fields.filterMap (BR (Av d)))→∃ p∈t.fields,q.1=p.2.1∧q.2.Good∧FB e p.2.2.2.1 q.2=true:=by
    intro q m
    obtain ⟨p,c,e1⟩:=List.mem_filterMap.1 (b.mem_iff.1 m)
    refine ⟨p,c,Lo e1,?_⟩
    have ad:=Ty.depth_field c
    unfold BR at e1
    by_cases h1:p.2.2.1=1
    ·rw [Ah h1] at e1
     rw [←Option.some.inj e1]
     exact H7 d e _ (Ty.small_field ts c) (tf.field c) (by omega)
    rw [Ai h1] at e1
    by_cases G:p.2.2.1=3
    ·rw [Ah G] at e1
     obtain ⟨v,hv,e2⟩:=Option.map_eq_some_iff.1 e1
     have H:v∈p.2.2.2.2:=List.mem_of_mem_head? hv
     obtain ⟨d1,d2⟩:=tf.dfl c v H
     rw [←e2]
     have gv:=Gg d1
     refine ⟨gv,?_⟩
     have sm:=Ty.small_field ts c
     have hz:=((t.ok_eq.1 ts.2.2).2.2.2 p c).2.2.2 v H
     have q1:=sm.1
     have q2:=hz.1
     rw [Xi e 12 p.2.2.2.1 v (by omega) sm.2.1];exact d2
    ·rw [Ai G] at e1;cases e1
   refine ⟨.mk _ ?_ fun y o=>?_,?_⟩
   ·have i:A3 (Vl.mk 9 0 0 ⟨#[]⟩ [] (BS (t.fields.filterMap (BR (Av d)))))=false:=I2 (by show (9:Int)≠0;decide)
    have f:AO (Vl.mk 9 0 0 ⟨#[]⟩ [] (BS (t.fields.filterMap (BR (Av d)))))=false:=by simp [AO,Vl.kind,Vl.int,Vl.scale,Vl.text,Vl.list,Vl.fields,Cj]
    have ab:(BS (t.fields.filterMap (BR (Av d)))).length≤64:=by
     rw [b.length_eq]
     have:=List.length_filterMap_le (BR (Av d)) t.fields
     have:=own.fields
     omega
    have O:=Zaz _ V (fun q m=>by obtain ⟨p,c,e1,_⟩:=j q m;rw [e1];exact (own.each p c).1) none (fun w hw=>by cases hw)
    rw [Ee,i,f]
    simp only [Vl.kind,Vl.fields,O]
    simp;omega
   ·rw [Bn,Ai (by show ¬ ((9:Int)=8∨(9:Int)=10);decide),Ah (by rfl)] at o
    obtain ⟨q,m,rfl⟩:=List.mem_map.1 o
    obtain ⟨p,c,_,g,_⟩:=j q m
    exact g
   ·rw [Bool.and_eq_true]
    refine ⟨List.all_eq_true.2 fun q m=>?_,?_⟩
    ·obtain ⟨p,c,e1,_,hh⟩:=j q m
     rw [e1,G9 F c]
     exact hh
    ·rw [Bool.not_eq_true',List.any_eq_false]
     intro p c K
     unfold Zg Qf at K
     rw [Bool.and_eq_true,Bool.not_eq_true',Bool.not_eq_true',decide_eq_false_iff_not] at K
     have oe:=own.each p c
     have N:∃ q,BR (Av d) p=some q:=by
      unfold BR
      by_cases h1:p.2.2.1=1
      ·rw [Ah h1];exact ⟨_,rfl⟩
      rw [Ai h1]
      have G:p.2.2.1=3:=by omega
      rw [Ah G]
      obtain ⟨v,hv⟩:=List.length_eq_one_iff.1 (oe.2.2.2.2.1 G)
      rw [hv];exact ⟨_,rfl⟩
     obtain ⟨q,m⟩:=N
     have hm:q∈BS (t.fields.filterMap (BR (Av d))):=b.mem_iff.2 (List.mem_filterMap.2 ⟨p,c,m⟩)
     have:=List.any_eq_false.1 K.1 q hm
     rw [Lo m,Cj] at this
     exact this rfl
  ·rw [Ai n9]
   have ev:Av (d+1) t=Vl.mk t.kind 0 0 ⟨#[]⟩ [] []:=by rw [Av,Ai n2,Ai n4,Ai n5,Ai n8,Ai n10,Ai n9]
   have k1:t.kind=1:=by omega
   rw [ev,k1]
   exact ⟨PM (by decide) (by decide),rfl⟩
def EG (b:Int):Bool :=
 (decide (b=2))||(decide (b=3))
theorem TT (w0:World) (B:Am) (Rw:Aq) (L:Ar) (a0:Int) (r:Bool) (h:EG a0=r) :
  ACalls Tryz.prog w0 188 [Ak a0] ⟨B,Rw,L⟩ fun x st=>x = .val (.bool r)∧st=⟨B,Rw,L⟩:=by
 rw [EG] at h
 refine hd [.tmp 2] Tryz.func188 Tryz.ntmps188 fun M0 W0 e c b a f d hs=>?_
 simp only [AG]
 refine rg [0] hs ?_
 refine rg [2] hs ?_
 exact rT h hs a d
theorem Na (w0:World) (B:Am) (Rw:Aq) (L:Ar) (a0:Int) :
  ACalls Tryz.prog w0 188 [Ak a0] ⟨B,Rw,L⟩ fun x st=>x = .val (.bool (EG a0))∧st=⟨B,Rw,L⟩:=TT w0 B Rw L a0 _ rfl
def DC (g:Int) (b:Int):Bool :=
 (decide (g=b))||((EG g)&&(EG b))
theorem Wh (w0:World) (B:Am) (Rw:Aq) (L:Ar) (a0:Int) (a1:Int) (r:Bool) (h:DC a0 a1=r) :
  ACalls Tryz.prog w0 107 [Ak a0,Ak a1] ⟨B,Rw,L⟩ fun x st=>x = .val (.bool r)∧st=⟨B,Rw,L⟩:=by
 rw [DC] at h
 refine hd [.tmp 4] Tryz.func107 Tryz.ntmps107 fun M0 W0 f d c a g e hs=>?_
 simp only [AG]
 refine rg [0,1] hs ?_
 refine rc 3 [4] hs ?_;intro K2 b
 refine EF _ (fun _=>Na w0 _ _ _ a0) (hv hs) ?_
 refine nc hs ?_
 refine EF _ (fun _=>Na w0 _ _ _ a1) (hv hs) ?_
 refine ne hs b ?_
 clear b
 exact rT h hs a e
theorem Jd (w0:World) (B:Am) (Rw:Aq) (L:Ar) (a0:Int) (a1:Int) :
  ACalls Tryz.prog w0 107 [Ak a0,Ak a1] ⟨B,Rw,L⟩ fun x st=>x = .val (.bool (DC a0 a1))∧st=⟨B,Rw,L⟩:=Wh w0 B Rw L a0 a1 _ rfl
def BH (g:Int) (b:Ty):Bool :=
 (decide (b.min≤g))&&(decide (g≤b.max))
theorem Ta (w0:World) (B:Am) (Rw:Aq) (L:Ar) (a0:Int) (a1:Ty) (r:Bool) (h:BH a0 a1=r) :
  ACalls Tryz.prog w0 142 [Ak a0,.agg (a1.cs)] ⟨B,Rw,L⟩ fun x st=>x = .val (.bool r)∧st=⟨B,Rw,L⟩:=by
 rw [BH] at h
 refine hd [.tmp 4] Tryz.func142 Tryz.ntmps142 fun M0 W0 e c b a f d hs=>?_
 simp only [AG]
 refine rg [0,3] hs ?_
 refine rg [4] hs ?_
 exact rT h hs a d
theorem DV (w0:World) (B:Am) (Rw:Aq) (L:Ar) (a0:Int) (a1:Ty) :
  ACalls Tryz.prog w0 142 [Ak a0,.agg (a1.cs)] ⟨B,Rw,L⟩ fun x st=>x = .val (.bool (BH a0 a1))∧st=⟨B,Rw,L⟩:=Ta w0 B Rw L a0 a1 _ rfl
def Bq (rec:Ty→Ty→Vl→Option (Vl × Bool)) (n:Nat) (g:(List (ByteArray × Vl))→Int→Option (Vl × Bool)) (b:Int) (h:List (ByteArray × Vl)):Option (Vl × Bool) :=
 if BM (b+1) then
  g h (b+1)
 else none
def E0 (rec:Ty→Ty→Vl→Option (Vl × Bool)) (n:Nat)  (b:List (ByteArray × Vl)):Option (Vl × Bool) :=
 (Gm n b).bind fun g =>
 some ((g,true))
def A2 (rec:Ty→Ty→Vl→Option (Vl × Bool)) (n:Nat) (a0:Ty) (y:Ty) (a2:Vl):Nat→(List (ByteArray × Vl))→Int→Option (Vl × Bool)
 | 0,_,_=>none
 | m+1,b,g =>
  if decide (g<(y.fields.length:Int)) then
   (B1 y.fields g).bind fun h =>
   (C9 n a0.fields h.1).bind fun q =>
   (I0 n a2 q.1.2.1).bind fun y19 =>
   if q.2&&y19.2 then
    (rec q.1.2.2.2.1 h.2.2.2.1 y19.1).bind fun y23 =>
    if !y23.2 then
     some ((Vl.mk 0 0 0 (⟨#[]⟩:ByteArray) ([]) ([]),false))
    else
     if (b.length+1)*104≤140737488355328∧b.length+1≤4611686018427387904 then
      Bq rec n (A2 rec n a0 y a2 m) g (b++([(h.2.1,y23.1)]))
     else none
   else
    if decide (h.2.2.1=1) then
     some ((Vl.mk 0 0 0 (⟨#[]⟩:ByteArray) ([]) ([]),false))
    else
     if decide (h.2.2.1=3) then
      (B1 h.2.2.2.2 0).bind fun x37 =>
      if (b.length+1)*104≤140737488355328∧b.length+1≤4611686018427387904 then
       Bq rec n (A2 rec n a0 y a2 m) g (b++([(h.2.1,x37)]))
      else none
     else
      Bq rec n (A2 rec n a0 y a2 m) g b
  else
   E0 rec n b
def Ff (rec:Ty→Ty→Vl→Option (Vl × Bool)) (n:Nat) (h:Ty) (b:Ty) (g:Vl):Option (Vl × Bool) :=
 A2 rec n h b g n ([]) 0
theorem OH (w0:World) (rec:Ty→Ty→Vl→Option (Vl × Bool)) (ih:∀ (B:Am) (Rw:Aq) (L:Ar) (a0:Ty) (a1:Ty) (a2:Vl) (r:Vl × Bool) (h:rec a0 a1 a2=some r),ACalls Tryz.prog w0 59 [.agg (a0.cs),.agg (a1.cs),.agg (a2.cs)] ⟨B,Rw,L⟩ fun x st=>x = .tup [.agg (r.1.cs),.val (.bool r.2)]∧st=⟨B,Rw,L⟩) (n:Nat) (B:Am) (Rw:Aq) (L:Ar) (a0:Ty) (a1:Ty) (a2:Vl) (r:Vl × Bool) (h:Ff rec n a0 a1 a2=some r) :
  ACalls Tryz.prog w0 143 [.agg (a0.cs),.agg (a1.cs),.agg (a2.cs)] ⟨B,Rw,L⟩ fun x st=>x = .tup [.agg (r.1.cs),.val (.bool r.2)]∧st=⟨B,Rw,L⟩:=by
 rw [Ff] at h
 refine hd [.cell 6 34,.tmp 7] Tryz.func143 Tryz.ntmps143 fun M0 W0 u p o k y l hs=>?_
 simp only [AG]
 refine rg [3,4,5,6] hs ?_
 refine rg [3,4,5,6,8] hs ?_
 refine AA (fun e st=>∃ (i:List (ByteArray × Vl)) (j:Ev.Own),Ck e st B Rw L [(6,true,.box (B.length+3) 0),(8,true,.list (i.map BV) j)] [a0.cs,a1.cs,a2.cs,AX] [(7,i.length,j)] (E0 rec n i=some r)) ?_ ?_
 ·intro K5 v
  refine rg [3,5,6,8,18,19,20] hs ?_
  apply Ao
  refine AL (fun m e st=>∃ (f:List (ByteArray × Vl)) (b:Int) (c:Ev.Own),Ck e st B Rw L [(3,true,.box B.length 0),(5,true,.box (B.length+2) 0),(6,true,.box (B.length+3) 0),(8,true,.list (f.map BV) c),(18,true,.list (a1.fields.map ET) .none),(19,true,Ak (a1.fields.length:Int)),(20,true,Ak b)] [a0.cs,a1.cs,a2.cs,AX] [(7,f.length,c)] (A2 rec n a0 a1 a2 m f b=some r)) n ⟨([]),0,.full,([]),Rw,ef hs,ef hs,Owns.of_eq ((l).full 7 0) Kr,h⟩ ?_
  rintro ml7 e st ⟨f,b,c,Xl7,Rl7,rfl,rfl,l,h⟩ Ul7 Vl7
  cases ml7 with
  | zero=>cases h
  | succ ml7 =>
  rw [A2] at h
  have w:=l.unders
  simp only [List.mem_cons,List.not_mem_nil,or_false,forall_eq_or_imp,forall_eq] at w
  refine td u p o k l ?_
  refine rg [3,5,6,8,18,19,20,21] hs ?_
  apply An;intro K9 t
  refine BN h hs ?_ ?_<;>intro hs h
  rotate_left
  ·refine sx [6,8] hs v ?_
   exact ⟨f,c,([]),Rl7,ef hs,ef hs,Owns.of_eq (l) Kr,h⟩
  refine sk [3,5,6,8,18,19,20] hs t ?_
  clear t
  refine AA (fun e st=>∃ (d:List (ByteArray × Vl)) (g:Ev.Own),Ck e st B Rw L [(3,true,.box B.length 0),(5,true,.box (B.length+2) 0),(6,true,.box (B.length+3) 0),(8,true,.list (d.map BV) g),(18,true,.list (a1.fields.map ET) .none),(19,true,Ak (a1.fields.length:Int)),(20,true,Ak b)] [a0.cs,a1.cs,a2.cs,AX] [(7,d.length,g)] (Bq rec n (A2 rec n a0 a1 a2 ml7) b d=some r)) ?_ ?_
  ·intro K13 q
   exact go (tg (a:=([3,5,6,8,10,18,19,20],[3,5,6,8,10,11,12,18,19,20],[3,5,6,8,10,11,12,13,14,18,19,20],[3,5,6,8,10,11,13,18,19,20,39],([3,5,6,8,10,15,16,18,19,20],[3,5,6,8,10,15,18,19,20,54],([6,7],()),[3,5,6,8,10,15,18,19,20],[3,5,6,8,18,19,20],()),[3,5,6,8,10,18,19,20,63],([6,7],()),[3,5,6,8,10,18,19,20,68],([9,3,5,6,8,18,19,20],()),[3,5,6,8,18,19,20],()))) h hs u p o k l (Ad (EO w0 n) (q3 (SH w0 n) ih (ae Nb IB))) (q1 q)
  ·clear h;rintro e st ⟨d,g,Xk12,Rk12,rfl,rfl,l,h⟩
   rw [Bq] at h
   exact go (tg (a:=([3,5,6,8,18,19,20],()))) h hs u p o k l trivial (q1 (fun e s=>Vl7 ml7 e s (Nat.lt_succ_self _)))
 ·clear h;rintro e st ⟨i,j,Xk4,Rk4,rfl,rfl,l,h⟩
  rw [E0] at h
  exact go (tg (a:=([6,7],()))) h hs u p o k l (q1 (Vv w0 n)) trivial
def EP (n:Nat) (h:ByteArray) (b:Vl):Option Vl :=
 (Bm n (Vl.mk 10 0 0 h ([b]) ([]))).bind fun g =>
 some (g)
theorem PR (w0:World) (n:Nat) (B:Am) (Rw:Aq) (L:Ar) (a0:ByteArray) (a1:Vl) (r:Vl) (h:EP n a0 a1=some r) :
  ACalls Tryz.prog w0 122 [.val (.string a0),.agg (a1.cs)] ⟨B,Rw,L⟩ fun x st=>x = .agg (r.cs)∧st=⟨B,Rw,L⟩:=by
 rw [EP] at h
 refine hd [.cell 4 34] Tryz.func122 Tryz.ntmps122 fun M0 W0 e d c b g f hs=>?_
 simp only [AG]
 exact go (tg (a:=([0,3,4],[4],()))) h hs e d c b f (q1 (DO w0 n)) trivial
def Hn (rec:Ty→Ty→Vl→Option (Vl × Bool)) (n:Nat) (b:Ty) (g:Vl) (b4_k41_4:List Vl):Option (Vl × Bool) :=
 some ((Vl.mk 8 0 0 (⟨#[]⟩:ByteArray) b4_k41_4 ([]),BH (g.list.length:Int) b))
def H5 (rec:Ty→Ty→Vl→Option (Vl × Bool)) (n:Nat) (b:Vl):Option (Vl × Bool) :=
 some ((b,true))
def DX (rec:Ty→Ty→Vl→Option (Vl × Bool)) (n:Nat) (a0:Ty) (q:Ty) (h:Vl):Nat→Int→(List Vl)→Option (Vl × Bool)
 | 0,_,_=>none
 | m+1,b,b4_l44_4 =>
  if decide (b<(h.list.length:Int)) then
   (B1 h.list b).bind fun x50 =>
   (B1 a0.elem 0).bind fun y =>
   (B1 q.elem 0).bind fun x53 =>
   (rec y x53 x50).bind fun g =>
   if !g.2 then
    some ((Vl.mk 0 0 0 (⟨#[]⟩:ByteArray) ([]) ([]),false))
   else
    if (b4_l44_4.length+1)*88≤140737488355328∧b4_l44_4.length+1≤4611686018427387904 then
     if BM (b+1) then
      (DX rec n a0 q h m) (b+1) (b4_l44_4++([g.1]))
     else none
    else none
  else
   Hn rec n q h b4_l44_4
def B8 (rec:Ty→Ty→Vl→Option (Vl × Bool)) (n:Nat) (a0:Ty) (b:Ty) (g:Vl) (h:Bool):Option (Vl × Bool) :=
 if h then
  some ((g,BH g.int b))
 else
  if decide (b.kind=5) then
   some ((g,BH (g.text.size:Int) b))
  else
   if decide (b.kind=4) then
    if decide (0<(b.words.length:Int)) then
     (BX n b.words g.text).bind fun y35 =>
     some ((g,y35))
    else
     some ((g,BH (g.text.size:Int) b))
   else
    if decide (b.kind=8) then
     DX rec n a0 b g n 0 ([])
    else
     if decide (b.kind=9) then
      (Ff rec n a0 b g).bind fun y68 =>
      some ((y68.1,y68.2))
     else
      if decide (b.kind=10) then
       (KL n a0 g.text).bind fun y72 =>
       (C9 n b.fields y72.1.1).bind fun q =>
       if !q.2 then
        some ((Vl.mk 0 0 0 (⟨#[]⟩:ByteArray) ([]) ([]),false))
       else
        (B1 g.list 0).bind fun x80 =>
        (rec y72.1.2.2.2.1 q.1.2.2.2.1 x80).bind fun y =>
        (EP n q.1.2.1 y.1).bind fun y83 =>
        some ((y83,y.2))
      else
       H5 rec n g 
def B7 (rec:Ty→Ty→Vl→Option (Vl × Bool)) (n:Nat) (y:Ty) (g:Ty) (q:Vl) (b:Bool):Option (Vl × Bool) :=
 if b then
  (D5 n q.int y.scale g.scale).bind fun h =>
  some ((Vl.mk g.kind h.1 g.scale (⟨#[]⟩:ByteArray) ([]) ([]),h.2&&(BH h.1 g)))
 else
  if decide (g.kind=6) then
   B8 rec n y g q true
  else
   B8 rec n y g q (decide (g.kind=7))
def GT (rec:Ty→Ty→Vl→Option (Vl × Bool)) (n:Nat) (g:Ty) (b:Ty) (h:Vl):Option (Vl × Bool) :=
 if !(DC g.kind b.kind) then
  some ((Vl.mk 0 0 0 (⟨#[]⟩:ByteArray) ([]) ([]),false))
 else
  if decide (b.kind=2) then
   B7 rec n g b h true
  else
   B7 rec n g b h (decide (b.kind=3))
def AU:Nat→Ty→Ty→Vl→Option (Vl × Bool)
 | 0,_,_,_=>none
 | n+1,h,b,g=>GT (AU n) n h b g
def KA (w0:World) (F:Ty→Ty→Vl→Option (Vl × Bool)):Prop:=∀ (B:Am) (Rw:Aq) (L:Ar) (h:Ty) (b:Ty) (g:Vl) (r:Vl × Bool),F h b g=some r→ACalls Tryz.prog w0 59 [.agg (h.cs),.agg (b.cs),.agg (g.cs)] ⟨B,Rw,L⟩ fun x st=>x = .tup [.agg (r.1.cs),.val (.bool r.2)]∧st=⟨B,Rw,L⟩
theorem RB (w0:World) (rec:Ty→Ty→Vl→Option (Vl × Bool)) (ih:KA w0 rec) (n:Nat):KA w0 (GT rec n):=by
 intro B Rw L a0 a1 a2 r h
 rw [GT] at h
 refine hd [.cell 6 34,.tmp 7] Tryz.func59 Tryz.ntmps59 fun M0 W0 N q p b hu w hs=>?_
 simp only [AG]
 refine rg [3,4,5,6] hs ?_
 apply An;intro K2 au
 refine rc 2 [3,4,5,6,25] hs ?_;intro K3 am
 refine As _ (Jd w0 _ _ _ a0.kind a1.kind) (hv hs) ?_
 refine ne hs am ?_
 clear am
 refine BN h hs ?_ ?_<;>intro hs h
 ·have H:=hs.1
  refine rg [6,7] hs ?_
  exact rt h hs b w
 have H:=hs.1
 refine sk [3,4,5,6] hs au ?_
 clear au
 refine AA (fun e st=>Ck e st B Rw L [(5,true,.box (B.length+2) 0),(6,true,.box (B.length+3) 0)] [a0.cs,a1.cs,a2.cs,AX] [] (H5 rec n a2  = some r)) ?_ ?_
 ·intro K8 bf
  refine rg [3,4,5,6,28] hs ?_
  apply Ao
  refine AA (fun e st=>∃ (z:Bool),Ck e st B Rw L [(3,true,.box B.length 0),(4,true,.box (B.length+1) 0),(5,true,.box (B.length+2) 0),(6,true,.box (B.length+3) 0),(28,true,Ak a1.kind),(29,true,.val (.bool z))] [a0.cs,a1.cs,a2.cs,AX] [] (B7 rec n a0 a1 a2 z=some r)) ?_ ?_
  ·intro K12 ay
   exact go (tg (a:=([3,4,5,6,28,29],([3,4,5,6,28,29],()),[3,4,5,6,28,29],()))) h hs N q p b w trivial (q1 ay)
  ·clear h;rintro e st ⟨z,Xk11,Rk11,rfl,rfl,w,h⟩
   rw [B7] at h
   refine td N q p b w ?_
   refine BN h hs ?_ ?_<;>intro hs h
   ·have i:=hs.1
    obtain ⟨a5,aq,h⟩:=bind_some h
    refine rc 2 [4,6,8,9] hs ?_;intro K16 ad
    refine As _ (JU w0 n _ _ _ a2.int a0.scale a1.scale _ aq) (hv hs) ?_
    refine ne hs ad ?_
    clear ad
    apply An;intro K18 ag
    apply G5 Oo [12] [6,7] kr (fun s=>∃ (X:Am) (rows:Aq) (c3:List AV),s=⟨B++([a0.cs,a1.cs,a2.cs,c3]++X),rows,L⟩) 2 (B.length+4)
    ·simp +decide only [go_sem,Nat.reduceAdd]
    ·rintro s ⟨X,rows,c3,rfl⟩
     refine ⟨2,?_⟩
     rw [Ap];simp +decide only [go_sem,Nat.reduceAdd,EI,and_self,imp_self,H,i]
     (repeat' apply Ad)<;>first | refine EF _ (fun _=>DV w0 _ _ _ a5.1 a1) (hv hs) ?_ | exact cl
     rw [Ap];simp +decide only [go_sem,Nat.reduceAdd,and_self,imp_self,H,i]
     (repeat' apply Ad)<;>first | rfl | exact cl
    ·exact gd (tg (a:=(12,[6,7]))) hs
    simp +decide only [go_sem,Nat.reduceAdd,and_self,imp_self,H,i]
    (repeat' apply Ad)<;>first | refine ag _ _ ?_ | exact cl
    clear ag
    exact rt h hs b w
   have i:=hs.1
   refine AA (fun e st=>∃ (y:Bool),Ck e st B Rw L [(3,true,.box B.length 0),(4,true,.box (B.length+1) 0),(5,true,.box (B.length+2) 0),(6,true,.box (B.length+3) 0),(28,true,Ak a1.kind),(54,true,.val (.bool y))] [a0.cs,a1.cs,a2.cs,AX] [] (B8 rec n a0 a1 a2 y=some r)) ?_ ?_
   ·intro K21 ar
    exact go (tg (a:=([3,4,5,6,28,54],([3,4,5,6,28,54],()),[3,4,5,6,28,54],()))) h hs N q p b w trivial (q1 ar)
   ·clear h;rintro e st ⟨y,Xk20,Rk20,rfl,rfl,w,h⟩
    rw [B8] at h
    refine td N q p b w ?_
    refine BN h hs ?_ ?_<;>intro hs h
    ·have D:=hs.1
     exact go (tg (a:=([5,6,7],()))) h hs N q p b w (q1 (DV w0)) trivial
    have D:=hs.1
    refine rg [3,4,5,6,28,62] hs ?_
    refine BN h hs ?_ ?_<;>intro hs h
    ·have C:=hs.1
     exact go (tg (a:=([6,6,7],()))) h hs N q p b w (q1 (DV w0)) trivial
    have C:=hs.1
    refine rg [3,4,5,6,28,70] hs ?_
    refine BN h hs ?_ ?_<;>intro hs h
    ·have G:=hs.1
     exact go (tg (a:=([4,5,6,75],([6,6,7],()),[4,5,6],[6,6,7],()))) h hs N q p b w (q2 (FR w0 n) (DV w0)) trivial
    have G:=hs.1
    refine rg [3,4,5,6,28,88] hs ?_
    refine BN h hs ?_ ?_<;>intro hs h
    ·have E:=hs.1
     refine rg [3,4,5,6,10] hs ?_
     refine AA (fun e st=>∃ (g:List Vl) (k:Ev.Own),Ck e st B Rw L [(4,true,.box (B.length+1) 0),(5,true,.box (B.length+2) 0),(6,true,.box (B.length+3) 0),(10,true,.box (B.length+4) 0)] [a0.cs,a1.cs,a2.cs,AX,[Ak 8,Ak 0,Ak 0,.val (.string (⟨#[]⟩:ByteArray)),.list (g.map Bv) k,.list ([]) .full]] [(6,g.length,k)] (Hn rec n a1 a2 g=some r)) ?_ ?_
     ·intro K42 aw
      refine rg [3,4,5,6,10,92,93,94] hs ?_
      apply Ao
      refine AL (fun m e st=>∃ (F:Int) (c:List Vl) (d:Ev.Own),Ck e st B Rw L [(3,true,.box B.length 0),(4,true,.box (B.length+1) 0),(5,true,.box (B.length+2) 0),(6,true,.box (B.length+3) 0),(10,true,.box (B.length+4) 0),(92,true,.list (a2.list.map Bv) .none),(93,true,Ak (a2.list.length:Int)),(94,true,Ak F)] [a0.cs,a1.cs,a2.cs,AX,[Ak 8,Ak 0,Ak 0,.val (.string (⟨#[]⟩:ByteArray)),.list (c.map Bv) d,.list ([]) .full]] [(6,c.length,d)] (DX rec n a0 a1 a2 m F c=some r)) n ⟨0,([]),.full,([]),Rk20,ef hs,ef hs,Owns.of_eq ((w).full 6 0) Kr,h⟩ ?_
      rintro ml44 e st ⟨F,c,d,Xl44,Rl44,rfl,rfl,w,h⟩ Ul44 Vl44
      cases ml44 with
      | zero=>cases h
      | succ ml44 =>
      rw [DX] at h
      have hU:=w.unders
      simp only [List.mem_cons,List.not_mem_nil,or_false,forall_eq_or_imp,forall_eq] at hU
      refine td N q p b w ?_
      refine rg [3,4,5,6,10,92,93,94,95] hs ?_
      apply An;intro K46 Y
      refine BN h hs ?_ ?_<;>intro hs h
      rotate_left
      ·have K:=hs.1
       exact go (tg (a:=([4,5,6,10],()))) h hs N q p b w trivial (q1 aw)
      have K:=hs.1
      refine sk [3,4,5,6,10,92,93,94] hs Y ?_
      clear Y
      apply An;intro K48 aj
      apply Ao
      obtain ⟨ap,av,h⟩:=bind_some h
      obtain ⟨a8,bd,ai⟩:=B9 av
      have x:=C5 (f:=Bv) ai
      have hs:=Ad x hs
      refine rg [3,4,5,6,10,12,92,93,94] hs ?_
      apply An;intro K51 ah
      obtain ⟨a7,bc,a9,l,h⟩:=ix Ny h
      have u:(a0.elem.map Ny).getD 0 .junk=_:=l
      obtain ⟨bb,ba,be,j,h⟩:=ix Ny h
      have t:(a1.elem.map Ny).getD 0 .junk=_:=j
      obtain ⟨bg,ax,h⟩:=bind_some h
      apply G5 Oo [13,14] [3,4,5,6,10,13,14,92,93,94] kr (fun s=>∃ (X:Am) (rows:Aq),s=⟨B++([a0.cs,a1.cs,a2.cs,AX,[Ak 8,Ak 0,Ak 0,.val (.string (⟨#[]⟩:ByteArray)),.list (c.map Bv) d,.list ([]) .full],ap.cs]++X),rows,L⟩) 3 (B.length+6)
      ·simp +decide only [go_sem,Nat.reduceAdd]
      ·rintro s ⟨X,rows,rfl⟩
       refine ⟨2,?_⟩
       rw [Ap];simp +decide only [go_sem,Nat.reduceAdd,EI,H,i,D,C,G,E,K,x,l,u,j,t]
       have hs:=Ad l hs
       have hs:=Ad u hs
       have hs:=Ad j hs
       have hs:=Ad t hs
       (repeat' apply Ad)<;>first | refine As _ (ih _ _ _ a7 bb ap _ ax) (hv hs) ?_ | exact cl
       rw [Ap];simp +decide only [go_sem,Nat.reduceAdd,H,i,D,C,G,E,K,x,l,u,j,t]
       (repeat' apply Ad)<;>first | rfl | exact cl
      ·exact gd (tg (a:=(13,14,[3,4,5,6,10,13,14,92,93,94]))) (Ad t (Ad j (Ad u (Ad l (Ad x hs)))))
      simp +decide only [go_sem,Nat.reduceAdd,H,i,D,C,G,E,K,x,l,u,j,t]
      (repeat' apply Ad)<;>first | refine ah _ _ ?_ | exact cl
      clear ah
      exact go (tg (a:=([3,4,5,6,10,13,92,93,94,112],([6,7],()),[3,4,5,6,10,13,92,93,94],[3,4,5,6,10,92,93,94],[3,4,5,6,10,92,93,94],()))) h (Ad t (Ad j (Ad u (Ad l hs)))) N q p b w (q1 (ae LS HF)) (q2 aj (fun e s=>Vl44 ml44 e s (Nat.lt_succ_self _)))
     ·clear h;rintro e st ⟨g,k,Xk41,Rk41,rfl,rfl,w,h⟩
      rw [Hn] at h
      exact go (tg (a:=([6,6,7],()))) h hs N q p b w (q1 (DV w0)) trivial
    have E:=hs.1
    refine rg [3,4,5,6,28,127] hs ?_
    refine BN h hs ?_ ?_<;>intro hs h
    ·have O:=hs.1
     exact go (tg (a:=([6,7],()))) h hs N q p b w (q1 (OH w0 rec ih n)) trivial
    have O:=hs.1
    refine rg [3,4,5,6,135] hs ?_
    refine BN h hs ?_ ?_<;>intro hs h
    ·have Q:=hs.1
     obtain ⟨J,az,h⟩:=bind_some h
     refine rc 2 [4,5,6,15] hs ?_;intro K71 ab
     refine As _ (SX w0 n _ _ _ a0 a2.text _ az) (hv hs) ?_
     refine ne hs ab ?_
     clear ab
     obtain ⟨V,ao,h⟩:=bind_some h
     refine rc 2 [5,6,15,17,18] hs ?_;intro K73 Z
     refine As _ (EO w0 n _ _ _ a1.fields J.1.1 _ ao) (hv hs) ?_
     refine ne hs Z ?_
     clear Z
     apply An;intro K75 af
     refine rg [5,6,15,17,153] hs ?_
     refine BN h hs ?_ ?_<;>intro hs h
     ·have U:=hs.1
      refine rg [6,7] hs ?_
      exact rt h hs b w
     have U:=hs.1
     refine sk [5,6,15,17] hs af ?_
     clear af
     apply An;intro K79 aa
     obtain ⟨a6,a4,a3,o,h⟩:=ix Bv h
     have v:(a2.list.map Bv).getD 0 .junk=_:=o
     obtain ⟨bh,ak,h⟩:=bind_some h
     apply G5 Oo [12,13] [6,17,18,19] kr (fun s=>∃ (X:Am) (rows:Aq),s=⟨B++([a0.cs,a1.cs,a2.cs,AX,Ak J.1.1::(.val (.string J.1.2.1)::(Ak J.1.2.2.1::((J.1.2.2.2.1.cs)++([.list (J.1.2.2.2.2.map Bv) .none])))),Ak V.1.1::(.val (.string V.1.2.1)::(Ak V.1.2.2.1::((V.1.2.2.2.1.cs)++([.list (V.1.2.2.2.2.map Bv) .none]))))]++X),rows,L⟩) 3 (B.length+6)
     ·simp +decide only [go_sem,Nat.reduceAdd]
     ·rintro s ⟨X,rows,rfl⟩
      refine ⟨2,?_⟩
      rw [Ap];simp +decide only [go_sem,Nat.reduceAdd,EI,H,i,D,C,G,E,O,Q,U,o,v]
      have hs:=Ad o hs
      have hs:=Ad v hs
      (repeat' apply Ad)<;>first | refine As _ (ih _ _ _ J.1.2.2.2.1 V.1.2.2.2.1 a6 _ ak) (hv hs) ?_ | exact cl
      rw [Ap];simp +decide only [go_sem,Nat.reduceAdd,H,i,D,C,G,E,O,Q,U,o,v]
      (repeat' apply Ad)<;>first | rfl | exact cl
     ·exact gd (tg (a:=(12,13,[6,17,18,19]))) (Ad v (Ad o hs))
     simp +decide only [go_sem,Nat.reduceAdd,H,i,D,C,G,E,O,Q,U,o,v]
     (repeat' apply Ad)<;>first | refine aa _ _ ?_ | exact cl
     clear aa
     exact go (tg (a:=([6,7],()))) h (Ad v (Ad o hs)) N q p b w (q1 (PR w0 n)) trivial
    have Q:=hs.1
    refine sk [5,6] hs bf ?_
    exact ⟨([]),Rk20,ef hs,ef hs,w,h⟩
 ·clear h;rintro e st ⟨Xk7,Rk7,rfl,rfl,w,h⟩
  rw [H5] at h
  refine td N q p b w ?_
  refine rg [6,7] hs ?_
  exact rt h hs b w
theorem F6 (w0:World):∀ n:Nat,KA w0 (AU n)
 | 0=>fun _ _ _ _ _ _ _ h=>(nomatch h)
 | n+1=>RB w0 (AU n) (F6 w0 n) n
def I4 (n:Nat) (g:List (ByteArray × Vl)) (h:ByteArray × Vl) (b:Int):Option ((List (ByteArray × Vl))) :=
 if 0≤0∧0≤b∧b≤(g.length:Int) then
  if (0+(g.take b.toNat).length)*104≤140737488355328∧0+(g.take b.toNat).length≤4611686018427387904 then
   if ((g.take b.toNat).length+1)*104≤140737488355328∧(g.take b.toNat).length+1≤4611686018427387904 then
    if 0≤b∧b≤(g.length:Int)∧(g.length:Int)≤(g.length:Int) then
     if ((g.take b.toNat).length+1+(g.drop b.toNat).length)*104≤140737488355328∧(g.take b.toNat).length+1+(g.drop b.toNat).length≤4611686018427387904 then
      some (((g.take b.toNat)++([h]))++(g.drop b.toNat))
     else none
    else none
   else none
  else none
 else none
def IW (n:Nat) (q:List (ByteArray × Vl)) (g:ByteArray × Vl):Nat→Int→Option ((List (ByteArray × Vl)))
 | 0,_=>none
 | m+1,b =>
  if decide (0<b) then
   if BM (b-1) then
    (B1 q (b-1)).bind fun h =>
    if !(X7 h.1 g.1||Eb h.1 g.1) then
     if BM (b-1) then
      (IW n q g m) (b-1)
     else none
    else
     I4 n q g b
   else none
  else
   I4 n q g b
def Ir (n:Nat) (b:List (ByteArray × Vl)) (g:ByteArray × Vl):Option ((List (ByteArray × Vl))) :=
 IW n b g n (b.length:Int)
theorem Ug (w0:World) (n:Nat) (B:Am) (Rw:Aq) (L:Ar) (a0:List (ByteArray × Vl)) (a1:ByteArray × Vl) (r:(List (ByteArray × Vl))) (h:Ir n a0 a1=some r) :
  ACalls Tryz.prog w0 58 [.list (a0.map BV) .none,.agg (.val (.string a1.1)::(a1.2.cs))] ⟨B,Rw,L⟩ fun x st=>x = .list (r.map BV) .none∧st=⟨B,Rw,L⟩:=by
 rw [Ir] at h
 refine hd [.tmp 4] Tryz.func58 Tryz.ntmps58 fun M0 W0 D t q j J i hs=>?_
 simp only [AG]
 refine rg [0,3] hs ?_
 refine rg [0,3,5] hs ?_
 refine AA (fun e st=>∃ (b:Int),Ck e st B Rw L [(0,true,.list (a0.map BV) .none),(3,true,.box B.length 0),(5,true,Ak b)] [.val (.string a1.1)::(a1.2.cs)] [] (I4 n a0 a1 b=some r)) ?_ ?_
 ·intro K5 z
  apply Ao
  refine AL (fun m e st=>∃ (g:Int),Ck e st B Rw L [(0,true,.list (a0.map BV) .none),(3,true,.box B.length 0),(5,true,Ak g)] [.val (.string a1.1)::(a1.2.cs)] [] (IW n a0 a1 m g=some r)) n ⟨(a0.length:Int),([]),Rw,ef hs,ef hs,i,h⟩ ?_
  rintro ml6 e st ⟨g,Xl6,Rl6,rfl,rfl,i,h⟩ Ul6 Vl6
  cases ml6 with
  | zero=>cases h
  | succ ml6 =>
  rw [IW] at h
  exact go (tg (a:=(([13,0,3,5,21],([0,3,5],[0,3,5],()),[0,3,5],()),[13,0,3,5,21],[0,3,5],()))) h hs D t q j i trivial (q2 z (fun e s=>Vl6 ml6 e s (Nat.lt_succ_self _)))
 ·clear h;rintro e st ⟨b,Xk4,Rk4,rfl,rfl,i,h⟩
  rw [I4] at h
  refine td D t q j i ?_
  obtain ⟨E,h⟩:=Au h
  obtain ⟨p,h⟩:=Au h
  have i:=i.full 7 0
  obtain ⟨F,v,i,f⟩:=i.append (P:=Tryz.prog) Nb (by rw [IB];rfl) (by decide) ((a0.take b.toNat).length) p.1 p.2
  simp only [Nat.zero_add] at i
  replace f:=fun (ys:List AV) B L k=>f ([]) ys B L k Kr
  replace f:=fun B L k=>f ((a0.take b.toNat).map BV) B L k Kr (by simp +decide only [go_sem,Nat.reduceAdd])
  try simp only [List.mem_singleton,List.mem_cons,List.not_mem_nil,or_false,forall_eq_or_imp,forall_eq,List.map_append,List.map_cons,List.map_nil,Hg,G6,He,Hz,Ha,GK,Fh,Fa,G2,Eg,Eh,Fp,Fq,E9] at f
  have hs:=Ad f hs
  refine rg [0,3,5,6] hs ?_
  obtain ⟨l,h⟩:=Au h
  obtain ⟨H,w,i,d⟩:=i.append (P:=Tryz.prog) Nb (by rw [IB];rfl) (by decide) 1 l.1 l.2
  replace d:=fun (ys:List AV) B L k=>d ((a0.take b.toNat).map BV) ys B L k Kr
  replace d:=fun (y:AV) B L k=>d [y] B L k Kr (by simp +decide only [go_sem,Nat.reduceAdd])
  try simp only [List.mem_singleton,List.mem_cons,List.not_mem_nil,or_false,forall_eq_or_imp,forall_eq,List.map_append,List.map_cons,List.map_nil,Hg,G6,He,Hz,Ha,GK,Fh,Fa,G2,Eg,Eh,Fp,Fq,E9] at d
  have hs:=Ad d hs
  refine rg [0,5,6] hs ?_
  obtain ⟨C,h⟩:=Au h
  obtain ⟨o,h⟩:=Au h
  obtain ⟨G,u,i,c⟩:=i.append (P:=Tryz.prog) Nb (by rw [IB];rfl) (by decide) ((a0.drop b.toNat).length) o.1 o.2
  replace c:=fun (ys:List AV) B L k=>c (((a0.take b.toNat)++([a1])).map BV) ys B L k Kr
  replace c:=fun B L k=>c ((a0.drop b.toNat).map BV) B L k Kr (by simp +decide only [go_sem,Nat.reduceAdd])
  try simp only [List.mem_singleton,List.mem_cons,List.not_mem_nil,or_false,forall_eq_or_imp,forall_eq,List.map_append,List.map_cons,List.map_nil,Hg,G6,He,Hz,Ha,GK,Fh,Fa,G2,Eg,Eh,Fp,Fq,E9] at c
  have hs:=Ad c hs
  refine rg [4] hs ?_
  exact rt h hs j i
def A1 (b:Ty):Int :=
 if decide (b.kind=2) then
  0
 else
  if decide (b.kind=3) then
   b.scale
  else
   (-1)
theorem Zbg (w0:World) (B:Am) (Rw:Aq) (L:Ar) (a0:Ty) (r:Int) (h:A1 a0=r) :
  ACalls Tryz.prog w0 46 [.agg (a0.cs)] ⟨B,Rw,L⟩ fun x st=>x=Ak r∧st=⟨B,Rw,L⟩:=by
 rw [A1] at h
 refine hd [.tmp 2] Tryz.func46 Tryz.ntmps46 fun M0 W0 e d c b g f hs=>?_
 simp only [AG]
 exact go (tg (a:=([1],[1,5],([2],()),[1],[1,8],([2],()),[],[2],()))) h hs e d c b f trivial trivial
theorem Da (w0:World) (B:Am) (Rw:Aq) (L:Ar) (a0:Ty) :
  ACalls Tryz.prog w0 46 [.agg (a0.cs)] ⟨B,Rw,L⟩ fun x st=>x=Ak (A1 a0)∧st=⟨B,Rw,L⟩:=Zbg w0 B Rw L a0 _ rfl
def Ri (rec:Ty→Ty→Vl→Option (Vl × Bool)) (n:Nat) (b:Ty) (g:Vl) (b3_k38_4:List Vl):Option (Vl × Bool) :=
 some ((Vl.mk 8 0 0 (⟨#[]⟩:ByteArray) b3_k38_4 ([]),Bo (g.list.length:Int) b))
def UD (rec:Ty→Ty→Vl→Option (Vl × Bool)) (n:Nat)  : Option (Vl × Bool) :=
 some ((Vl.mk 0 0 0 (⟨#[]⟩:ByteArray) ([]) ([]),false))
def IX (rec:Ty→Ty→Vl→Option (Vl × Bool)) (n:Nat) (g:Int→(List (ByteArray × Vl))→Option (Vl × Bool)) (b:Int) (b3_k94_5:List (ByteArray × Vl)):Option (Vl × Bool) :=
 if BM (b+1) then
  g (b+1) b3_k94_5
 else none
def Rf (rec:Ty→Ty→Vl→Option (Vl × Bool)) (n:Nat)  (b3_k86_5:List (ByteArray × Vl)):Option (Vl × Bool) :=
 some ((Vl.mk 9 0 0 (⟨#[]⟩:ByteArray) ([]) b3_k86_5,true))
def KJ (rec:Ty→Ty→Vl→Option (Vl × Bool)) (n:Nat) (a0:Ty) (q:Ty) (h:Vl):Nat→Int→(List Vl)→Option (Vl × Bool)
 | 0,_,_=>none
 | m+1,b,b3_l41_4 =>
  if decide (b<(h.list.length:Int)) then
   (B1 a0.elem 0).bind fun x47 =>
   (B1 q.elem 0).bind fun x48 =>
   (B1 h.list b).bind fun y =>
   (rec x47 x48 y).bind fun g =>
   if !g.2 then
    some ((Vl.mk 0 0 0 (⟨#[]⟩:ByteArray) ([]) ([]),false))
   else
    if (b3_l41_4.length+1)*88≤140737488355328∧b3_l41_4.length+1≤4611686018427387904 then
     if BM (b+1) then
      (KJ rec n a0 q h m) (b+1) (b3_l41_4++([g.1]))
     else none
    else none
  else
   Ri rec n q h b3_l41_4
def KF (rec:Ty→Ty→Vl→Option (Vl × Bool)) (n:Nat) (a0:Ty) (a1:Ty) (y:Vl):Nat→Int→Option (Vl × Bool)
 | 0,_=>none
 | m+1,b =>
  if decide (b<(a0.fields.length:Int)) then
   (B1 a0.fields b).bind fun h =>
   (Gt n a1 h.1).bind fun g =>
   if (!(Eb h.2.1 y.text))||(!g.2) then
    if BM (b+1) then
     (KF rec n a0 a1 y m) (b+1)
    else none
   else
    (B1 y.list 0).bind fun x80 =>
    (rec h.2.2.2.1 g.1.2.2.2.1 x80).bind fun q =>
    some ((Vl.mk 10 0 0 g.1.2.1 ([q.1]) ([]),q.2))
  else
   UD rec n 
def FH (rec:Ty→Ty→Vl→Option (Vl × Bool)) (n:Nat) (a0:Ty) (a1:Ty) (a2:Vl):Nat→Int→(List (ByteArray × Vl))→Option (Vl × Bool)
 | 0,_,_=>none
 | m+1,b,b3_l89_5 =>
  if decide (b<(a1.fields.length:Int)) then
   (B1 a1.fields b).bind fun g =>
   (Gt n a0 g.1).bind fun y =>
   (O8 n a2 y.1.2.1).bind fun q =>
   if y.2&&q.2 then
    (rec y.1.2.2.2.1 g.2.2.2.1 q.1).bind fun h =>
    if !h.2 then
     some ((Vl.mk 0 0 0 (⟨#[]⟩:ByteArray) ([]) ([]),false))
    else
     (Ir n b3_l89_5 ((g.2.1,h.1))).bind fun y110 =>
     IX rec n (FH rec n a0 a1 a2 m) b y110
   else
    if decide (g.2.2.1=1) then
     some ((Vl.mk 0 0 0 (⟨#[]⟩:ByteArray) ([]) ([]),false))
    else
     if decide (g.2.2.1=3) then
      (B1 g.2.2.2.2 0).bind fun x116 =>
      (Ir n b3_l89_5 ((g.2.1,x116))).bind fun y117 =>
      IX rec n (FH rec n a0 a1 a2 m) b y117
     else
      IX rec n (FH rec n a0 a1 a2 m) b b3_l89_5
  else
   Rf rec n b3_l89_5
def Q0 (rec:Ty→Ty→Vl→Option (Vl × Bool)) (n:Nat) (h:Ty) (b:Ty) (g:Vl):Option (Vl × Bool) :=
 FH rec n h b g n 0 ([])
def GF (rec:Ty→Ty→Vl→Option (Vl × Bool)) (n:Nat) (q:Ty) (g:Ty) (h:Vl) (b:Bool):Option (Vl × Bool) :=
 if b then
  some ((h,Bo h.int g))
 else
  if decide (g.kind=8) then
   KJ rec n q g h n 0 ([])
  else
   if decide (g.kind=10) then
    KF rec n q g h n 0
   else
    Q0 rec n q g h 
def VY (rec:Ty→Ty→Vl→Option (Vl × Bool)) (n:Nat) (h:Ty) (b:Ty) (g:Vl):Option (Vl × Bool) :=
 if (decide (0≤(A1 h)))&&(decide (0≤(A1 b))) then
  if BM ((A1 b)-(A1 h)) then
   (Gu n g.int ((A1 b)-(A1 h))).bind fun y =>
   some ((Vl.mk b.kind y.1 (A1 b) (⟨#[]⟩:ByteArray) ([]) ([]),y.2&&(Bo y.1 b)))
  else none
 else
  if !(decide (h.kind=b.kind)) then
   some ((Vl.mk 0 0 0 (⟨#[]⟩:ByteArray) ([]) ([]),false))
  else
   if decide (b.kind=1) then
    some ((g,true))
   else
    if decide (b.kind=4) then
     (MH n g.text b).bind fun q =>
     some ((g,q))
    else
     if decide (b.kind=5) then
      some ((g,Bo (g.text.size:Int) b))
     else
      if decide (b.kind=6) then
       GF rec n h b g true
      else
       GF rec n h b g (decide (b.kind=7))
def IR:Nat→Ty→Ty→Vl→Option (Vl × Bool)
 | 0,_,_,_=>none
 | n+1,h,b,g=>VY (IR n) n h b g
def Zap (w0:World) (F:Ty→Ty→Vl→Option (Vl × Bool)):Prop:=∀ (B:Am) (Rw:Aq) (L:Ar) (h:Ty) (b:Ty) (g:Vl) (r:Vl × Bool),F h b g=some r→ACalls Tryz.prog w0 17 [.agg (h.cs),.agg (b.cs),.agg (g.cs)] ⟨B,Rw,L⟩ fun x st=>x = .tup [.agg (r.1.cs),.val (.bool r.2)]∧st=⟨B,Rw,L⟩
theorem ZcW (w0:World) (rec:Ty→Ty→Vl→Option (Vl × Bool)) (ih:Zap w0 rec) (n:Nat):Zap w0 (VY rec n):=by
 intro B Rw L a0 a1 a2 r h
 rw [VY] at h
 refine hd [.cell 6 34,.tmp 7] Tryz.func17 Tryz.ntmps17 fun M0 W0 hN t q b hu g hs=>?_
 simp only [AG]
 refine rg [3,4,5,6] hs ?_
 apply An;intro K2 bv
 have b5:=Ad and_self @imp_self
 have hs:=Ad b5 hs
 refine rc 3 [3,4,5,6,33] hs ?_;intro K3 bi
 refine As _ (Da w0 _ _ _ a0) (hv hs) ?_
 refine nc hs ?_
 refine EF _ (fun _=>Da w0 _ _ _ a1) (hv hs) ?_
 refine ne hs bi ?_
 clear bi
 refine BN h hs ?_ ?_<;>intro hs h
 ·have O:=hs.1
  obtain ⟨ck,h⟩:=Au h
  obtain ⟨y7,b7,h⟩:=bind_some h
  apply An;intro K5 bw
  refine dk 13 4 1 [4,6,8,9] hs Oo ?_
  refine As _ (Da w0 _ _ _ a1) (hv hs) ?_
  refine nc hs ?_
  refine As _ (Da w0 _ _ _ a0) (hv hs) ?_
  refine nc hs ?_
  refine As _ (Qd w0 n _ _ _ a2.int ((A1 a1)-(A1 a0)) _ b7) (hv hs) ?_
  refine dn hs bw ?_
  clear bw
  apply An;intro K8 bo
  apply G5 Oo [12] [6,7] kr (fun s=>∃ (X:Am) (rows:Aq) (c3:List AV),s=⟨B++([a0.cs,a1.cs,a2.cs,c3]++X),rows,L⟩) 2 (B.length+4)
  ·simp +decide only [go_sem,Nat.reduceAdd]
  ·rintro s ⟨X,rows,c3,rfl⟩
   refine ⟨3,?_⟩
   rw [Ap];simp +decide only [go_sem,Nat.reduceAdd,EI,and_self,imp_self,O]
   (repeat' apply Ad)<;>first | refine As _ (Da w0 _ _ _ a1) (hv hs) ?_ | exact cl
   rw [Ap];simp +decide only [go_sem,Nat.reduceAdd,and_self,imp_self,O]
   (repeat' apply Ad)<;>first | refine EF _ (fun _=>Gw w0 _ _ _ y7.1 a1) (hv hs) ?_ | exact cl
   rw [Ap];simp +decide only [go_sem,Nat.reduceAdd,and_self,imp_self,O]
   (repeat' apply Ad)<;>first | rfl | exact cl
  ·exact gd (tg (a:=(12,[6,7]))) hs
  simp +decide only [go_sem,Nat.reduceAdd,and_self,imp_self,O]
  (repeat' apply Ad)<;>first | refine bo _ _ ?_ | exact cl
  clear bo
  exact rt h hs b g
 have O:=hs.1
 refine sk [3,4,5,6] hs bv ?_
 clear bv
 apply An;intro K9 bu
 refine rg [3,4,5,6,61] hs ?_
 refine BN h hs ?_ ?_<;>intro hs h
 ·have x:=hs.1
  refine rg [6,7] hs ?_
  exact rt h hs b g
 have x:=hs.1
 refine sk [3,4,5,6] hs bu ?_
 clear bu
 refine AA (fun e st=>Ck e st B Rw L [(3,true,.box B.length 0),(4,true,.box (B.length+1) 0),(5,true,.box (B.length+2) 0),(6,true,.box (B.length+3) 0)] [a0.cs,a1.cs,a2.cs,AX] [] (Q0 rec n a0 a1 a2  = some r)) ?_ ?_
 ·intro K15 bs
  refine rg [3,4,5,6,64] hs ?_
  apply Ao
  refine rg [3,4,5,6,64,65] hs ?_
  refine BN h hs ?_ ?_<;>intro hs h
  ·have y:=hs.1
   refine rg [6,7] hs ?_
   exact rt h hs b g
  have y:=hs.1
  refine rg [3,4,5,6,64,68] hs ?_
  refine BN h hs ?_ ?_<;>intro hs h
  ·have D:=hs.1
   exact go (tg (a:=([5,6,7],()))) h hs hN t q b g (q1 (RV w0 n)) trivial
  have D:=hs.1
  refine rg [3,4,5,6,64,75] hs ?_
  refine BN h hs ?_ ?_<;>intro hs h
  ·have w:=hs.1
   exact go (tg (a:=([6,6,7],()))) h hs hN t q b g (q1 (Gw w0)) trivial
  have w:=hs.1
  refine AA (fun e st=>∃ (ab:Bool),Ck e st B Rw L [(3,true,.box B.length 0),(4,true,.box (B.length+1) 0),(5,true,.box (B.length+2) 0),(6,true,.box (B.length+3) 0),(64,true,Ak a1.kind),(83,true,.val (.bool ab))] [a0.cs,a1.cs,a2.cs,AX] [] (GF rec n a0 a1 a2 ab=some r)) ?_ ?_
  ·intro K29 bp
   exact go (tg (a:=([3,4,5,6,64,83],([3,4,5,6,64,83],()),[3,4,5,6,64,83],()))) h hs hN t q b g trivial (q1 bp)
  ·clear h;rintro e st ⟨ab,Xk28,Rk28,rfl,rfl,g,h⟩
   rw [GF] at h
   refine td hN t q b g ?_
   refine BN h hs ?_ ?_<;>intro hs h
   ·have C:=hs.1
    exact go (tg (a:=([5,6,7],()))) h hs hN t q b g (q1 (Gw w0)) trivial
   have C:=hs.1
   refine rg [3,4,5,6,64,91] hs ?_
   refine BN h hs ?_ ?_<;>intro hs h
   ·have z:=hs.1
    refine rg [3,4,5,6] hs ?_
    refine AA (fun e st=>∃ (u:List Vl) (F:Ev.Own),Ck e st B Rw L [(4,true,.box (B.length+1) 0),(5,true,.box (B.length+2) 0),(6,true,.box (B.length+3) 0)] [a0.cs,a1.cs,a2.cs,[Ak 8,Ak 0,Ak 0,.val (.string (⟨#[]⟩:ByteArray)),.list (u.map Bv) F,.list ([]) .full]] [(6,u.length,F)] (Ri rec n a1 a2 u=some r)) ?_ ?_
    ·intro K39 bk
     refine rg [3,4,5,6,10] hs ?_
     apply Ao
     refine AL (fun m e st=>∃ (aa:Int) (j:List Vl) (o:Ev.Own),Ck e st B Rw L [(3,true,.box B.length 0),(4,true,.box (B.length+1) 0),(5,true,.box (B.length+2) 0),(6,true,.box (B.length+3) 0),(10,true,Ak aa)] [a0.cs,a1.cs,a2.cs,[Ak 8,Ak 0,Ak 0,.val (.string (⟨#[]⟩:ByteArray)),.list (j.map Bv) o,.list ([]) .full]] [(6,j.length,o)] (KJ rec n a0 a1 a2 m aa j=some r)) n ⟨0,([]),.full,([]),Rk28,ef hs,ef hs,Owns.of_eq ((g).full 6 0) Kr,h⟩ ?_
     rintro ml41 e st ⟨aa,j,o,Xl41,Rl41,rfl,rfl,g,h⟩ Ul41 Vl41
     cases ml41 with
     | zero=>cases h
     | succ ml41 =>
     rw [KJ] at h
     have hU:=g.unders
     simp only [List.mem_cons,List.not_mem_nil,or_false,forall_eq_or_imp,forall_eq] at hU
     refine td hN t q b g ?_
     apply An;intro K42 a6
     refine rg [3,4,5,6,10,98] hs ?_
     refine BN h hs ?_ ?_<;>intro hs h
     rotate_left
     ·have ai:=hs.1
      exact go (tg (a:=([4,5,6],()))) h hs hN t q b g trivial (q1 bk)
     have ai:=hs.1
     refine sk [3,4,5,6,10] hs a6 ?_
     clear a6
     apply An;intro K45 bf
     apply Ao
     apply An;intro K46 ax
     obtain ⟨b4,ci,cd,E,h⟩:=ix Ny h
     have U:(a0.elem.map Ny).getD 0 .junk=_:=E
     obtain ⟨cf,cb,cc,H,h⟩:=ix Ny h
     have V:(a1.elem.map Ny).getD 0 .junk=_:=H
     obtain ⟨cg,b2,cj,Y,h⟩:=ix Bv h
     obtain ⟨co,bx,h⟩:=bind_some h
     apply G5 Oo [17,18] [3,4,5,6,10,11,12] kr (fun s=>∃ (X:Am) (rows:Aq),s=⟨B++([a0.cs,a1.cs,a2.cs,[Ak 8,Ak 0,Ak 0,.val (.string (⟨#[]⟩:ByteArray)),.list (j.map Bv) o,.list ([]) .full]]++X),rows,L⟩) 3 (B.length+4)
     ·simp +decide only [go_sem,Nat.reduceAdd]
     ·rintro s ⟨X,rows,rfl⟩
      refine ⟨2,?_⟩
      rw [Ap];simp +decide only [go_sem,Nat.reduceAdd,EI,O,x,y,D,w,C,z,ai,E,U,H,V,Y]
      have hs:=Ad E hs
      have hs:=Ad U hs
      have hs:=Ad H hs
      have hs:=Ad V hs
      have hs:=Ad Y hs
      (repeat' apply Ad)<;>first | refine As _ (ih _ _ _ b4 cf cg _ bx) (hv hs) ?_ | exact cl
      rw [Ap];simp +decide only [go_sem,Nat.reduceAdd,O,x,y,D,w,C,z,ai,E,U,H,V,Y]
      (repeat' apply Ad)<;>first | rfl | exact cl
     ·exact gd (tg (a:=(17,18,[3,4,5,6,10,11,12]))) (Ad Y (Ad V (Ad H (Ad U (Ad E hs)))))
     simp +decide only [go_sem,Nat.reduceAdd,O,x,y,D,w,C,z,ai,E,U,H,V,Y]
     (repeat' apply Ad)<;>first | refine ax _ _ ?_ | exact cl
     clear ax
     exact go (tg (a:=([3,4,5,6,10,11,119],([6,7],()),[3,4,5,6,10,11],[3,4,5,6,10],[3,4,5,6,10],()))) h (Ad Y (Ad V (Ad H (Ad U (Ad E hs))))) hN t q b g (q1 (ae LS HF)) (q2 bf (fun e s=>Vl41 ml41 e s (Nat.lt_succ_self _)))
    ·clear h;rintro e st ⟨u,F,Xk38,Rk38,rfl,rfl,g,h⟩
     rw [Ri] at h
     exact go (tg (a:=([6,6,7],()))) h hs hN t q b g (q1 (Gw w0)) trivial
   have z:=hs.1
   refine rg [3,4,5,6,133] hs ?_
   refine BN h hs ?_ ?_<;>intro hs h
   ·have ad:=hs.1
    refine AA (fun e st=>Ck e st B Rw L [(6,true,.box (B.length+3) 0)] [a0.cs,a1.cs,a2.cs,AX] [] (UD rec n  = some r)) ?_ ?_
    ·intro K65 bd
     refine rg [3,4,5,6,13] hs ?_
     apply Ao
     refine AL (fun m e st=>∃ (af:Int),Ck e st B Rw L [(3,true,.box B.length 0),(4,true,.box (B.length+1) 0),(5,true,.box (B.length+2) 0),(6,true,.box (B.length+3) 0),(13,true,Ak af)] [a0.cs,a1.cs,a2.cs,AX] [] (KF rec n a0 a1 a2 m af=some r)) n ⟨0,([]),Rk28,ef hs,ef hs,g,h⟩ ?_
     rintro ml67 e st ⟨af,Xl67,Rl67,rfl,rfl,g,h⟩ Ul67 Vl67
     cases ml67 with
     | zero=>cases h
     | succ ml67 =>
     rw [KF] at h
     refine td hN t q b g ?_
     apply An;intro K68 ay
     refine rg [3,4,5,6,13,139] hs ?_
     refine BN h hs ?_ ?_<;>intro hs h
     rotate_left
     ·have Z:=hs.1
      refine sx [6] hs bd ?_
      exact ⟨([]),Rl67,ef hs,ef hs,g,h⟩
     have Z:=hs.1
     refine sk [3,4,5,6,13] hs ay ?_
     clear ay
     apply An;intro K71 bl
     apply Ao
     apply An;intro K72 a3
     obtain ⟨bh,b3,ch,i,h⟩:=ix ET h
     obtain ⟨ak,bj,h⟩:=bind_some h
     apply G5 Oo [11,12] [3,4,5,6,13,14,15] kr (fun s=>∃ (X:Am) (rows:Aq),s=⟨B++([a0.cs,a1.cs,a2.cs,AX]++X),rows,L⟩) 3 (B.length+4)
     ·simp +decide only [go_sem,Nat.reduceAdd]
     ·rintro s ⟨X,rows,rfl⟩
      refine ⟨2,?_⟩
      rw [Ap];simp +decide only [go_sem,Nat.reduceAdd,EI,O,x,y,D,w,C,z,ad,Z,i]
      have hs:=Ad i hs
      (repeat' apply Ad)<;>first | refine As _ (JY w0 n _ _ _ a1 bh.1 _ bj) (hv hs) ?_ | exact cl
      rw [Ap];simp +decide only [go_sem,Nat.reduceAdd,O,x,y,D,w,C,z,ad,Z,i]
      (repeat' apply Ad)<;>first | rfl | exact cl
     ·exact gd (tg (a:=(11,12,[3,4,5,6,13,14,15]))) (Ad i hs)
     simp +decide only [go_sem,Nat.reduceAdd,O,x,y,D,w,C,z,ad,Z,i]
     (repeat' apply Ad)<;>first | refine a3 _ _ ?_ | exact cl
     clear a3
     apply An;intro K75 a5
     have hs:=Ad i hs
     refine dg 13 1 1 [3,4,5,6,13,14,165] hs Oo ?_
     refine BN h hs ?_ ?_<;>intro hs h
     ·have aj:=hs.1
      exact go (tg (a:=([3,4,5,6,13],[3,4,5,6,13],()))) h hs hN t q b g trivial (q2 bl (fun e s=>Vl67 ml67 e s (Nat.lt_succ_self _)))
     have aj:=hs.1
     refine sk [3,5,6,13,14] hs a5 ?_
     clear a5
     apply An;intro K79 a4
     obtain ⟨ca,b9,b1,J,h⟩:=ix Bv h
     have Q:(a2.list.map Bv).getD 0 .junk=_:=J
     obtain ⟨cn,bq,h⟩:=bind_some h
     apply G5 Oo [16,17] [6,14,16,17] kr (fun s=>∃ (X:Am) (rows:Aq),s=⟨B++([a0.cs,a1.cs,a2.cs,AX,Ak ak.1.1::(.val (.string ak.1.2.1)::(Ak ak.1.2.2.1::((ak.1.2.2.2.1.cs)++([.list (ak.1.2.2.2.2.map Bv) .none]))))]++X),rows,L⟩) 3 (B.length+5)
     ·simp +decide only [go_sem,Nat.reduceAdd]
     ·rintro s ⟨X,rows,rfl⟩
      refine ⟨2,?_⟩
      rw [Ap];simp +decide only [go_sem,Nat.reduceAdd,EI,O,x,y,D,w,C,z,ad,Z,i,aj,J,Q]
      have hs:=Ad J hs
      have hs:=Ad Q hs
      (repeat' apply Ad)<;>first | refine As _ (ih _ _ _ bh.2.2.2.1 ak.1.2.2.2.1 ca _ bq) (hv hs) ?_ | exact cl
      rw [Ap];simp +decide only [go_sem,Nat.reduceAdd,O,x,y,D,w,C,z,ad,Z,i,aj,J,Q]
      (repeat' apply Ad)<;>first | rfl | exact cl
     ·exact gd (tg (a:=(16,17,[6,14,16,17]))) (Ad Q (Ad J (Ad i hs)))
     simp +decide only [go_sem,Nat.reduceAdd,O,x,y,D,w,C,z,ad,Z,i,aj,J,Q]
     (repeat' apply Ad)<;>first | refine a4 _ _ ?_ | exact cl
     clear a4
     exact go (tg (a:=([6,7],()))) h (Ad Q (Ad J hs)) hN t q b g trivial trivial
    ·clear h;rintro e st ⟨Xk64,Rk64,rfl,rfl,g,h⟩
     rw [UD] at h
     refine td hN t q b g ?_
     refine rg [6,7] hs ?_
     exact rt h hs b g
   have ad:=hs.1
   refine sk [3,4,5,6] hs bs ?_
   exact ⟨([]),Rk28,ef hs,ef hs,g,h⟩
 ·clear h;rintro e st ⟨Xk14,Rk14,rfl,rfl,g,h⟩
  rw [Q0] at h
  refine td hN t q b g ?_
  refine rg [3,4,5,6] hs ?_
  refine AA (fun e st=>∃ (v:List (ByteArray × Vl)) (G:AV),Ck e st B Rw L [(6,true,.box (B.length+3) 0)] [a0.cs,a1.cs,a2.cs,[Ak 9,Ak 0,Ak 0,.val (.string (⟨#[]⟩:ByteArray)),.list ([]) .full,G]] [] (G.pub = .list (v.map BV) .none∧Rf rec n v=some r)) ?_ ?_
  ·intro K87 bn
   refine rg [3,4,5,6,18] hs ?_
   apply Ao
   refine AL (fun m e st=>∃ (d:Int) (c:List (ByteArray × Vl)) (K:AV),Ck e st B Rw L [(3,true,.box B.length 0),(4,true,.box (B.length+1) 0),(5,true,.box (B.length+2) 0),(6,true,.box (B.length+3) 0),(18,true,Ak d)] [a0.cs,a1.cs,a2.cs,[Ak 9,Ak 0,Ak 0,.val (.string (⟨#[]⟩:ByteArray)),.list ([]) .full,K]] [] (K.pub = .list (c.map BV) .none∧FH rec n a0 a1 a2 m d c=some r)) n ⟨0,([]),_,([]),Rk14,ef hs,ef hs,g,ef hs,h⟩ ?_
   rintro ml89 e st ⟨d,c,K,Xl89,Rl89,rfl,rfl,g,ap,h⟩ Ul89 Vl89
   cases ml89 with
   | zero=>cases h
   | succ ml89 =>
   rw [FH] at h
   refine JZ (B.length+3) 5 (by first | rfl | (simp only [EZ,D3,HH,F5];rfl)) rfl ap ?_;simp +decide only [go_sem,Nat.reduceAdd]
   show F3 _ _ _ _ _ _ _ _ [(3,true,.box B.length 0),(4,true,.box (B.length+1) 0),(5,true,.box (B.length+2) 0),(6,true,.box (B.length+3) 0),(18,true,Ak d)] ⟨B++([a0.cs,a1.cs,a2.cs,[Ak 9,Ak 0,Ak 0,.val (.string (⟨#[]⟩:ByteArray)),.list ([]) .full,.list (c.map BV) .none]]++Xl89),Rl89,L⟩
   refine td hN t q b g ?_
   apply An;intro K90 az
   refine rg [3,4,5,6,18,194] hs ?_
   refine BN h hs ?_ ?_<;>intro hs h
   rotate_left
   ·refine sx [6] hs bn ?_
    exact ⟨c,_,([]),Rl89,ef hs,ef hs,g,ef hs,h⟩
   refine sk [3,4,5,6,18] hs az ?_
   clear az
   refine AA (fun e st=>∃ (l:List (ByteArray × Vl)) (N:AV),Ck e st B Rw L [(3,true,.box B.length 0),(4,true,.box (B.length+1) 0),(5,true,.box (B.length+2) 0),(6,true,.box (B.length+3) 0),(18,true,Ak d)] [a0.cs,a1.cs,a2.cs,[Ak 9,Ak 0,Ak 0,.val (.string (⟨#[]⟩:ByteArray)),.list ([]) .full,N]] [] (N.pub = .list (l.map BV) .none∧IX rec n (FH rec n a0 a1 a2 ml89) d l=some r)) ?_ ?_
   ·intro K95 am
    apply Ao
    obtain ⟨k,bg,h⟩:=bind_some h
    obtain ⟨b6,ce,bc⟩:=B9 bg
    have a9:=C5 (f:=ET) bc
    have hs:=Ad a9 hs
    refine rg [3,4,5,6,18,19] hs ?_
    obtain ⟨p,be,h⟩:=bind_some h
    refine rc 2 [3,4,5,6,18,19,20,21] hs ?_;intro K98 av
    refine As _ (JY w0 n _ _ _ a0 k.1 _ be) (hv hs) ?_
    refine ne hs av ?_
    clear av
    obtain ⟨ag,ba,h⟩:=bind_some h
    refine rc 2 [3,4,5,6,18,19,20,21,22,23] hs ?_;intro K100 ar
    refine As _ (Zbi w0 n _ _ _ a2 p.1.2.1 _ ba) (hv hs) ?_
    refine ne hs ar ?_
    clear ar
    apply Ao
    refine rg [3,4,5,6,18,19,20,22,216] hs ?_
    refine BN h hs ?_ ?_<;>intro hs h
    ·obtain ⟨aw,bb,h⟩:=bind_some h
     refine rc 2 [3,4,5,6,18,19,24,25] hs ?_;intro K104 aq
     refine As _ (ih _ _ _ p.1.2.2.2.1 k.2.2.2.1 ag.1 _ bb) (hv hs) ?_
     refine ne hs aq ?_
     clear aq
     apply An;intro K106 ao
     refine rg [3,4,5,6,18,19,24,231] hs ?_
     refine BN h hs ?_ ?_<;>intro hs h
     ·refine rg [6,7] hs ?_
      exact rt h hs b g
     refine sk [3,4,5,6,18,19,24] hs ao ?_
     clear ao
     obtain ⟨bm,a7,h⟩:=bind_some h
     refine rk 2 [3,4,5,6,18] hs ?_
     refine As _ (Ug w0 n _ _ _ c ((k.2.1,aw.1)) _ a7) (hv hs) ?_
     refine ne hs am ?_
     exact ⟨bm,_,([Ak k.1::(.val (.string k.2.1)::(Ak k.2.2.1::((k.2.2.2.1.cs)++([.list (k.2.2.2.2.map Bv) .none])))),Ak p.1.1::(.val (.string p.1.2.1)::(Ak p.1.2.2.1::((p.1.2.2.2.1.cs)++([.list (p.1.2.2.2.2.map Bv) .none])))),ag.1.cs,aw.1.cs]),Rl89,ef hs,ef hs,g,ef hs,h⟩
    refine rg [3,4,5,6,18,19,241] hs ?_
    refine BN h hs ?_ ?_<;>intro hs h
    ·refine rg [6,7] hs ?_
     exact rt h hs b g
    refine rg [3,4,5,6,18,19,246] hs ?_
    refine BN h hs ?_ ?_<;>intro hs h
    ·obtain ⟨br,b0,bz,ah,h⟩:=ix Bv h
     have au:(k.2.2.2.2.map Bv).getD 0 .junk=_:=ah
     obtain ⟨bt,a8,h⟩:=bind_some h
     have hs:=Ad ah hs
     have hs:=Ad au hs
     refine dk 11 2 1 [3,4,5,6,18] hs Oo ?_
     refine As _ (Ug w0 n _ _ _ c ((k.2.1,br)) _ a8) (hv hs) ?_
     refine dn hs am ?_
     exact ⟨bt,_,([Ak k.1::(.val (.string k.2.1)::(Ak k.2.2.1::((k.2.2.2.1.cs)++([.list (k.2.2.2.2.map Bv) .none])))),Ak p.1.1::(.val (.string p.1.2.1)::(Ak p.1.2.2.1::((p.1.2.2.2.1.cs)++([.list (p.1.2.2.2.2.map Bv) .none])))),ag.1.cs]),Rl89,ef hs,ef hs,g,ef hs,h⟩
    refine sk [3,4,5,6,18] hs am ?_
    exact ⟨c,_,([Ak k.1::(.val (.string k.2.1)::(Ak k.2.2.1::((k.2.2.2.1.cs)++([.list (k.2.2.2.2.map Bv) .none])))),Ak p.1.1::(.val (.string p.1.2.1)::(Ak p.1.2.2.1::((p.1.2.2.2.1.cs)++([.list (p.1.2.2.2.2.map Bv) .none])))),ag.1.cs]),Rl89,ef hs,ef hs,g,ef hs,h⟩
   ·clear h;rintro e st ⟨l,N,Xk94,Rk94,rfl,rfl,g,ap,h⟩
    rw [IX] at h
    refine JZ (B.length+3) 5 (by first | rfl | (simp only [EZ,D3,HH,F5];rfl)) rfl ap ?_;simp +decide only [go_sem,Nat.reduceAdd]
    show F3 _ _ _ _ _ _ _ _ [(3,true,.box B.length 0),(4,true,.box (B.length+1) 0),(5,true,.box (B.length+2) 0),(6,true,.box (B.length+3) 0),(18,true,Ak d)] ⟨B++([a0.cs,a1.cs,a2.cs,[Ak 9,Ak 0,Ak 0,.val (.string (⟨#[]⟩:ByteArray)),.list ([]) .full,.list (l.map BV) .none]]++Xk94),Rk94,L⟩
    refine td hN t q b g ?_
    obtain ⟨b8,h⟩:=Au h
    refine rl [3,4,5,6,18] hs (fun e s=>Vl89 ml89 e s (Nat.lt_succ_self _)) ?_
    exact ⟨(d+1),l,_,([]),Rk94,ef hs,ef hs,g,ef hs,h⟩
  ·clear h;rintro e st ⟨v,G,Xk86,Rk86,rfl,rfl,g,ap,h⟩
   rw [Rf] at h
   refine JZ (B.length+3) 5 (by first | rfl | (simp only [EZ,D3,HH,F5];rfl)) rfl ap ?_;simp +decide only [go_sem,Nat.reduceAdd]
   show F3 _ _ _ _ _ _ _ _ [(6,true,.box (B.length+3) 0)] ⟨B++([a0.cs,a1.cs,a2.cs,[Ak 9,Ak 0,Ak 0,.val (.string (⟨#[]⟩:ByteArray)),.list ([]) .full,.list (v.map BV) .none]]++Xk86),Rk86,L⟩
   refine td hN t q b g ?_
   refine rg [6,7] hs ?_
   exact rt h hs b g
theorem Zb2 (w0:World):∀ n:Nat,Zap w0 (IR n)
 | 0=>fun _ _ _ _ _ _ _ h=>(nomatch h)
 | n+1=>ZcW w0 (IR n) (Zb2 w0 n) n
def Zbt (g:TF):Option (List (ByteArray × Vl)):=if g.2.2.1=1 then none else if g.2.2.1=3 then some (match g.2.2.2.2 with | x::_=>[(g.2.1,x)] | []=>[]) else some []
def O3 (f:Ty→Ty→Vl→Option Vl) (a:Ty) (v:Vl) (g:TF):Option (List (ByteArray × Vl)) :=
 match Gx a.fields g.1 with
 | some p=>(match DG v p.2.1 with
  | some x=>(f p.2.2.2.1 g.2.2.2.1 x).map fun y=>[(g.2.1,y)]
  | none=>Zbt g)
 | none=>Zbt g
def T8 (f:Ty→Ty→Vl→Option Vl) (a:Ty) (v:Vl):List TF→Option (List (ByteArray × Vl))
 | []=>some []
 | g::gs=>(O3 f a v g).bind fun o=>(T8 f a v gs).map fun l=>o++l
def Va (f:Vl→Option Vl):List Vl→Option (List Vl)
 | []=>some []
 | v::r=>(f v).bind fun y=>(Va f r).map fun l=>y::l
def LN:Nat→Ty→Ty→Vl→Option Vl
 | 0,_,_,_=>none
 | d+1,a,b,v =>
  if (a.kind=2∨a.kind=3)∧(b.kind=2∨b.kind=3) then (Nz v.int a.scale b.scale).bind fun m=>if On m b=true then some (Vl.mk b.kind m b.scale ⟨#[]⟩ [] []) else none
  else if a.kind≠b.kind then none
  else if b.kind=6∨b.kind=7 then (if On v.int b=true then some v else none)
  else if b.kind=5 then (if On v.text.size b=true then some v else none)
  else if b.kind=4 then (if Es v.text b=true then some v else none)
  else if b.kind=8 then (match a.elem,b.elem with | [x],[y]=>(Va (LN d x y) v.list).bind fun l=>if On v.list.length b=true then some (Vl.mk 8 0 0 ⟨#[]⟩ l []) else none | _,_=>none)
  else if b.kind=9 then (T8 (LN d) a v b.fields).map fun l=>Vl.mk 9 0 0 ⟨#[]⟩ [] (BS l)
  else if b.kind=10 then (match A7 a v.text,v.list with | some p,x::_=>(match Gx b.fields p.1 with | some g=>(LN d p.2.2.2.1 g.2.2.2.1 x).map fun y=>Vl.mk 10 0 0 g.2.1 [y] [] | none=>none) | _,_=>none)
  else some v
def LA (D:Nat) (o:Option Vl) (r:Vl × Bool):Prop:=(match o with | some y=>r=(y,true) | none=>r.2=false)∧r.1.Nar∧r.1.depth≤D
theorem OO (k i s:Int) (t:ByteArray) (h:t.size≤1048576):(Vl.mk k i s t [] []).Nar := .mk _ (by simp [Vl.list]) (by simp [Vl.fields]) h (by simp [Vl.list]) (by simp [Vl.fields]) (by simp [Vl.fields])
theorem nilV_nar:nilV.Nar:=OO 0 0 0 _ (by decide)
theorem KP (k i s:Int) (t:ByteArray):(Vl.mk k i s t [] []).depth=1:=by simp [Vl.depth,GE,Gz]
theorem Lc {D:Nat} (h:1≤D) {r:Vl × Bool} (e:r=(nilV,false)):LA D none r:=by
 subst e
 exact ⟨rfl,nilV_nar,by rw [KP];exact h⟩
theorem RL {D:Nat} {v:Vl} {b:Bool} (h1:v.Nar) (h2:v.depth≤D):LA D (if b=true then some v else none) (v,b):=by
 cases b with
 | true=>exact ⟨rfl,h1,h2⟩
 | false=>exact ⟨rfl,h1,h2⟩
theorem ZgI (n:Nat) (l:List (ByteArray × Vl)) (x:ByteArray × Vl) (hs:SS l) (hi:inN l x.1=false) (hl:l.length≤1000000):∀ (k m at_:Nat),at_≤k→at_≤l.length→(∀ i (h:at_≤i) (h2:i<l.length),¬ E6 l[i].1 x.1<0)→k<m→IW n l x m at_=some (RA l x.1 x.2)
 | k,0,at_,_,_,_,h=>absurd h (Nat.not_lt_zero _)
 | k,m+1,at_,hk,ha,hb,hm=>by
  have fin:(∀ i (h:i<at_) (h2:i<l.length),E6 l[i].1 x.1<0)→I4 n l x at_=some (RA l x.1 x.2):=fun q=>by
   have e:at_=S9 l x.1:=Rq ha (fun i h=>q i h (by omega)) (fun h=>hb _ (Nat.le_refl _) h)
   rw [I4,Ab,Ah (by rw [List.length_take];omega),Ah (by rw [List.length_take];omega),Ab,Ah (by rw [List.length_take,List.length_drop];omega),RA,N8,←e,Int.toNat_natCast,List.append_assoc,List.singleton_append]
  rw [IW]
  by_cases c:0<at_
  ·obtain ⟨j,rfl⟩:∃ j,at_=j+1:=⟨at_-1,by omega⟩
   have b:((j+1:Nat):Int)-1=(j:Int):=by omega
   have a:j<l.length:=by omega
   rw [Ag (show (0:Int)<((j+1:Nat):Int) by omega),Ah rfl,b,Ah (by unfold BM;omega),AM a,Ae,Rn]
   have ne:Eb l[j].1 x.1=false:=by
    cases q:Eb l[j].1 x.1 with
    | false=>rfl
    | true=>rw [MF.2 ⟨_,List.getElem_mem a,(Db _ _).1 q⟩] at hi;cases hi
   rw [ne,Bool.or_false]
   by_cases d:E6 l[j].1 x.1<0
   ·rw [Ag d,Ai (by decide)]
    refine fin fun i h h2=>?_
    rcases Nat.lt_or_ge i j with z | z
    ·exact Rr (List.pairwise_iff_getElem.1 hs i j h2 a z) d
    ·obtain rfl:i=j:=by omega
     exact d
   ·obtain ⟨k,rfl⟩:∃ q,k=q+1:=⟨k-1,by omega⟩
    rw [Af d,Ah (by rfl),Ah (by unfold BM;omega)]
    refine ZgI n l x hs hi hl k m j (by omega) (by omega) (fun i h h2=>?_) (by omega)
    rcases Nat.lt_or_ge j i with z | z
    ·exact hb i (by omega) h2
    ·obtain rfl:i=j:=by omega
     exact d
  ·obtain rfl:at_=0:=by omega
   rw [Af (by decide),Ai (by decide)]
   exact fin fun i h=>absurd h (by omega)
theorem ZeM (n:Nat) (l:List (ByteArray × Vl)) (x:ByteArray × Vl) (hs:SS l) (hi:inN l x.1=false) (hl:l.length≤1000000) (hn:l.length<n):Ir n l x=some (RA l x.1 x.2) :=
 ZgI n l x hs hi hl l.length n l.length (Nat.le_refl _) (Nat.le_refl _) (fun i h a=>by omega) hn
theorem ZgM (rec:Ty→Ty→Vl→Option (Vl × Bool)) (n D:Nat) (a b x y:Ty) (v:Vl) (f:Vl→Option Vl) (ha:a.elem=[x]) (hb:b.elem=[y]) (hD:1≤D) (hl:v.list.length≤100000000)
  (hr:∀ u∈v.list,∃ r,rec x y u=some r∧LA D (f u) r):∀ (k m i:Nat) (acc:List Vl),i+k=v.list.length→k<m→acc.length=i→(∀ u∈acc,u.Nar∧u.depth≤D) →
  ∃ r,DX rec n a b v m i acc=some r∧LA (D+1) ((Va f (v.list.drop i)).bind fun l=>if On v.list.length b=true then some (Vl.mk 8 0 0 ⟨#[]⟩ (acc++l) []) else none) r
 | k,0,i,acc,_,h,_,_=>absurd h (Nat.not_lt_zero _)
 | 0,m+1,i,acc,hi,_,h1,h2=>by
  rw [DX,AC,Ac,Ai (by decide),Hn,List.drop_eq_nil_of_le (by omega),Va,Ae,List.append_nil,BH]
  exact ⟨_,rfl,RL (.mk _ (by simp only [Vl.list];omega) (by simp [Vl.fields]) (by show (⟨#[]⟩:ByteArray).size≤1048576;decide) (fun u hu=>(h2 u hu).1) (by simp [Vl.fields]) (by simp [Vl.fields])) (by
   have:=(Ie acc D).2 fun u hu=>(h2 u hu).2
   simp only [Vl.depth,Gz];omega)⟩
 | k+1,m+1,i,acc,hi,hm,h1,h2=>by
  have c:i<v.list.length:=by omega
  obtain ⟨r,e,⟨u1,u2,u3⟩⟩:=hr _ (List.getElem_mem c)
  rw [DX,AC,Ag c,Ah rfl,AM c,Ae,ha,hb,show B1 [x] 0=some x from rfl,Ae,show B1 [y] 0=some y from rfl,Ae,e,Ae,List.drop_eq_getElem_cons c,Va]
  cases q:f v.list[i] with
  | none =>
   rw [q] at u1
   simp only at u1
   rw [u1,Ah (by rfl),Option.bind_none,Option.bind_none]
   exact ⟨_,rfl,Lc (by omega) rfl⟩
  | some z =>
   rw [q] at u1
   simp only at u1
   subst u1
   rw [Ai (by simp),Ab,Ah (AK (by omega))]
   obtain ⟨r,e,u⟩:=ZgM rec n D a b x y v f ha hb hD hl hr k m (i+1) (acc++[z]) (by omega) (by omega) (by simp;omega) (fun u hu=>by
    rcases List.mem_append.1 hu with hu | hu
    ·exact h2 u hu
    ·rw [List.mem_singleton] at hu;subst hu;exact ⟨u2,u3⟩)
   refine ⟨r,e,?_⟩
   rw [Ae]
   simp only [List.append_assoc,List.singleton_append] at u
   cases w:Va f (v.list.drop (i+1)) with
   | none=>rw [w] at u;exact u
   | some l=>rw [w] at u;exact u
theorem Zdi (rec:Ty→Ty→Vl→Option (Vl × Bool)) (n D:Nat) (a b x y:Ty) (v:Vl) (f:Vl→Option Vl) (ha:a.elem=[x]) (hb:b.elem=[y]) (hD:1≤D) (hl:v.list.length≤100000000)
  (hr:∀ u∈v.list,∃ r,rec x y u=some r∧LA D (f u) r):∀ (k m i:Nat) (acc:List Vl),i+k=v.list.length→k<m→acc.length=i→(∀ u∈acc,u.Nar∧u.depth≤D) →
  ∃ r,KJ rec n a b v m i acc=some r∧LA (D+1) ((Va f (v.list.drop i)).bind fun l=>if On v.list.length b=true then some (Vl.mk 8 0 0 ⟨#[]⟩ (acc++l) []) else none) r
 | k,0,i,acc,_,h,_,_=>absurd h (Nat.not_lt_zero _)
 | 0,m+1,i,acc,hi,_,h1,h2=>by
  rw [KJ,AC,Ac,Ai (by decide),Ri,List.drop_eq_nil_of_le (by omega),Va,Ae,List.append_nil,Bo]
  exact ⟨_,rfl,RL (.mk _ (by simp only [Vl.list];omega) (by simp [Vl.fields]) (by show (⟨#[]⟩:ByteArray).size≤1048576;decide) (fun u hu=>(h2 u hu).1) (by simp [Vl.fields]) (by simp [Vl.fields])) (by
   have:=(Ie acc D).2 fun u hu=>(h2 u hu).2
   simp only [Vl.depth,Gz];omega)⟩
 | k+1,m+1,i,acc,hi,hm,h1,h2=>by
  have c:i<v.list.length:=by omega
  obtain ⟨r,e,⟨u1,u2,u3⟩⟩:=hr _ (List.getElem_mem c)
  rw [KJ,AC,Ag c,Ah rfl,ha,hb,show B1 [x] 0=some x from rfl,Ae,show B1 [y] 0=some y from rfl,Ae,AM c,Ae,e,Ae,List.drop_eq_getElem_cons c,Va]
  cases q:f v.list[i] with
  | none =>
   rw [q] at u1
   simp only at u1
   rw [u1,Ah (by rfl),Option.bind_none,Option.bind_none]
   exact ⟨_,rfl,Lc (by omega) rfl⟩
  | some z =>
   rw [q] at u1
   simp only at u1
   subst u1
   rw [Ai (by simp),Ab,Ah (AK (by omega))]
   obtain ⟨r,e,u⟩:=Zdi rec n D a b x y v f ha hb hD hl hr k m (i+1) (acc++[z]) (by omega) (by omega) (by simp;omega) (fun u hu=>by
    rcases List.mem_append.1 hu with hu | hu
    ·exact h2 u hu
    ·rw [List.mem_singleton] at hu;subst hu;exact ⟨u2,u3⟩)
   refine ⟨r,e,?_⟩
   rw [Ae]
   simp only [List.append_assoc,List.singleton_append] at u
   cases w:Va f (v.list.drop (i+1)) with
   | none=>rw [w] at u;exact u
   | some l=>rw [w] at u;exact u
theorem ZbR (n D:Nat) (l:List (ByteArray × Vl)) (hl:l.length≤1000000) (hn:D+1000000001<n) (hnul:∀ p∈l,A3 p.2=false) (hd:(l.map Prod.fst).Nodup) (hv:(Vl.mk 9 0 0 ⟨#[]⟩ [] (BS l)).Nar) (hdp:(Vl.mk 9 0 0 ⟨#[]⟩ [] (BS l)).depth≤D+1):Gm n l=some (Vl.mk 9 0 0 ⟨#[]⟩ [] (BS l)):=by
 have e:=ZV n l hl (by omega) hnul hd l.length n 0 (by omega) (by omega)
 rw [List.take_zero] at e
 have a:EQ n l n 0 []=_:=e
 rw [Gm,a,JK,Ab,JP n _ hv (by omega)]
 rfl
structure Acc (D:Nat) (b:Ty) (i:Nat) (acc:List (ByteArray × Vl)):Prop where
 len:acc.length≤i
 each:∀ p∈acc,p.1.size≤1048576∧p.2.Nar∧p.2.depth≤D∧p.2.kind≠0
 apart:(acc.map Prod.fst++(b.fields.drop i).map fun p=>p.2.1).Nodup
theorem Acc.skip {D:Nat} {b:Ty} {i:Nat} {acc:List (ByteArray × Vl)} (h:Acc D b i acc) (hi:i<b.fields.length):Acc D b (i+1) acc :=
 ⟨Nat.le_succ_of_le h.len,h.each,by
  have:=h.apart
  rw [List.drop_eq_getElem_cons hi,List.map_cons] at this
  exact this.sublist ((List.sublist_cons_self _ _).append_left _)⟩
theorem Acc.push {D:Nat} {b:Ty} {i:Nat} {acc:List (ByteArray × Vl)} (h:Acc D b i acc) (hi:i<b.fields.length) {y:Vl} (hs:b.fields[i].2.1.size≤1048576) (h1:y.Nar) (h2:y.depth≤D) (h3:y.kind≠0):Acc D b (i+1) (acc++[(b.fields[i].2.1,y)]) :=
 ⟨by rw [List.length_append];have:=h.len;simp;omega,fun p hp=>by
  rcases List.mem_append.1 hp with hp | hp
  ·exact h.each p hp
  ·rw [List.mem_singleton] at hp;subst hp;exact ⟨hs,h1,h2,h3⟩,by
  have:=h.apart
  rw [List.drop_eq_getElem_cons hi,List.map_cons] at this
  rw [List.map_append,List.map_singleton,List.append_assoc,List.singleton_append]
  exact this⟩
theorem Acc.names {D:Nat} {b:Ty} {i:Nat} {acc:List (ByteArray × Vl)} (h:Acc D b i acc):(acc.map Prod.fst).Nodup:=h.apart.sublist (List.sublist_append_left _ _)
theorem Acc.new {D:Nat} {b:Ty} {i:Nat} {acc:List (ByteArray × Vl)} (h:Acc D b i acc) (hi:i<b.fields.length):inN (BS acc) b.fields[i].2.1=false:=by
 cases q:inN (BS acc) b.fields[i].2.1 with
 | false=>rfl
 | true =>
  obtain ⟨p,a,e⟩:=MF.1 q
  have:=h.apart
  rw [List.drop_eq_getElem_cons hi,List.map_cons] at this
  have:=(List.nodup_append.1 this).2.2 p.1 (List.mem_map.2 ⟨p,(Gj acc).mem_iff.1 a,rfl⟩) b.fields[i].2.1 (List.mem_cons_self ..)
  exact absurd e this
theorem Acc.sort {D:Nat} {b:Ty} {i:Nat} {acc:List (ByteArray × Vl)} (h:Acc D b i acc) (hi:i<b.fields.length) (y:Vl):RA (BS acc) b.fields[i].2.1 y=BS (acc++[(b.fields[i].2.1,y)]):=by
 refine Y8 _ _ ?_ (Z9 (Ub acc h.names) (h.new hi) y) (Ub _ ?_)
 ·refine ((Rh _ _ _).trans ?_).trans (Gj _).symm
  refine ((Gj acc).cons _).trans ?_
  exact (List.perm_append_singleton _ _).symm
 ·have:=h.apart
  rw [List.drop_eq_getElem_cons hi,List.map_cons] at this
  rw [List.map_append,List.map_singleton]
  exact this.sublist (List.Sublist.append_left (List.singleton_sublist.2 (List.mem_cons_self ..)) _)
theorem Acc.ok {D:Nat} {b:Ty} {i:Nat} {acc:List (ByteArray × Vl)} (h:Acc D b i acc) (hi:i≤100000000):(Vl.mk 9 0 0 ⟨#[]⟩ [] (BS acc)).Nar∧(Vl.mk 9 0 0 ⟨#[]⟩ [] (BS acc)).depth≤D+1:=by
 have c:∀ p∈BS acc,_:=fun p a=>h.each p ((Gj acc).mem_iff.1 a)
 refine ⟨.mk _ (by simp [Vl.list]) (by show (BS acc).length≤_;rw [Hu];have:=h.len;omega) (by show (⟨#[]⟩:ByteArray).size≤1048576;decide) (by simp [Vl.list]) (fun p a=>(c p a).1) (fun p a=>(c p a).2.1),?_⟩
 have:=(Jn (BS acc) D).2 fun p a=>(c p a).2.2.1
 simp only [Vl.depth,GE];omega
theorem Vt {v:Vl} (h:v.kind≠0):A3 v=false:=by rw [A3,Af h];simp
theorem Ll {o:Option (List (ByteArray × Vl))} {acc:List (ByteArray × Vl)} {x:ByteArray × Vl}:(o.map fun l=>Vl.mk 9 0 0 ⟨#[]⟩ [] (BS ((acc++[x])++l)))=(o.map fun l=>[x]++l).map fun l=>Vl.mk 9 0 0 ⟨#[]⟩ [] (BS (acc++l)):=by
 cases o with
 | none=>rfl
 | some l=>simp only [Option.map_some,List.append_assoc]
theorem TE {o:Option (List (ByteArray × Vl))}:(o.map fun l=>[]++l)=o:=by cases o<;>rfl
structure RecH (rec:Ty→Ty→Vl→Option (Vl × Bool)) (n D:Nat) (a b:Ty) (v:Vl) (f:Ty→Ty→Vl→Option Vl):Prop where
 vk:v.kind=9
 vl:v.fields.length≤100000000
 al:a.fields.length≤1000000
 bl:b.fields.length≤1000000
 nn:D+2000000000<n
 hD:1≤D
 hc:∀ q∈v.fields,Bm n q.2=some q.2
 bn:∀ g∈b.fields,g.2.1.size≤1048576
 hr:∀ g∈b.fields,∀ p,Gx a.fields g.1=some p→∀ x,DG v p.2.1=some x→∃ r,rec p.2.2.2.1 g.2.2.2.1 x=some r∧LA D (f p.2.2.2.1 g.2.2.2.1 x) r∧∀ y,f p.2.2.2.1 g.2.2.2.1 x=some y→y.kind≠0
 hd:∀ g∈b.fields,g.2.2.1=3→∃ x,g.2.2.2.2=[x]∧x.Nar∧x.depth≤D∧x.kind≠0
theorem Zjw {rec:Ty→Ty→Vl→Option (Vl × Bool)} {n D:Nat} {a b:Ty} {v:Vl} {f:Ty→Ty→Vl→Option Vl} (H:RecH rec n D a b v f):∀ (k m i:Nat) (acc:List (ByteArray × Vl)),i+k=b.fields.length→k<m→Acc D b i acc →
  ∃ r,A2 rec n a b v m acc i=some r∧LA (D+1) ((T8 f a v (b.fields.drop i)).map fun l=>Vl.mk 9 0 0 ⟨#[]⟩ [] (BS (acc++l))) r
 | k,0,i,acc,_,h,_=>absurd h (Nat.not_lt_zero _)
 | 0,m+1,i,acc,hi,_,ha=>by
  have F:=H.bl
  have K:=H.nn
  have N:=ha.len
  obtain ⟨w,t⟩:=ha.ok (by omega)
  rw [A2,AC,Ac,Ai (by decide),E0,ZbR n D acc (by omega) (by omega) (fun p hp=>Vt (ha.each p hp).2.2.2) ha.names w t,List.drop_eq_nil_of_le (by omega),T8,Option.map_some,List.append_nil]
  exact ⟨_,rfl,rfl,w,t⟩
 | k+1,m+1,i,acc,hi,hm,ha=>by
  have d:i<b.fields.length:=by omega
  have j:=List.getElem_mem d
  have F:=H.bl
  have J:=H.al
  have K:=H.nn
  have E:=H.vl
  have N:=ha.len
  have go:∀ c,Acc D b (i+1) c→∃ r,Bq rec n (A2 rec n a b v m) i c=some r∧LA (D+1) ((T8 f a v (b.fields.drop (i+1))).map fun l=>Vl.mk 9 0 0 ⟨#[]⟩ [] (BS (c++l))) r:=fun c h=>by
   obtain ⟨r,e,u⟩:=Zjw H k m (i+1) c (by omega) (by omega) h
   rw [Bq,Ah (AK (by omega))]
   exact ⟨r,e,u⟩
  rw [A2,AC,Ag d,Ah rfl,AM d,Ae,NS n a.fields _ (by omega) (by omega),Ae,ZbB n v _ H.vk (by omega) (by omega) H.hc,Ae,List.drop_eq_getElem_cons d,T8]
  have g:O3 f a v b.fields[i]=Zbt b.fields[i]→∃ r,(if decide (b.fields[i].2.2.1=1)=true then some (Vl.mk 0 0 0 ⟨#[]⟩ [] [],false) else if decide (b.fields[i].2.2.1=3)=true then (B1 b.fields[i].2.2.2.2 0).bind fun s=>if (acc.length+1)*104≤140737488355328∧acc.length+1≤4611686018427387904 then Bq rec n (A2 rec n a b v m) i (acc++[(b.fields[i].2.1,s)]) else none else Bq rec n (A2 rec n a b v m) i acc)=some r∧LA (D+1) (((O3 f a v b.fields[i]).bind fun o=>(T8 f a v (b.fields.drop (i+1))).map fun l=>o++l).map fun l=>Vl.mk 9 0 0 ⟨#[]⟩ [] (BS (acc++l))) r:=fun q=>by
   rw [q,Zbt]
   by_cases c1:b.fields[i].2.2.1=1
   ·rw [Ag c1,Ah rfl,Ah c1]
    exact ⟨_,rfl,Lc (by omega) rfl⟩
   rw [Af c1,Ai (by decide),Ai c1]
   by_cases c3:b.fields[i].2.2.1=3
   ·obtain ⟨x,hx,z,O,G⟩:=H.hd _ j c3
    rw [Ag c3,Ah rfl,Ah c3,hx,show B1 [x] 0=some x from rfl,Ae,Ab]
    obtain ⟨r,e,u⟩:=go _ (ha.push d (H.bn _ j) z O G)
    rw [Ll] at u
    exact ⟨r,e,u⟩
   ·rw [Af c3,Ai (by decide),Ai c3]
    obtain ⟨r,e,u⟩:=go _ (ha.skip d)
    refine ⟨r,e,?_⟩
    rw [Ae,TE]
    exact u
  cases hp:Gx a.fields b.fields[i].1 with
  | none =>
   rw [Ai (by simp)]
   exact g (by rw [O3,hp])
  | some p =>
   simp only [Option.getD_some,Option.isSome_some,Bool.true_and]
   cases hx:DG v p.2.1 with
   | none =>
    rw [Ai (by simp)]
    exact g (by rw [O3,hp];simp only [hx])
   | some x =>
    obtain ⟨r,e,⟨u1,U,Q⟩,C⟩:=H.hr _ j p hp x hx
    have ef:O3 f a v b.fields[i]=(f p.2.2.2.1 b.fields[i].2.2.2.1 x).map fun y=>[(b.fields[i].2.1,y)]:=by rw [O3,hp];simp only [hx]
    rw [Ah Option.isSome_some,Option.getD_some,e,Ae,ef]
    cases q:f p.2.2.2.1 b.fields[i].2.2.2.1 x with
    | none =>
     rw [q] at u1
     simp only at u1
     rw [u1,Ah (by rfl)]
     exact ⟨_,rfl,Lc (by omega) rfl⟩
    | some y =>
     rw [q] at u1
     simp only at u1
     subst u1
     rw [Ai (by simp),Ab]
     obtain ⟨r,e,u⟩:=go _ (ha.push d (H.bn _ j) U Q (C y q))
     rw [Ll] at u
     exact ⟨r,e,u⟩
theorem Zdx {rec:Ty→Ty→Vl→Option (Vl × Bool)} {n D:Nat} {a b:Ty} {v:Vl} {f:Ty→Ty→Vl→Option Vl} (H:RecH rec n D a b v f):∀ (k m i:Nat) (acc:List (ByteArray × Vl)),i+k=b.fields.length→k<m→Acc D b i acc →
  ∃ r,FH rec n a b v m i (BS acc)=some r∧LA (D+1) ((T8 f a v (b.fields.drop i)).map fun l=>Vl.mk 9 0 0 ⟨#[]⟩ [] (BS (acc++l))) r
 | k,0,i,acc,_,h,_=>absurd h (Nat.not_lt_zero _)
 | 0,m+1,i,acc,hi,_,ha=>by
  have O:=H.bl
  obtain ⟨F,U⟩:=ha.ok (by omega)
  rw [FH,AC,Ac,Ai (by decide),Rf,List.drop_eq_nil_of_le (by omega),T8,Option.map_some,List.append_nil]
  exact ⟨_,rfl,rfl,F,U⟩
 | k+1,m+1,i,acc,hi,hm,ha=>by
  have c:i<b.fields.length:=by omega
  have j:=List.getElem_mem c
  have O:=H.bl
  have Q:=H.al
  have V:=H.nn
  have E:=H.vl
  have Y:=ha.len
  have s:∀ y,Ir n (BS acc) (b.fields[i].2.1,y)=some (BS (acc++[(b.fields[i].2.1,y)])):=fun y=>by
   rw [ZeM n (BS acc) (b.fields[i].2.1,y) (Ub acc ha.names) (ha.new c) (by rw [Hu];omega) (by rw [Hu];omega),ha.sort c y]
  have go:∀ d,Acc D b (i+1) d→∃ r,IX rec n (FH rec n a b v m) i (BS d)=some r∧LA (D+1) ((T8 f a v (b.fields.drop (i+1))).map fun l=>Vl.mk 9 0 0 ⟨#[]⟩ [] (BS (d++l))) r:=fun d h=>by
   obtain ⟨r,e,u⟩:=Zdx H k m (i+1) d (by omega) (by omega) h
   rw [IX,Ah (AK (by omega))]
   exact ⟨r,e,u⟩
  rw [FH,AC,Ag c,Ah rfl,AM c,Ae,NE n a _ (by omega) (by omega),Ae,ZeF n v _ (by omega) (by omega),Ae,List.drop_eq_getElem_cons c,T8]
  have g:O3 f a v b.fields[i]=Zbt b.fields[i]→∃ r,(if decide (b.fields[i].2.2.1=1)=true then some (Vl.mk 0 0 0 ⟨#[]⟩ [] [],false) else if decide (b.fields[i].2.2.1=3)=true then (B1 b.fields[i].2.2.2.2 0).bind fun w=>(Ir n (BS acc) (b.fields[i].2.1,w)).bind fun t=>IX rec n (FH rec n a b v m) i t else IX rec n (FH rec n a b v m) i (BS acc))=some r∧LA (D+1) (((O3 f a v b.fields[i]).bind fun o=>(T8 f a v (b.fields.drop (i+1))).map fun l=>o++l).map fun l=>Vl.mk 9 0 0 ⟨#[]⟩ [] (BS (acc++l))) r:=fun q=>by
   rw [q,Zbt]
   by_cases c1:b.fields[i].2.2.1=1
   ·rw [Ag c1,Ah rfl,Ah c1]
    exact ⟨_,rfl,Lc (by omega) rfl⟩
   rw [Af c1,Ai (by decide),Ai c1]
   by_cases c3:b.fields[i].2.2.1=3
   ·obtain ⟨x,hx,K,C,z⟩:=H.hd _ j c3
    rw [Ag c3,Ah rfl,Ah c3,hx,show B1 [x] 0=some x from rfl,Ae,s,Ae]
    obtain ⟨r,e,u⟩:=go _ (ha.push c (H.bn _ j) K C z)
    rw [Ll] at u
    exact ⟨r,e,u⟩
   ·rw [Af c3,Ai (by decide),Ai c3]
    obtain ⟨r,e,u⟩:=go _ (ha.skip c)
    refine ⟨r,e,?_⟩
    rw [Ae,TE]
    exact u
  cases hp:Gx a.fields b.fields[i].1 with
  | none =>
   rw [Ai (by simp)]
   exact g (by rw [O3,hp])
  | some p =>
   simp only [Option.getD_some,Option.isSome_some,Bool.true_and]
   cases hx:DG v p.2.1 with
   | none =>
    rw [Ai (by simp)]
    exact g (by rw [O3,hp];simp only [hx])
   | some x =>
    obtain ⟨r,e,⟨u1,J,G⟩,N⟩:=H.hr _ j p hp x hx
    have ef:O3 f a v b.fields[i]=(f p.2.2.2.1 b.fields[i].2.2.2.1 x).map fun y=>[(b.fields[i].2.1,y)]:=by rw [O3,hp];simp only [hx]
    rw [Ah Option.isSome_some,Option.getD_some,e,Ae,ef]
    cases q:f p.2.2.2.1 b.fields[i].2.2.2.1 x with
    | none =>
     rw [q] at u1
     simp only at u1
     rw [u1,Ah (by rfl)]
     exact ⟨_,rfl,Lc (by omega) rfl⟩
    | some y =>
     rw [q] at u1
     simp only at u1
     subst u1
     rw [Ai (by simp),s,Ae]
     obtain ⟨r,e,u⟩:=go _ (ha.push c (H.bn _ j) J G (N y q))
     rw [Ll] at u
     exact ⟨r,e,u⟩
end Go.Proofs.YtmcnjijeocmkgaaGreatDoor
