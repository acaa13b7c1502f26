/-
  Part 7 of the proof: rules and walks that the claim's last text uses.
-/
import Derived.Shelf.Vars
import Derived.Test.YtmcnjijeocmkgaaGreatDoorLa6
set_option linter.unusedSimpArgs false
set_option linter.unusedVariables false
set_option maxRecDepth 100000
set_option maxHeartbeats 4000000
namespace Go.Proofs.YtmcnjijeocmkgaaGreatDoor
open Go Go.RowKit Go.Ev
def He (rec:Ty→Option Bool) (n:Nat) (g:Ty):Option Bool :=
 (EV n g.elem (fun (b:Ty)=>rec b)).bind fun q =>
 if q then
  some (true)
 else
  (AL n g.fields (fun (b:Int × ByteArray × Int × Ty × List Vl)=>Ek rec b)).bind fun h =>
  some (h)
def ET:Nat→Ty→Option Bool
 | 0,_=>none
 | n+1,b=>He (ET n) n b
def Hf (w0:World) (F:Ty→Option Bool):Prop:=∀ (B:Ao) (Rw:Av) (L:As) (b:Ty) (r:Bool),F b=some r→ACalls Tryz.prog w0 166 [.agg (b.cs)] ⟨B,Rw,L⟩ fun x st=>x = .val (.bool r)∧st=⟨B,Rw,L⟩
theorem M5 (w0:World) (rec:Ty→Option Bool) (ih:Hf w0 rec) (n:Nat):Hf w0 (He rec n):=by
 intro B Rw L a0 r h
 rw [He] at h
 refine hd [.tmp 2] Tryz.func166 Tryz.ntmps166 fun M0 W0 s m l a q k hs=>?_
 simp only [AA]
 refine rg [1] hs ?_
 apply An;intro K2 c
 obtain ⟨o,g,h⟩:=bind_some h
 rcases Bool.eq_false_or_eq_true (o) with hf4 | hf4
 ·replace h:=Bq h hf4
  have hs:=Ae hf4 hs
  refine rk 3 [2] hs ?_
  refine Ax _ (Hn w0 n _ _ _ a0.elem 166 [] (fun (b:Ty)=>rec b) (fun b r e j rows' f d=>by exact ih _ _ _ b _ e) _ g) (hv hs) ?_
  refine nc hs ?_
  refine G4 ?_
  refine ne hs c ?_
  clear c
  exact rt h hs a k
 ·replace h:=Bo h hf4
  obtain ⟨p,i,h⟩:=bind_some h
  have hs:=Ae hf4 hs
  refine rk 3 [2] hs ?_
  refine Ax _ (Hn w0 n _ _ _ a0.elem 166 [] (fun (b:Ty)=>rec b) (fun b r e j rows' f d=>by exact ih _ _ _ b _ e) _ g) (hv hs) ?_
  refine nc hs ?_
  refine Ax _ (Dj w0 n _ _ _ a0.fields 246 [] (fun (b:Int × ByteArray × Int × Ty × List Vl)=>Ek rec b) (fun b r e j rows' f d=>by exact M4 w0 rec ih _ _ _ b _ e) _ i) (hv hs) ?_
  refine ne hs c ?_
  clear c
  exact rt h hs a k
theorem Jq (w0:World):∀ n:Nat,Hf w0 (ET n)
 | 0=>fun _ _ _ _ _ h=>(nomatch h)
 | n+1=>M5 w0 (ET n) (Jq w0 n) n
def J7 (n:Nat)  (b:ByteArray):Option ByteArray :=
 some (b)
def HL (n:Nat) (y:List Part):Nat→ByteArray→Int→Option ByteArray
 | 0,_,_=>none
 | m+1,h,g =>
  if decide (g<(y.length:Int)) then
   (Cj y g).bind fun q =>
   (HV n ([Part.mk 1 0 ((⟨#[120]⟩:ByteArray)),q])).bind fun b =>
   if 0≤(if (b.1.size:Int)<1 then (b.1.size:Int) else 1)∧(if (b.1.size:Int)<1 then (b.1.size:Int) else 1)≤(b.1.size:Int)∧(b.1.size:Int)≤(b.1.size:Int) then
    if h.size+(b.1.extract ((if (b.1.size:Int)<1 then (b.1.size:Int) else 1)).toNat b.1.size).size≤9223372036854775807 then
     if Bg (g+1) then
      (HL n y m) (h++(b.1.extract ((if (b.1.size:Int)<1 then (b.1.size:Int) else 1)).toNat b.1.size)) (g+1)
     else none
    else none
   else none
  else
   J7 n h
def ID (n:Nat) (b:ByteArray) (g:List Part):Option ByteArray :=
 HL n g n b 0
theorem Nb (w0:World) (hP:Pow10 w0) (n:Nat) (B:Ao) (Rw:Av) (L:As) (a0:ByteArray) (a1:List Part) (r:ByteArray) (h:ID n a0 a1=some r) :
  ACalls Tryz.prog w0 167 [.val (.string a0),.list (a1.map AG) .none] ⟨B,Rw,L⟩ fun x st=>x = .val (.string r)∧st=⟨B,Rw,L⟩:=by
 rw [ID] at h
 refine hd [.tmp 4] Tryz.func167 Tryz.ntmps167 fun M0 W0 z l k c J i hs=>?_
 simp only [AA]
 refine rg [0,1] hs ?_
 refine AB (fun e st=>∃ (g:ByteArray),Ck e st B Rw L [(0,true,.val (.string g))] [] [] (J7 n g=some r)) ?_ ?_
 ·intro K4 C
  refine rg [0,9,10,11] hs ?_
  apply Ar
  refine AC (fun m e st=>∃ (d:ByteArray) (b:Int),Ck e st B Rw L [(0,true,.val (.string d)),(9,true,.list (a1.map AG) .none),(10,true,Am (a1.length:Int)),(11,true,Am b)] [] [] (HL n a1 m d b=some r)) n ⟨a0,0,([]),Rw,ef hs,ef hs,i,h⟩ ?_
  rintro ml6 e st ⟨d,b,Xl6,Rl6,rfl,rfl,i,h⟩ Ul6 Vl6
  cases ml6 with
  | zero=>cases h
  | succ ml6 =>
  rw [HL] at h
  refine td z l k c i ?_
  refine rg [0,9,10,11,12] hs ?_
  apply An;intro K8 w
  refine B6 h hs ?_ ?_<;>intro hs h
  rotate_left
  ·refine sx [0] hs C ?_
   exact ⟨d,([]),Rl6,ef hs,ef hs,i,h⟩
  refine sk [0,9,10,11] hs w ?_
  clear w
  apply An;intro K10 v
  apply Ar
  obtain ⟨E,y,h⟩:=bind_some h
  obtain ⟨F,D,o⟩:=Bl y
  have p:=Bn (f:=AG) o
  have hs:=Ae p hs
  refine rg [0,6,9,10,11] hs ?_
  obtain ⟨H,u,h⟩:=bind_some h
  refine rc 2 [0,7,9,10,11] hs ?_;intro K13 j
  refine Ax _ (Qa w0 hP n _ _ _ ([Part.mk 1 0 ((⟨#[120]⟩:ByteArray)),E]) _ u) (hv hs) ?_
  refine ne hs j ?_
  clear j
  obtain ⟨G,h⟩:=Aw h
  obtain ⟨t,h⟩:=Aw h
  have q:=t
  try simp +decide only [go_sem] at q
  exact go (tg (a:=([0,9,10,11],[0,9,10,11],()))) h hs z l k c i trivial (q2 v (fun e s=>Vl6 ml6 e s (Nat.lt_succ_self _)))
 ·clear h;rintro e st ⟨g,Xk3,Rk3,rfl,rfl,i,h⟩
  rw [J7] at h
  refine td z l k c i ?_
  refine rg [4] hs ?_
  exact rt h hs c i
def DC (n:Nat) (a0:Cps) (a1:ByteArray):Option (Ex × Bool × Bool) :=
 (Do n a1).bind fun q =>
 if !(decide (q.2=0)) then
  some ((Ex.mk 0 0 (⟨#[]⟩:ByteArray) ([]) ([]),false,false))
 else
  (CQ n q.1 ([bodyP])).bind fun y9 =>
  if !y9 then
   some ((Ex.mk 0 0 (⟨#[]⟩:ByteArray) ([]) ([]),false,false))
  else
   if 0≤1∧1≤(q.1.length:Int)∧(q.1.length:Int)≤(q.1.length:Int) then
    (Ed n a0.targets (fun (x0:List Part)=>BQ n x0 (q.1.drop 1))).bind fun y =>
    if decide (y<0) then
     (Et n a0 (q.1.drop 1)).bind fun z =>
     some ((z.1,z.2.1,z.2.2))
    else
     (Cj a0.rules y).bind fun b =>
     (Cj a0.targets y).bind fun g =>
     (HF n a0.mid g).bind fun h =>
     if 0≤(g.length:Int)∧(g.length:Int)≤((q.1.drop 1).length:Int)∧((q.1.drop 1).length:Int)≤((q.1.drop 1).length:Int) then
      if h.2 then
       (ET n h.1.2.2.2.1).bind fun y31 =>
       if y31 then
        some ((Ex.mk 0 0 (⟨#[]⟩:ByteArray) ([]) ([]),false,false))
       else
        if (decide (((((q.1.drop 1).drop g.length).length:Int))=0))&&(decide (h.1.2.2.1=3)) then
         some ((Ex.mk 23 0 (⟨#[]⟩:ByteArray) ([]) ([b.2,Ex.mk 1 0 (⟨#[]⟩:ByteArray) h.1.2.2.2.2 ([])]),true,true))
        else
         if decide (((((q.1.drop 1).drop g.length).length:Int))=0) then
          some ((b.2,decide (b.2.op=1),true))
         else
          if (!(decide (b.2.op=2)))||(decide (h.1.2.2.1=3)) then
           some ((Ex.mk 0 0 (⟨#[]⟩:ByteArray) ([]) ([]),false,false))
          else
           (ID n b.2.text ((q.1.drop 1).drop g.length)).bind fun y44 =>
           some ((Ex.mk 2 0 y44 ([]) ([]),false,true))
      else
       if ((decide (((((q.1.drop 1).drop g.length).length:Int))=0))&&h.2)&&(decide (h.1.2.2.1=3)) then
        some ((Ex.mk 23 0 (⟨#[]⟩:ByteArray) ([]) ([b.2,Ex.mk 1 0 (⟨#[]⟩:ByteArray) h.1.2.2.2.2 ([])]),true,true))
       else
        if decide (((((q.1.drop 1).drop g.length).length:Int))=0) then
         some ((b.2,decide (b.2.op=1),true))
        else
         if !(decide (b.2.op=2)) then
          some ((Ex.mk 0 0 (⟨#[]⟩:ByteArray) ([]) ([]),false,false))
         else
          (ID n b.2.text ((q.1.drop 1).drop g.length)).bind fun y56 =>
          some ((Ex.mk 2 0 y56 ([]) ([]),false,true))
     else none
   else none
theorem Jz (w0:World) (hB:PM w0) (hE:JX w0) (hM:Kp w0) (hP:Pow10 w0) (n:Nat) (B:Ao) (Rw:Av) (L:As) (la0:Nat) (a0:Cps) (hla0:B[la0]? = some (.list (a0.rules.map Bd) .none::(.list (a0.targets.map (I8 AG)) .none::(a0.mid.cs)))) (a1:ByteArray) (r:Ex × Bool × Bool) (h:DC n a0 a1=some r) :
  ACalls Tryz.prog w0 76 [.box la0 0,.val (.string a1)] ⟨B,Rw,L⟩ fun x st=>x = .tup [.agg (r.1.cs),.val (.bool r.2.1),.val (.bool r.2.2)]∧st=⟨B,Rw,L⟩:=by
 rw [DC] at h
 refine hd [.cell 4 65,.tmp 5,.tmp 6] Tryz.func76 Tryz.ntmps76 fun M0 W0 hN bf bc g hu q hs=>?_
 simp only [AA]
 have ay:=(Ak.1 hla0).1
 apply An;intro K1 aw
 apply Au 1 [0,1,4]
 rw [Ap];simp +decide only [go_sem,Nat.reduceAdd,Aq hla0,or_true]
 (repeat' apply Ae)<;>first | refine aw _ _ ?_ | exact cl
 clear aw
 apply An;intro K2 ar
 obtain ⟨u,a7,h⟩:=bind_some h
 apply Au 2 [0,4,7,8]
 rw [Ap];simp +decide only [go_sem,Nat.reduceAdd,Aq hla0,or_true]
 (repeat' apply Ae)<;>first | refine Ax _ (Il w0 hE hM hP n _ _ _ a1 _ a7) (by first | rfl | (simp +decide only [go_sem,Nat.reduceAdd,Aq hla0,or_true];done) | (simp +decide only [go_sem,Nat.reduceAdd,Vl.cs,Ty.cs,Aq hla0,or_true];done)) ?_ | exact cl
 rw [Ap];simp +decide only [go_sem,Nat.reduceAdd,Aq hla0,or_true]
 (repeat' apply Ae)<;>first | refine ar _ _ ?_ | exact cl
 clear ar
 apply An;intro K4 ao
 apply An;intro K5 z
 refine ZcF 0 (.list [.agg [Am bodyP.kind,Am bodyP.index,.val (.string bodyP.name)]] .none) (by decide) ?_
 rcases Bool.eq_false_or_eq_true (!(decide (u.2=0))) with hf6 | hf6
 ·replace h:=Bq h hf6
  apply Au 2 [0,4,7,28]
  rw [Ap];simp +decide only [go_sem,Nat.reduceAdd,Aq hla0,or_true,hf6,hB]
  (repeat' apply Ae)<;>first | refine G4 ?_ | exact cl
  rw [Ap];simp +decide only [go_sem,Nat.reduceAdd,Aq hla0,or_true,hf6,hB]
  (repeat' apply Ae)<;>first | refine z _ _ ?_ | exact cl
  clear z
  refine A4 true ev (by simp +decide only [go_sem,Nat.reduceAdd,Aq hla0,or_true,hf6]) (fun hb7=>?_) (fun hb7=>by cases hb7)
  apply An;intro K8 aq
  apply Au 1 [4,5,6]
  rw [Ap];simp +decide only [go_sem,Nat.reduceAdd,Aq hla0,or_true,hf6]
  (repeat' apply Ae)<;>first | refine aq _ _ ?_ | exact cl
  clear aq
  apply A0;simp +decide only [go_sem,Nat.reduceAdd,Aq hla0,or_true,hf6]
  have hgt:=Option.some.inj h;subst hgt
  first | refine Cb g rfl q.pre ev ⟨?_,rfl⟩ | refine DT g rfl q.pre ev ⟨?_,rfl⟩
  first | rfl | (simp +decide only [go_sem,Nat.reduceAdd,Aq hla0,or_true,hf6];done) | (simp +decide only [go_sem,Nat.reduceAdd,Vl.cs,Ty.cs,Aq hla0,or_true,hf6];done)
 ·replace h:=Bo h hf6
  obtain ⟨y9,a3,h⟩:=bind_some h
  apply Au 2 [0,4,7,28]
  rw [Ap];simp +decide only [go_sem,Nat.reduceAdd,Aq hla0,or_true,hf6,hB]
  (repeat' apply Ae)<;>first | refine Ax _ (CX w0 n _ _ _ u.1 ([bodyP]) _ a3) (by first | rfl | (simp +decide only [go_sem,Nat.reduceAdd,Aq hla0,or_true,hf6,hB];done) | (simp +decide only [go_sem,Nat.reduceAdd,Vl.cs,Ty.cs,Aq hla0,or_true,hf6,hB];done)) ?_ | exact cl
  rw [Ap];simp +decide only [go_sem,Nat.reduceAdd,Aq hla0,or_true,hf6,hB]
  (repeat' apply Ae)<;>first | refine z _ _ ?_ | exact cl
  clear z
  refine A4 (!y9) ev (by first | (simp +decide only [go_sem,Nat.reduceAdd,Aq hla0,or_true,hf6];done) | (simp +decide only [go_sem,Nat.reduceAdd,Aq hla0,or_true,hf6];rfl)) (fun d=>?_) (fun d=>?_)
  ·replace h:=Bq h d
   apply An;intro K11 G
   apply Au 1 [4,5,6]
   rw [Ap];simp +decide only [go_sem,Nat.reduceAdd,Aq hla0,or_true,hf6,d]
   (repeat' apply Ae)<;>first | refine G _ _ ?_ | exact cl
   clear G
   apply A0;simp +decide only [go_sem,Nat.reduceAdd,Aq hla0,or_true,hf6,d]
   have hgt:=Option.some.inj h;subst hgt
   first | refine Cb g rfl q.pre ev ⟨?_,rfl⟩ | refine DT g rfl q.pre ev ⟨?_,rfl⟩
   first | rfl | (simp +decide only [go_sem,Nat.reduceAdd,Aq hla0,or_true,hf6,d];done) | (simp +decide only [go_sem,Nat.reduceAdd,Vl.cs,Ty.cs,Aq hla0,or_true,hf6,d];done)
  replace h:=Bo h d
  refine sk [0,4,7] hs ao ?_
  clear ao
  apply An;intro K12 ah
  obtain ⟨ba,h⟩:=Aw h
  apply Au 1 [0,4,9]
  rw [Ap];simp +decide only [go_sem,Nat.reduceAdd,Aq hla0,or_true,hf6,d]
  (repeat' apply Ae)<;>first | refine ah _ _ ?_ | exact cl
  clear ah
  apply An;intro K14 ae
  obtain ⟨a2,ak,h⟩:=bind_some h
  apply Au 2 [0,4,9,10]
  rw [Ap];simp +decide only [go_sem,Nat.reduceAdd,Aq hla0,or_true,hf6,d]
  (repeat' apply Ae)<;>first | refine Ax _ (Ib w0 n _ _ _ a0.targets 163 [.box (B.length+1) 0] (fun (x0:List Part)=>BQ n x0 (u.1.drop 1)) (fun x0 r hx B' rows' a5 bh=>by exact I3 w0 n _ _ _ x0 _ (u.1.drop 1) (Di a5 (by simp +decide only [go_sem,Nat.reduceAdd,Aq hla0,or_true,hf6,d])) _ hx) _ ak) (by first | rfl | (simp +decide only [go_sem,Nat.reduceAdd,Aq hla0,or_true,hf6,d];done) | (simp +decide only [go_sem,Nat.reduceAdd,Vl.cs,Ty.cs,Aq hla0,or_true,hf6,d];done)) ?_ | exact cl
  rw [Ap];simp +decide only [go_sem,Nat.reduceAdd,Aq hla0,or_true,hf6,d]
  (repeat' apply Ae)<;>first | refine ae _ _ ?_ | exact cl
  clear ae
  apply An;intro K16 D
  apply An;intro K17 F
  apply Au 1 [0,4,9,10,39]
  rw [Ap];simp +decide only [go_sem,Nat.reduceAdd,Aq hla0,or_true,hf6,d]
  (repeat' apply Ae)<;>first | refine F _ _ ?_ | exact cl
  clear F
  refine A4 (decide (a2<0)) ev (by first | (simp +decide only [go_sem,Nat.reduceAdd,Aq hla0,or_true,hf6,d];done) | (simp +decide only [go_sem,Nat.reduceAdd,Aq hla0,or_true,hf6,d];rfl)) (fun e=>?_) (fun e=>?_)
  ·replace h:=Bq h e
   apply An;intro K19 aa
   obtain ⟨bd,au,h⟩:=bind_some h
   apply Au 2 [4,5,6]
   rw [Ap];simp +decide only [go_sem,Nat.reduceAdd,Aq hla0,or_true,hf6,d,e]
   (repeat' apply Ae)<;>first | refine Ax _ (Ku w0 hP n _ _ _ la0 a0 (by simp +decide only [go_sem,Nat.reduceAdd,Aq hla0,or_true,hf6,d,e]) (u.1.drop 1) _ au) (by first | rfl | (simp +decide only [go_sem,Nat.reduceAdd,Aq hla0,or_true,hf6,d,e];done) | (simp +decide only [go_sem,Nat.reduceAdd,Vl.cs,Ty.cs,Aq hla0,or_true,hf6,d,e];done)) ?_ | exact cl
   rw [Ap];simp +decide only [go_sem,Nat.reduceAdd,Aq hla0,or_true,hf6,d,e]
   (repeat' apply Ae)<;>first | refine aa _ _ ?_ | exact cl
   clear aa
   apply A0;simp +decide only [go_sem,Nat.reduceAdd,Aq hla0,or_true,hf6,d,e]
   have hgt:=Option.some.inj h;subst hgt
   first | refine Cb g rfl q.pre ev ⟨?_,rfl⟩ | refine DT g rfl q.pre ev ⟨?_,rfl⟩
   first | rfl | (simp +decide only [go_sem,Nat.reduceAdd,Aq hla0,or_true,hf6,d,e];done) | (simp +decide only [go_sem,Nat.reduceAdd,Vl.cs,Ty.cs,Aq hla0,or_true,hf6,d,e];done)
  replace h:=Bo h e
  refine sk [0,4,9,10] hs D ?_
  clear D
  apply An;intro K21 Y
  obtain ⟨y,a6,a8,c,h⟩:=ix Bd h
  obtain ⟨t,a9,a4,b,h⟩:=ix (I8 AG) h
  apply Hu PS [15,16] [0,4,9,11,12] kr (fun s=>∃ (X:Ao) (rows:Av),s=⟨B++([[Am 0,Am 0,.val (.string (⟨#[]⟩:ByteArray)),.list ([]) .full,.list ([]) .full],[.list ((u.1.drop 1).map AG) .none]]++X),rows,L⟩) 3 (B.length+2)
  ·simp +decide only [go_sem,Nat.reduceAdd]
  ·rintro s ⟨X,rows,rfl⟩
   refine ⟨1,?_⟩
   rw [Ap];simp +decide only [go_sem,Nat.reduceAdd,C6,Aq hla0,or_true,hf6,d,e,c,b]
   (repeat' apply Ae)<;>first | rfl | exact cl
  ·exact gd (tg (a:=(15,16,[0,4,9,11,12]))) (Ae b (Ae c (Ae hf6 (Ae or_true (Ae (Aq hla0) hs)))))
  simp +decide only [go_sem,Nat.reduceAdd,Aq hla0,or_true,hf6,d,e,c,b]
  (repeat' apply Ae)<;>first | refine Y _ _ ?_ | exact cl
  clear Y
  apply An;intro K24 U
  obtain ⟨p,am,h⟩:=bind_some h
  apply Au 2 [4,9,11,12,13,14]
  rw [Ap];simp +decide only [go_sem,Nat.reduceAdd,Aq hla0,or_true,hf6,d,e,c,b]
  (repeat' apply Ae)<;>first | refine Ax _ (MV w0 n _ _ _ a0.mid t _ am) (by first | rfl | (simp +decide only [go_sem,Nat.reduceAdd,Aq hla0,or_true,hf6,d,e,c,b];done) | (simp +decide only [go_sem,Nat.reduceAdd,Vl.cs,Ty.cs,Aq hla0,or_true,hf6,d,e,c,b];done)) ?_ | exact cl
  rw [Ap];simp +decide only [go_sem,Nat.reduceAdd,Aq hla0,or_true,hf6,d,e,c,b]
  (repeat' apply Ae)<;>first | refine U _ _ ?_ | exact cl
  clear U
  apply An;intro K26 O
  obtain ⟨bb,h⟩:=Aw h
  apply Au 1 [4,11,13,14,15]
  rw [Ap];simp +decide only [go_sem,Nat.reduceAdd,Aq hla0,or_true,hf6,d,e,c,b]
  (repeat' apply Ae)<;>first | refine O _ _ ?_ | exact cl
  clear O
  apply An;intro K28 v
  apply Ar
  apply An;intro K29 w
  rcases Bool.eq_false_or_eq_true (p.2) with hf30 | hf30
  ·replace h:=Bq h hf30
   obtain ⟨az,ax,h⟩:=bind_some h
   apply Au 2 [4,11,13,14,15,74]
   rw [Ap];simp +decide only [go_sem,Nat.reduceAdd,Aq hla0,or_true,hf6,d,e,c,b,hf30]
   (repeat' apply Ae)<;>first | refine Ax _ (Jq w0 n _ _ _ p.1.2.2.2.1 _ ax) (by first | rfl | (simp +decide only [go_sem,Nat.reduceAdd,Aq hla0,or_true,hf6,d,e,c,b,hf30];done) | (simp +decide only [go_sem,Nat.reduceAdd,Vl.cs,Ty.cs,Aq hla0,or_true,hf6,d,e,c,b,hf30];done)) ?_ | exact cl
   rw [Ap];simp +decide only [go_sem,Nat.reduceAdd,Aq hla0,or_true,hf6,d,e,c,b,hf30]
   (repeat' apply Ae)<;>first | refine w _ _ ?_ | exact cl
   clear w
   refine A4 (az) ev (by first | (simp +decide only [go_sem,Nat.reduceAdd,Aq hla0,or_true,hf6,d,e,c,b,hf30];done) | (simp +decide only [go_sem,Nat.reduceAdd,Aq hla0,or_true,hf6,d,e,c,b,hf30];rfl)) (fun f=>?_) (fun f=>?_)
   ·replace h:=Bq h f
    apply An;intro K33 ab
    apply Au 1 [4,5,6]
    rw [Ap];simp +decide only [go_sem,Nat.reduceAdd,Aq hla0,or_true,hf6,d,e,c,b,hf30,f]
    (repeat' apply Ae)<;>first | refine ab _ _ ?_ | exact cl
    clear ab
    apply A0;simp +decide only [go_sem,Nat.reduceAdd,Aq hla0,or_true,hf6,d,e,c,b,hf30,f]
    have hgt:=Option.some.inj h;subst hgt
    first | refine Cb g rfl q.pre ev ⟨?_,rfl⟩ | refine DT g rfl q.pre ev ⟨?_,rfl⟩
    first | rfl | (simp +decide only [go_sem,Nat.reduceAdd,Aq hla0,or_true,hf6,d,e,c,b,hf30,f];done) | (simp +decide only [go_sem,Nat.reduceAdd,Vl.cs,Ty.cs,Aq hla0,or_true,hf6,d,e,c,b,hf30,f];done)
   replace h:=Bo h f
   apply An;intro K34 C
   apply Au 1 [4,11,13,14,15,82]
   rw [Ap];simp +decide only [go_sem,Nat.reduceAdd,Aq hla0,or_true,hf6,d,e,c,b,hf30,f]
   (repeat' apply Ae)<;>first | refine C _ _ ?_ | exact cl
   clear C
   refine A4 ((decide (((((u.1.drop 1).drop t.length).length:Int))=0))&&(decide (p.1.2.2.1=3))) ev (by first | (simp +decide only [go_sem,Nat.reduceAdd,Aq hla0,or_true,hf6,d,e,c,b,hf30,f];done) | (simp +decide only [go_sem,Nat.reduceAdd,Aq hla0,or_true,hf6,d,e,c,b,hf30,f];rfl)) (fun j=>?_) (fun j=>?_)
   ·replace h:=Bq h j
    apply An;intro K36 E
    apply Au 1 [4,5,6]
    rw [Ap];simp +decide only [go_sem,Nat.reduceAdd,Aq hla0,or_true,hf6,d,e,c,b,hf30,f,j]
    (repeat' apply Ae)<;>first | refine E _ _ ?_ | exact cl
    clear E
    apply A0;simp +decide only [go_sem,Nat.reduceAdd,Aq hla0,or_true,hf6,d,e,c,b,hf30,f,j]
    have hgt:=Option.some.inj h;subst hgt
    first | refine Cb g rfl q.pre ev ⟨?_,rfl⟩ | refine DT g rfl q.pre ev ⟨?_,rfl⟩
    first | rfl | (simp +decide only [go_sem,Nat.reduceAdd,Aq hla0,or_true,hf6,d,e,c,b,hf30,f,j];done) | (simp +decide only [go_sem,Nat.reduceAdd,Vl.cs,Ty.cs,Aq hla0,or_true,hf6,d,e,c,b,hf30,f,j];done)
   replace h:=Bo h j
   apply An;intro K37 ai
   apply Au 1 [4,11,13,14,15,100]
   rw [Ap];simp +decide only [go_sem,Nat.reduceAdd,Aq hla0,or_true,hf6,d,e,c,b,hf30,f,j]
   (repeat' apply Ae)<;>first | refine ai _ _ ?_ | exact cl
   clear ai
   refine A4 (decide (((((u.1.drop 1).drop t.length).length:Int))=0)) ev (by first | (simp +decide only [go_sem,Nat.reduceAdd,Aq hla0,or_true,hf6,d,e,c,b,hf30,f,j];done) | (simp +decide only [go_sem,Nat.reduceAdd,Aq hla0,or_true,hf6,d,e,c,b,hf30,f,j];rfl)) (fun k=>?_) (fun k=>?_)
   ·replace h:=Bq h k
    apply An;intro K39 Q
    apply Hu PS [4] [4,5,6] kr (fun s=>∃ (X:Ao) (rows:Av) (c0:List AV),s=⟨B++([c0,[.list ((u.1.drop 1).map AG) .none],y.2.cs,Am p.1.1::(.val (.string p.1.2.1)::(Am p.1.2.2.1::((p.1.2.2.2.1.cs)++([.list (p.1.2.2.2.2.map CZ) .none]))))]++X),rows,L⟩) 2 (B.length+4)
    ·simp +decide only [go_sem,Nat.reduceAdd]
    ·rintro s ⟨X,rows,c0,rfl⟩
     refine ⟨1,?_⟩
     rw [Ap];simp +decide only [go_sem,Nat.reduceAdd,C6,Aq hla0,or_true,hf6,d,e,c,b,hf30,f,j,k]
     (repeat' apply Ae)<;>first | rfl | exact cl
    ·exact gd (tg (a:=(4,[4,5,6]))) (Ae hf30 (Ae b (Ae c (Ae hf6 (Ae or_true (Ae (Aq hla0) hs))))))
    simp +decide only [go_sem,Nat.reduceAdd,Aq hla0,or_true,hf6,d,e,c,b,hf30,f,j,k]
    (repeat' apply Ae)<;>first | refine Q _ _ ?_ | exact cl
    clear Q
    apply A0;simp +decide only [go_sem,Nat.reduceAdd,Aq hla0,or_true,hf6,d,e,c,b,hf30,f,j,k]
    have hgt:=Option.some.inj h;subst hgt
    first | refine Cb g rfl q.pre ev ⟨?_,rfl⟩ | refine DT g rfl q.pre ev ⟨?_,rfl⟩
    first | rfl | (simp +decide only [go_sem,Nat.reduceAdd,Aq hla0,or_true,hf6,d,e,c,b,hf30,f,j,k];done) | (simp +decide only [go_sem,Nat.reduceAdd,Vl.cs,Ty.cs,Aq hla0,or_true,hf6,d,e,c,b,hf30,f,j,k];done)
   replace h:=Bo h k
   apply An;intro K40 H
   apply Au 1 [4,11,15,108]
   rw [Ap];simp +decide only [go_sem,Nat.reduceAdd,Aq hla0,or_true,hf6,d,e,c,b,hf30,f,j,k]
   (repeat' apply Ae)<;>first | refine H _ _ ?_ | exact cl
   clear H
   refine A4 ((!(decide (y.2.op=2)))||(decide (p.1.2.2.1=3))) ev (by first | (simp +decide only [go_sem,Nat.reduceAdd,Aq hla0,or_true,hf6,d,e,c,b,hf30,f,j,k];done) | (simp +decide only [go_sem,Nat.reduceAdd,Aq hla0,or_true,hf6,d,e,c,b,hf30,f,j,k];rfl)) (fun m=>?_) (fun m=>?_)
   ·replace h:=Bq h m
    apply An;intro K42 V
    apply Au 1 [4,5,6]
    rw [Ap];simp +decide only [go_sem,Nat.reduceAdd,Aq hla0,or_true,hf6,d,e,c,b,hf30,f,j,k,m]
    (repeat' apply Ae)<;>first | refine V _ _ ?_ | exact cl
    clear V
    apply A0;simp +decide only [go_sem,Nat.reduceAdd,Aq hla0,or_true,hf6,d,e,c,b,hf30,f,j,k,m]
    have hgt:=Option.some.inj h;subst hgt
    first | refine Cb g rfl q.pre ev ⟨?_,rfl⟩ | refine DT g rfl q.pre ev ⟨?_,rfl⟩
    first | rfl | (simp +decide only [go_sem,Nat.reduceAdd,Aq hla0,or_true,hf6,d,e,c,b,hf30,f,j,k,m];done) | (simp +decide only [go_sem,Nat.reduceAdd,Vl.cs,Ty.cs,Aq hla0,or_true,hf6,d,e,c,b,hf30,f,j,k,m];done)
   replace h:=Bo h m
   refine sk [4,11,15] hs v ?_
   clear v
   apply An;intro K43 aj
   obtain ⟨be,av,h⟩:=bind_some h
   apply Au 2 [4,5,6]
   rw [Ap];simp +decide only [go_sem,Nat.reduceAdd,Aq hla0,or_true,hf6,d,e,c,b,hf30,f,j,k,m]
   (repeat' apply Ae)<;>first | refine Ax _ (Nb w0 hP n _ _ _ y.2.text ((u.1.drop 1).drop t.length) _ av) (by first | rfl | (simp +decide only [go_sem,Nat.reduceAdd,Aq hla0,or_true,hf6,d,e,c,b,hf30,f,j,k,m];done) | (simp +decide only [go_sem,Nat.reduceAdd,Vl.cs,Ty.cs,Aq hla0,or_true,hf6,d,e,c,b,hf30,f,j,k,m];done)) ?_ | exact cl
   rw [Ap];simp +decide only [go_sem,Nat.reduceAdd,Aq hla0,or_true,hf6,d,e,c,b,hf30,f,j,k,m]
   (repeat' apply Ae)<;>first | refine aj _ _ ?_ | exact cl
   clear aj
   apply A0;simp +decide only [go_sem,Nat.reduceAdd,Aq hla0,or_true,hf6,d,e,c,b,hf30,f,j,k,m]
   have hgt:=Option.some.inj h;subst hgt
   first | refine Cb g rfl q.pre ev ⟨?_,rfl⟩ | refine DT g rfl q.pre ev ⟨?_,rfl⟩
   first | rfl | (simp +decide only [go_sem,Nat.reduceAdd,Aq hla0,or_true,hf6,d,e,c,b,hf30,f,j,k,m];done) | (simp +decide only [go_sem,Nat.reduceAdd,Vl.cs,Ty.cs,Aq hla0,or_true,hf6,d,e,c,b,hf30,f,j,k,m];done)
  ·replace h:=Bo h hf30
   apply Au 2 [4,11,13,14,15,74]
   rw [Ap];simp +decide only [go_sem,Nat.reduceAdd,Aq hla0,or_true,hf6,d,e,c,b,hf30]
   (repeat' apply Ae)<;>first | refine G4 ?_ | exact cl
   rw [Ap];simp +decide only [go_sem,Nat.reduceAdd,Aq hla0,or_true,hf6,d,e,c,b,hf30]
   (repeat' apply Ae)<;>first | refine w _ _ ?_ | exact cl
   clear w
   refine A4 false ev (by simp +decide only [go_sem,Nat.reduceAdd,Aq hla0,or_true,hf6,d,e,c,b,hf30]) (fun hb45=>by cases hb45) (fun hb45=>?_)
   apply An;intro K46 ad
   apply Au 1 [4,11,13,14,15,82]
   rw [Ap];simp +decide only [go_sem,Nat.reduceAdd,Aq hla0,or_true,hf6,d,e,c,b,hf30]
   (repeat' apply Ae)<;>first | refine ad _ _ ?_ | exact cl
   clear ad
   refine A4 (((decide (((((u.1.drop 1).drop t.length).length:Int))=0))&&p.2)&&(decide (p.1.2.2.1=3))) ev (by first | (simp +decide only [go_sem,Nat.reduceAdd,Aq hla0,or_true,hf6,d,e,c,b,hf30];done) | (simp +decide only [go_sem,Nat.reduceAdd,Aq hla0,or_true,hf6,d,e,c,b,hf30];rfl)) (fun i=>?_) (fun i=>?_)
   ·replace h:=Bq h i
    apply An;intro K48 Z
    apply Au 1 [4,5,6]
    rw [Ap];simp +decide only [go_sem,Nat.reduceAdd,Aq hla0,or_true,hf6,d,e,c,b,hf30,i]
    (repeat' apply Ae)<;>first | refine Z _ _ ?_ | exact cl
    clear Z
    apply A0;simp +decide only [go_sem,Nat.reduceAdd,Aq hla0,or_true,hf6,d,e,c,b,hf30,i]
    have hgt:=Option.some.inj h;subst hgt
    first | refine Cb g rfl q.pre ev ⟨?_,rfl⟩ | refine DT g rfl q.pre ev ⟨?_,rfl⟩
    first | rfl | (simp +decide only [go_sem,Nat.reduceAdd,Aq hla0,or_true,hf6,d,e,c,b,hf30,i];done) | (simp +decide only [go_sem,Nat.reduceAdd,Vl.cs,Ty.cs,Aq hla0,or_true,hf6,d,e,c,b,hf30,i];done)
   replace h:=Bo h i
   apply An;intro K49 J
   apply Au 1 [4,11,13,14,15,100]
   rw [Ap];simp +decide only [go_sem,Nat.reduceAdd,Aq hla0,or_true,hf6,d,e,c,b,hf30,i]
   (repeat' apply Ae)<;>first | refine J _ _ ?_ | exact cl
   clear J
   refine A4 (decide (((((u.1.drop 1).drop t.length).length:Int))=0)) ev (by first | (simp +decide only [go_sem,Nat.reduceAdd,Aq hla0,or_true,hf6,d,e,c,b,hf30,i];done) | (simp +decide only [go_sem,Nat.reduceAdd,Aq hla0,or_true,hf6,d,e,c,b,hf30,i];rfl)) (fun l=>?_) (fun l=>?_)
   ·replace h:=Bq h l
    apply An;intro K51 ag
    apply Hu PS [4] [4,5,6] kr (fun s=>∃ (X:Ao) (rows:Av) (c0:List AV),s=⟨B++([c0,[.list ((u.1.drop 1).map AG) .none],y.2.cs,Am p.1.1::(.val (.string p.1.2.1)::(Am p.1.2.2.1::((p.1.2.2.2.1.cs)++([.list (p.1.2.2.2.2.map CZ) .none]))))]++X),rows,L⟩) 2 (B.length+4)
    ·simp +decide only [go_sem,Nat.reduceAdd]
    ·rintro s ⟨X,rows,c0,rfl⟩
     refine ⟨1,?_⟩
     rw [Ap];simp +decide only [go_sem,Nat.reduceAdd,C6,Aq hla0,or_true,hf6,d,e,c,b,hf30,i,l]
     (repeat' apply Ae)<;>first | rfl | exact cl
    ·exact gd (tg (a:=(4,[4,5,6]))) (Ae hf30 (Ae b (Ae c (Ae hf6 (Ae or_true (Ae (Aq hla0) hs))))))
    simp +decide only [go_sem,Nat.reduceAdd,Aq hla0,or_true,hf6,d,e,c,b,hf30,i,l]
    (repeat' apply Ae)<;>first | refine ag _ _ ?_ | exact cl
    clear ag
    apply A0;simp +decide only [go_sem,Nat.reduceAdd,Aq hla0,or_true,hf6,d,e,c,b,hf30,i,l]
    have hgt:=Option.some.inj h;subst hgt
    first | refine Cb g rfl q.pre ev ⟨?_,rfl⟩ | refine DT g rfl q.pre ev ⟨?_,rfl⟩
    first | rfl | (simp +decide only [go_sem,Nat.reduceAdd,Aq hla0,or_true,hf6,d,e,c,b,hf30,i,l];done) | (simp +decide only [go_sem,Nat.reduceAdd,Vl.cs,Ty.cs,Aq hla0,or_true,hf6,d,e,c,b,hf30,i,l];done)
   replace h:=Bo h l
   apply An;intro K52 K
   apply Au 1 [4,11,15,108]
   rw [Ap];simp +decide only [go_sem,Nat.reduceAdd,Aq hla0,or_true,hf6,d,e,c,b,hf30,i,l]
   (repeat' apply Ae)<;>first | refine K _ _ ?_ | exact cl
   clear K
   refine A4 (!(decide (y.2.op=2))) ev (by first | (simp +decide only [go_sem,Nat.reduceAdd,Aq hla0,or_true,hf6,d,e,c,b,hf30,i,l];done) | (simp +decide only [go_sem,Nat.reduceAdd,Aq hla0,or_true,hf6,d,e,c,b,hf30,i,l];rfl)) (fun o=>?_) (fun o=>?_)
   ·replace h:=Bq h o
    apply An;intro K54 af
    apply Au 1 [4,5,6]
    rw [Ap];simp +decide only [go_sem,Nat.reduceAdd,Aq hla0,or_true,hf6,d,e,c,b,hf30,i,l,o]
    (repeat' apply Ae)<;>first | refine af _ _ ?_ | exact cl
    clear af
    apply A0;simp +decide only [go_sem,Nat.reduceAdd,Aq hla0,or_true,hf6,d,e,c,b,hf30,i,l,o]
    have hgt:=Option.some.inj h;subst hgt
    first | refine Cb g rfl q.pre ev ⟨?_,rfl⟩ | refine DT g rfl q.pre ev ⟨?_,rfl⟩
    first | rfl | (simp +decide only [go_sem,Nat.reduceAdd,Aq hla0,or_true,hf6,d,e,c,b,hf30,i,l,o];done) | (simp +decide only [go_sem,Nat.reduceAdd,Vl.cs,Ty.cs,Aq hla0,or_true,hf6,d,e,c,b,hf30,i,l,o];done)
   replace h:=Bo h o
   refine sk [4,11,15] hs v ?_
   clear v
   apply An;intro K55 N
   obtain ⟨bg,ap,h⟩:=bind_some h
   apply Au 2 [4,5,6]
   rw [Ap];simp +decide only [go_sem,Nat.reduceAdd,Aq hla0,or_true,hf6,d,e,c,b,hf30,i,l,o]
   (repeat' apply Ae)<;>first | refine Ax _ (Nb w0 hP n _ _ _ y.2.text ((u.1.drop 1).drop t.length) _ ap) (by first | rfl | (simp +decide only [go_sem,Nat.reduceAdd,Aq hla0,or_true,hf6,d,e,c,b,hf30,i,l,o];done) | (simp +decide only [go_sem,Nat.reduceAdd,Vl.cs,Ty.cs,Aq hla0,or_true,hf6,d,e,c,b,hf30,i,l,o];done)) ?_ | exact cl
   rw [Ap];simp +decide only [go_sem,Nat.reduceAdd,Aq hla0,or_true,hf6,d,e,c,b,hf30,i,l,o]
   (repeat' apply Ae)<;>first | refine N _ _ ?_ | exact cl
   clear N
   apply A0;simp +decide only [go_sem,Nat.reduceAdd,Aq hla0,or_true,hf6,d,e,c,b,hf30,i,l,o]
   have hgt:=Option.some.inj h;subst hgt
   first | refine Cb g rfl q.pre ev ⟨?_,rfl⟩ | refine DT g rfl q.pre ev ⟨?_,rfl⟩
   first | rfl | (simp +decide only [go_sem,Nat.reduceAdd,Aq hla0,or_true,hf6,d,e,c,b,hf30,i,l,o];done) | (simp +decide only [go_sem,Nat.reduceAdd,Vl.cs,Ty.cs,Aq hla0,or_true,hf6,d,e,c,b,hf30,i,l,o];done)
def Ee (n:Nat)  (b0_k5:Ex) (pla2_k5:Bool):Option (Ex × Bool) :=
 some ((b0_k5,pla2_k5))
def Im (n:Nat) (b:Ex) (q:Cps) (h:Bool):Option (Ex × Bool) :=
 (DC n q b.text).bind fun g =>
 if !g.2.2 then
  Ee n b false
 else
  if decide (b.op=2) then
   some ((g.1,h))
  else
   if decide (g.1.op=2) then
    Ee n (Ex.mk b.op b.int g.1.text b.value b.args) h
   else
    if (decide (b.op=22))&&g.2.1 then
     some ((Ex.mk 1 0 (⟨#[]⟩:ByteArray) ([Vl.mk 1 1 0 (⟨#[]⟩:ByteArray) ([]) ([])]) ([]),h))
    else
     Ee n b false
theorem Pg (w0:World) (hB:PM w0) (hE:JX w0) (hM:Kp w0) (hP:Pow10 w0) (n:Nat) (B:Ao) (Rw:Av) (L:As) (a0:Ex) (la1 la1p:Nat) (a1:Cps) (hla1:B[la1]? = some [.box la1p 0]) (hla1p:B[la1p]? = some (.list (a1.rules.map Bd) .none::(.list (a1.targets.map (I8 AG)) .none::(a1.mid.cs)))) (la2:Nat) (a2:Bool) (hla2:B[la2]? = some ([.val (.bool a2)])) (r:Ex × Bool) (h:Im n a0 a1 a2=some r) :
  ACalls Tryz.prog w0 75 [.agg (a0.cs),.box la1 0,.box la2 0] ⟨B,Rw,L⟩ fun x st=>x = .agg (r.1.cs)∧st=⟨(B.set la2 [.val (.bool r.2)]),Rw,L⟩:=by
 rw [Im] at h
 refine hd [.cell 4 65] Tryz.func75 Tryz.ntmps75 fun M0 W0 u l j d v g hs=>?_
 simp only [AA]
 have q:=(Ak.1 hla1).1
 have m:=(Ak.1 hla1p).1
 have o:=(Ak.1 hla2).1
 have hs:=Ae (Aq hla1) hs
 have hs:=Ae (Aq hla1p) hs
 have hs:=Ae (Aq hla2) hs
 refine rg [1,2,3,4] hs ?_
 obtain ⟨p,t,h⟩:=bind_some h
 refine rc 2 [2,3,4,5,6,7] hs ?_;intro K2 k
 refine Ax _ (Jz w0 hB hE hM hP n _ _ _ la1p a1 (ef hs) a0.text _ t) (hv hs) ?_
 refine ne hs k ?_
 clear k
 refine AB (fun e st=>∃ (f:Ex) (b:Bool) (c:List AV) (Xk5:Ao) (Rk5:Av),e=[(3,true,.box B.length 0),(4,true,.box (B.length+1) 0)]∧st=⟨(B.set la2 ([.val (.bool b)]))++([c,[Am 0,Am 0,.val (.string (⟨#[]⟩:ByteArray)),.list ([]) .full,.list ([]) .full],p.1.cs]++Xk5),Rk5,L⟩∧Owns Rw Rk5 []∧c.map AV.pubCell=f.cs∧Ee n f b=some r) ?_ ?_
 ·intro K6 i
  apply Ar
  refine rg [2,3,4,5,6,16] hs ?_
  refine B6 h hs ?_ ?_<;>intro hs h
  ·refine rl [3,4] hs i ?_
   exact ⟨a0,false,_,([]),Rw,ef hs,ef hs,g,ef hs,h⟩
  refine rg [2,3,4,5,6,19] hs ?_
  refine B6 h hs ?_ ?_<;>intro hs h
  ·refine rg [4] hs ?_
   exact rt h hs d g
  refine rg [2,3,4,5,6,24] hs ?_
  refine B6 h hs ?_ ?_<;>intro hs h
  ·have hs:=Ae (Ex.cs_eqs a0) hs
   refine rl [3,4] hs i ?_
   exact ⟨(Ex.mk a0.op a0.int p.1.text a0.value a0.args),a2,([Am a0.op,Am a0.int,.val (.string p.1.text),.list (a0.value.map CZ) .none,.list (a0.args.map Rl) .none]),([]),Rw,ef (cm hs),ef (cm hs),g,ef (cm hs),h⟩
  refine rg [2,3,4,31] hs ?_
  refine B6 h hs ?_ ?_<;>intro hs h
  ·refine rg [4] hs ?_
   exact rt h hs d g
  refine rl [3,4] hs i ?_
  exact ⟨a0,false,_,([]),Rw,ef hs,ef hs,g,ef hs,h⟩
 ·clear h;rintro e st ⟨f,b,c,Xk5,Rk5,rfl,rfl,g,s,h⟩
  rw [Ee] at h
  refine E6 B.length (by first | rfl | (simp only [FC,D8,D6,C4];rfl)) s ?_;simp +decide only [go_sem,Nat.reduceAdd]
  show DF _ _ _ _ _ _ _ _ [(3,true,.box B.length 0),(4,true,.box (B.length+1) 0)] ⟨(B.set la2 ([.val (.bool b)]))++([f.cs,[Am 0,Am 0,.val (.string (⟨#[]⟩:ByteArray)),.list ([]) .full,.list ([]) .full],p.1.cs]++Xk5),Rk5,L⟩
  refine A1 u l j X9 (CH d ev) g ow ow ?_
  exact go (tg (a:=([4],()))) h hs u l j d g trivial trivial
def Ij (rec:Ex→Cps→Bool→Option (Ex × Bool)) (n:Nat) (g:Ex) (b:List Ex) (plc1_k16:Bool):Option (Ex × Bool) :=
 some ((Ex.mk g.op g.int g.text g.value b,plc1_k16))
def Gk (rec:Ex→Cps→Bool→Option (Ex × Bool)) (n:Nat) (q:Ex) (c1_0:Cps):Nat→(List Ex)→Int→Bool→Option (Ex × Bool)
 | 0,_,_,_=>none
 | m+1,g,b,plc1_l19 =>
  if decide (b<(q.args.length:Int)) then
   (Cj q.args b).bind fun y =>
   (rec y c1_0 plc1_l19).bind fun h =>
   if (g.length+1)*80≤140737488355328∧g.length+1≤4611686018427387904 then
    if Bg (b+1) then
     (Gk rec n q c1_0 m) (g++([h.1])) (b+1) h.2
    else none
   else none
  else
   Ij rec n q g plc1_l19
def EZ (rec:Ex→Cps→Bool→Option (Ex × Bool)) (n:Nat) (h:Ex) (c1_0:Cps) (c1_1:Bool) (b:Bool):Option (Ex × Bool) :=
 if b then
  (Im n h c1_0 c1_1).bind fun g =>
  some ((g.1,g.2))
 else
  Gk rec n h c1_0 n ([]) 0 c1_1
def J8 (rec:Ex→Cps→Bool→Option (Ex × Bool)) (n:Nat) (b:Ex) (c1_0:Cps) (c1_1:Bool):Option (Ex × Bool) :=
 if decide (b.op=2) then
  EZ rec n b c1_0 c1_1 true
 else
  if decide (b.op=22) then
   EZ rec n b c1_0 c1_1 true
  else
   EZ rec n b c1_0 c1_1 (decide (b.op=26))
def HG:Nat→Ex→Cps→Bool→Option (Ex × Bool)
 | 0,_,_,_=>none
 | n+1,b,c1_0,c1_1=>J8 (HG n) n b c1_0 c1_1
def JV (w0:World) (F:Ex→Cps→Bool→Option (Ex × Bool)):Prop:=∀ (B:Ao) (Rw:Av) (L:As) (b:Ex) (lc0 lc0p:Nat) (c1_0:Cps) (hlc0:B[lc0]? = some [.box lc0p 0]) (hlc0p:B[lc0p]? = some (.list (c1_0.rules.map Bd) .none::(.list (c1_0.targets.map (I8 AG)) .none::(c1_0.mid.cs)))) (lc1:Nat) (c1_1:Bool) (hlc1:B[lc1]? = some ([.val (.bool c1_1)])) (hne_lc1_lc0:lc1≠lc0) (hne_lc1_lc0p:lc1≠lc0p) (r:Ex × Bool),F b c1_0 c1_1=some r→ACalls Tryz.prog w0 77 [.agg (b.cs),.clo 75 [.box lc0 0,.box lc1 0]] ⟨B,Rw,L⟩ fun x st=>x = .agg (r.1.cs)∧st=⟨(B.set lc1 [.val (.bool r.2)]),Rw,L⟩
theorem O4 (w0:World) (hB:PM w0) (hE:JX w0) (hM:Kp w0) (hP:Pow10 w0) (rec:Ex→Cps→Bool→Option (Ex × Bool)) (ih:JV w0 rec) (n:Nat):JV w0 (J8 rec n):=by
 intro B Rw L a0 J N F g d G H k c b r h
 rw [J8] at h
 refine hd [.cell 4 65] Tryz.func77 Tryz.ntmps77 fun M0 W0 Q E D i hu C hs=>?_
 simp only [AA]
 have aj:=(Ak.1 g).1
 have ab:=(Ak.1 d).1
 have ah:=(Ak.1 k).1
 have hs:=Ae (Aq g) hs
 have hs:=Ae (Aq d) hs
 have hs:=Ae (Aq k) hs
 have hs:=Ae (A7 g c) hs
 have hs:=Ae (A7 d b) hs
 refine rg [1,2,4] hs ?_
 apply An;intro K2 Z
 refine rg [1,2,4,9] hs ?_
 apply Ar
 refine AB (fun e st=>∃ (x:Bool),Ck e st B Rw L [(1,true,.clo 75 [.box J 0,.box G 0]),(2,true,.box B.length 0),(4,true,.box (B.length+1) 0),(10,true,.val (.bool x))] [a0.cs,[Am 0,Am 0,.val (.string (⟨#[]⟩:ByteArray)),.list ([]) .full,.list ([]) .full]] [] (EZ rec n a0 F H x=some r)) ?_ ?_
 ·intro K6 ak
  exact go (tg (a:=([1,2,4,9,10],([1,2,4,10],()),[1,2,4,9,10],([1,2,4,10],()),[1,2,4,10],()))) h hs Q E D i C trivial (q1 ak)
 ·clear h;rintro e st ⟨x,Xk5,Rk5,rfl,rfl,C,h⟩
  rw [EZ] at h
  refine td Q E D i C ?_
  refine B6 h hs ?_ ?_<;>intro hs h
  ·have w:=hs.1
   obtain ⟨aq,af,h⟩:=bind_some h
   refine rc 2 [4] hs ?_;intro K12 ae
   refine EI _ (Pg w0 hB hE hM hP n _ _ _ a0 J N F (ef hs) (ef hs) G H (ef hs) _ af) (hv hs) ?_;rintro _ _ ⟨rfl,rfl⟩
   exact go (tg (a:=((),()))) h hs Q E D i C trivial (q1 ae)
  have w:=hs.1
  refine sk [1,2,4] hs Z ?_
  clear Z
  refine rg [1,2,4,5] hs ?_
  refine AB (fun e st=>∃ (q:List Ex) (o:Bool) (u:Ev.Own) (Xk16:Ao) (Rk16:Av),e=[(2,true,.box B.length 0),(4,true,.box (B.length+1) 0),(5,true,.list (q.map Rl) u)]∧st=⟨(B.set G ([.val (.bool o)]))++([a0.cs,[Am 0,Am 0,.val (.string (⟨#[]⟩:ByteArray)),.list ([]) .full,.list ([]) .full]]++Xk16),Rk16,L⟩∧Owns Rw Rk16 [(5,q.length,u)]∧Ij rec n a0 q o=some r) ?_ ?_
  ·intro K17 ad
   refine rg [1,2,4,5,18,19,20] hs ?_
   apply Ar
   refine AC (fun m e st=>∃ (l:List Ex) (t:Int) (j:Bool) (v:Ev.Own) (Xl19:Ao) (Rl19:Av),e=[(1,true,.clo 75 [.box J 0,.box G 0]),(2,true,.box B.length 0),(4,true,.box (B.length+1) 0),(5,true,.list (l.map Rl) v),(18,true,.list (a0.args.map Rl) .none),(19,true,Am (a0.args.length:Int)),(20,true,Am t)]∧st=⟨(B.set G ([.val (.bool j)]))++([a0.cs,[Am 0,Am 0,.val (.string (⟨#[]⟩:ByteArray)),.list ([]) .full,.list ([]) .full]]++Xl19),Rl19,L⟩∧Owns Rw Rl19 [(5,l.length,v)]∧Gk rec n a0 F m l t j=some r) n ⟨([]),0,H,.full,([]),Rk5,ef hs,ef hs,Owns.of_eq ((C).full 5 0) Ew,h⟩ ?_
   rintro ml19 e st ⟨l,t,j,v,Xl19,Rl19,rfl,rfl,C,h⟩ Ul19 Vl19
   cases ml19 with
   | zero=>cases h
   | succ ml19 =>
   rw [Gk] at h
   have hU:=C.unders
   simp only [List.mem_cons,List.not_mem_nil,or_false,forall_eq_or_imp,forall_eq] at hU
   refine A1 Q E D X9 (CH i ev) C ow ow ?_
   refine rg [1,2,4,5,18,19,20,21] hs ?_
   apply An;intro K21 K
   refine B6 h hs ?_ ?_<;>intro hs h
   rotate_left
   ·exact go (tg (a:=([2,4,5],()))) h hs Q E D i C trivial (q1 ad)
   refine sk [1,2,4,5,18,19,20] hs K ?_
   clear K
   apply An;intro K23 Y
   apply Ar
   obtain ⟨ap,aa,h⟩:=bind_some h
   obtain ⟨ao,am,U⟩:=Bl aa
   have V:=Bn (f:=Rl) U
   have hs:=Ae V hs
   refine rg [1,2,4,5,7,18,19,20] hs ?_
   obtain ⟨au,ag,h⟩:=bind_some h
   obtain ⟨O,h⟩:=Aw h
   obtain ⟨ar,ai,C,p⟩:=C.append (P:=Tryz.prog) Zch (by rw [X4];rfl) (by decide) 1 O.1 O.2
   replace p:=fun (ys:List AV) B L o2=>p (l.map Rl) ys B L o2 Ew
   replace p:=fun (y:AV) B L o2=>p [y] B L o2 Ew ev
   try simp only [List.mem_singleton,List.mem_cons,List.not_mem_nil,or_false,forall_eq_or_imp,forall_eq,List.map_append,List.map_cons,List.map_nil,Fe,Fj,Fq,Eu,Eo,Ft,CO,DN,Fz,Ce,Cd,DG,DK,DO,Fg,DL,Fo] at p
   have hs:=Ae p hs
   refine rk 2 [1,2,4,5,18,19,20] hs ?_
   refine EI _ (ih _ _ _ ap J N F (ef hs) (ef hs) G j (ef hs) nq nq _ ag) (hv hs) ?_;rintro _ _ ⟨rfl,rfl⟩
   exact go (tg (a:=([1,2,4,5,18,19,20],()))) h hs Q E D i C trivial (q2 Y (fun e s=>Vl19 ml19 e s (Nat.lt_succ_self _)))
  ·clear h;rintro e st ⟨q,o,u,Xk16,Rk16,rfl,rfl,C,h⟩
   rw [Ij] at h
   have hU:=C.unders
   simp only [List.mem_cons,List.not_mem_nil,or_false,forall_eq_or_imp,forall_eq] at hU
   refine A1 Q E D X9 (CH i ev) C ow ow ?_
   have hs:=Ae (Ex.cs_eqs a0) hs
   refine rg [2,4] hs ?_
   refine rg [4] hs ?_
   apply A0;simp +decide only [go_sem,Nat.reduceAdd,Aq g,Aq d,Aq k,A7 g c,A7 d b,w,Ex.cs_eqs a0]
   have hgt:=Option.some.inj h;subst hgt
   first | refine Cb (CH i ev) X9 C.pre ev ⟨?_,(by first | rfl | exact congrArg (fun z=>St.mk z Rw L) (Lt g).symm | exact congrArg (fun z=>St.mk z Rw L) (Lt d).symm | exact congrArg (fun z=>St.mk z Rw L) (Lt k).symm | (simp +decide only [go_sem,Nat.reduceAdd,Aq g,Aq d,Aq k,A7 g c,A7 d b,w,Ex.cs_eqs a0];done))⟩ | refine DT (CH i ev) X9 C.pre ev ⟨?_,(by first | rfl | exact congrArg (fun z=>St.mk z Rw L) (Lt g).symm | exact congrArg (fun z=>St.mk z Rw L) (Lt d).symm | exact congrArg (fun z=>St.mk z Rw L) (Lt k).symm | (simp +decide only [go_sem,Nat.reduceAdd,Aq g,Aq d,Aq k,A7 g c,A7 d b,w,Ex.cs_eqs a0];done))⟩
   first | rfl | (simp +decide only [go_sem,Nat.reduceAdd,Aq g,Aq d,Aq k,A7 g c,A7 d b,w,Ex.cs_eqs a0];done) | (simp +decide only [go_sem,Nat.reduceAdd,Vl.cs,Ty.cs,Aq g,Aq d,Aq k,A7 g c,A7 d b,w,Ex.cs_eqs a0];done)
theorem Jd (w0:World) (hB:PM w0) (hE:JX w0) (hM:Kp w0) (hP:Pow10 w0):∀ n:Nat,JV w0 (HG n)
 | 0=>fun _ _ _ _ _ _ _ _ _ _ _ _ _ _ _ h=>(nomatch h)
 | n+1=>O4 w0 hB hE hM hP (HG n) (Jd w0 hB hE hM hP n) n
def JK (rec:Ex→Option Ex) (n:Nat) (b:Ex) (b2_k21_3:List Vl) (b2_k21_4:List Ex):Option Ex :=
 some (Ex.mk b.op b.int b.text b2_k21_3 b2_k21_4)
def Hz (rec:Ex→Option Ex) (n:Nat) (g:Ex):Nat→Int→(List Vl)→(List Ex)→Option Ex
 | 0,_,_,_=>none
 | m+1,b,b2_l24_3,b2_l24_4 =>
  if decide (b<(g.args.length:Int)) then
   (Cj g.args b).bind fun h =>
   (rec h).bind fun q =>
   if (b2_l24_4.length+1)*80≤140737488355328∧b2_l24_4.length+1≤4611686018427387904 then
    if Bg (b+1) then
     (Hz rec n g m) (b+1) b2_l24_3 (b2_l24_4++([q]))
    else none
   else none
  else
   JK rec n g b2_l24_3 b2_l24_4
def Lc (rec:Ex→Option Ex) (n:Nat) (b:Ex) (b2_k4_3:List Vl):Option Ex :=
 Hz rec n b n 0 b2_k4_3 ([])
def IA (rec:Ex→Option Ex) (n:Nat) (g:Ex):Nat→Int→(List Vl)→Option Ex
 | 0,_,_=>none
 | m+1,b,b2_l7_3 =>
  if decide (b<(g.value.length:Int)) then
   (Cj g.value b).bind fun q =>
   (C5 n q).bind fun h =>
   if (b2_l7_3.length+1)*88≤140737488355328∧b2_l7_3.length+1≤4611686018427387904 then
    if Bg (b+1) then
     (IA rec n g m) (b+1) (b2_l7_3++([h]))
    else none
   else none
  else
   Lc rec n g b2_l7_3
def LV (rec:Ex→Option Ex) (n:Nat) (b:Ex):Option Ex :=
 IA rec n b n 0 ([])
def JD:Nat→Ex→Option Ex
 | 0,_=>none
 | n+1,b=>LV (JD n) n b
def Md (w0:World) (F:Ex→Option Ex):Prop:=∀ (B:Ao) (Rw:Av) (L:As) (b:Ex) (r:Ex),F b=some r→ACalls Tryz.prog w0 168 [.agg (b.cs)] ⟨B,Rw,L⟩ fun x st=>x = .agg (r.cs)∧st=⟨B,Rw,L⟩
theorem QX (w0:World) (rec:Ex→Option Ex) (ih:Md w0 rec) (n:Nat):Md w0 (LV rec n):=by
 intro B Rw L a0 r h
 rw [LV] at h
 refine hd [.cell 2 65] Tryz.func168 Tryz.ntmps168 fun M0 W0 z y x u J w hs=>?_
 simp only [AA]
 refine rg [1,2] hs ?_
 refine rg [1,2,3] hs ?_
 refine AB (fun e st=>∃ (g:List Vl) (k:Ev.Own),Ck e st B Rw L [(1,true,.box B.length 0),(2,true,.box (B.length+1) 0),(3,true,.box (B.length+2) 0)] [a0.cs,[Am 0,Am 0,.val (.string (⟨#[]⟩:ByteArray)),.list ([]) .full,.list ([]) .full],[Am a0.op,Am a0.int,.val (.string a0.text),.list (g.map CZ) k,.list ([]) .full]] [(6,g.length,k)] (Lc rec n a0 g=some r)) ?_ ?_
 ·intro K5 F
  refine rg [1,2,3,16,17,18] hs ?_
  apply Ar
  refine AC (fun m e st=>∃ (v:Int) (p:List Vl) (q:Ev.Own),Ck e st B Rw L [(1,true,.box B.length 0),(2,true,.box (B.length+1) 0),(3,true,.box (B.length+2) 0),(16,true,.list (a0.value.map CZ) .none),(17,true,Am (a0.value.length:Int)),(18,true,Am v)] [a0.cs,[Am 0,Am 0,.val (.string (⟨#[]⟩:ByteArray)),.list ([]) .full,.list ([]) .full],[Am a0.op,Am a0.int,.val (.string a0.text),.list (p.map CZ) q,.list ([]) .full]] [(6,p.length,q)] (IA rec n a0 m v p=some r)) n ⟨0,([]),.full,([]),Rw,ef hs,ef hs,Owns.of_eq ((w).full 6 0) Ew,h⟩ ?_
  rintro ml7 e st ⟨v,p,q,Xl7,Rl7,rfl,rfl,w,h⟩ Ul7 Vl7
  cases ml7 with
  | zero=>cases h
  | succ ml7 =>
  rw [IA] at h
  exact go (tg (a:=([1,2,3,16,17,18,19],([1,2,3,16,17,18],[1,2,3,5,16,17,18],[5,1,2,3,16,17,18],[1,2,3,16,17,18],()),[1,2,3],()))) h hs z y x u w (q2 (ae LZ H2) (Iy w0 n)) (q2 F (fun e s=>Vl7 ml7 e s (Nat.lt_succ_self _)))
 ·clear h;rintro e st ⟨g,k,Xk4,Rk4,rfl,rfl,w,h⟩
  rw [Lc] at h
  have E:=w.unders
  simp only [List.mem_cons,List.not_mem_nil,or_false,forall_eq_or_imp,forall_eq] at E
  refine td z y x u w ?_
  refine AB (fun e st=>∃ (i:List Vl) (j:List Ex) (o:Ev.Own) (l:Ev.Own),Ck e st B Rw L [(2,true,.box (B.length+1) 0),(3,true,.box (B.length+2) 0)] [a0.cs,[Am 0,Am 0,.val (.string (⟨#[]⟩:ByteArray)),.list ([]) .full,.list ([]) .full],[Am a0.op,Am a0.int,.val (.string a0.text),.list (i.map CZ) o,.list (j.map Rl) l]] [(6,i.length,o),(5,j.length,l)] (JK rec n a0 i j=some r)) ?_ ?_
  ·intro K22 C
   refine rg [2,3,31,32,33] hs ?_
   apply Ar
   refine AC (fun m e st=>∃ (t:Int) (b:List Vl) (c:List Ex) (f:Ev.Own) (d:Ev.Own),Ck e st B Rw L [(2,true,.box (B.length+1) 0),(3,true,.box (B.length+2) 0),(31,true,.list (a0.args.map Rl) .none),(32,true,Am (a0.args.length:Int)),(33,true,Am t)] [a0.cs,[Am 0,Am 0,.val (.string (⟨#[]⟩:ByteArray)),.list ([]) .full,.list ([]) .full],[Am a0.op,Am a0.int,.val (.string a0.text),.list (b.map CZ) f,.list (c.map Rl) d]] [(6,b.length,f),(5,c.length,d)] (Hz rec n a0 m t b c=some r)) n ⟨0,g,([]),k,.full,([]),Rk4,ef hs,ef hs,Owns.of_eq (((w).full 5 0).swap (List.Perm.swap _ _ _)) Ew,h⟩ ?_
   rintro ml24 e st ⟨t,b,c,f,d,Xl24,Rl24,rfl,rfl,w,h⟩ Ul24 Vl24
   cases ml24 with
   | zero=>cases h
   | succ ml24 =>
   rw [Hz] at h
   have E:=w.unders
   simp only [List.mem_cons,List.not_mem_nil,or_false,forall_eq_or_imp,forall_eq] at E
   obtain ⟨G,H⟩:=E
   refine td z y x u w ?_
   refine rg [2,3,31,32,33,34] hs ?_
   apply An;intro K26 D
   refine B6 h hs ?_ ?_<;>intro hs h
   rotate_left
   ·refine sx [2,3] hs C ?_
    exact ⟨b,c,f,d,([]),Rl24,ef hs,ef hs,Owns.of_eq (((w).swap (List.Perm.swap _ _ _)).swap (List.Perm.swap _ _ _)) Ew,h⟩
   exact go (tg (a:=([2,3,31,32,33],[2,3,7,31,32,33],[5,2,3,31,32,33],[2,3,31,32,33],()))) h hs z y x u w (q2 (ae Zch X4) ih) (q2 D (fun e s=>Vl24 ml24 e s (Nat.lt_succ_self _)))
  ·clear h;rintro e st ⟨i,j,o,l,Xk21,Rk21,rfl,rfl,w,h⟩
   rw [JK] at h
   exact go (tg (a:=([2],()))) h hs z y x u w trivial trivial
theorem Oi (w0:World):∀ n:Nat,Md w0 (JD n)
 | 0=>fun _ _ _ _ _ h=>(nomatch h)
 | n+1=>QX w0 (JD n) (Oi w0 n) n
def Ie (n:Nat)  (b:List (ByteArray × Ex)):Option ((List (ByteArray × Ex))) :=
 some (b)
def Gz (n:Nat) (y:List (ByteArray × Ex)):Nat→(List (ByteArray × Ex))→Int→Option ((List (ByteArray × Ex)))
 | 0,_,_=>none
 | m+1,g,b =>
  if decide (b<(y.length:Int)) then
   (Cj y b).bind fun h =>
   (JD n h.2).bind fun q =>
   if (g.length+1)*96≤140737488355328∧g.length+1≤4611686018427387904 then
    if Bg (b+1) then
     (Gz n y m) (g++([(h.1,q)])) (b+1)
    else none
   else none
  else
   Ie n g
def Jf (n:Nat) (b:List (ByteArray × Ex)):Option ((List (ByteArray × Ex))) :=
 if 0≤(b.length:Int)∧(b.length:Int)*96≤140737488355328∧(b.length:Int)≤4611686018427387904 then
  Gz n b n ([]) 0
 else none
theorem P2 (w0:World) (n:Nat) (B:Ao) (Rw:Av) (L:As) (a0:List (ByteArray × Ex)) (r:(List (ByteArray × Ex))) (h:Jf n a0=some r) :
  ACalls Tryz.prog w0 78 [.agg ([.list (a0.map Bd) .none])] ⟨B,Rw,L⟩ fun x st=>x = .agg ([.list (r.map Bd) .none])∧st=⟨B,Rw,L⟩:=by
 rw [Jf] at h
 refine hd [.cell 2 49] Tryz.func78 Tryz.ntmps78 fun M0 W0 p l k i t j hs=>?_
 simp only [AA]
 refine rg [1,2] hs ?_
 obtain ⟨q,h⟩:=Aw h
 have j:=j.make 6 0
 refine rg [1,2,3] hs ?_
 refine AB (fun e st=>∃ (b:List (ByteArray × Ex)) (d:Ev.Own),Ck e st B Rw L [(2,true,.box (B.length+1) 0),(3,true,.list (b.map Bd) d)] [[.list (a0.map Bd) .none],[.list ([]) .full]] [(6,b.length,d)] (Ie n b=some r)) ?_ ?_
 ·intro K7 o
  refine rg [2,3,11,12,13] hs ?_
  apply Ar
  refine AC (fun m e st=>∃ (f:List (ByteArray × Ex)) (c:Int) (g:Ev.Own),Ck e st B Rw L [(2,true,.box (B.length+1) 0),(3,true,.list (f.map Bd) g),(11,true,.list (a0.map Bd) .none),(12,true,Am (a0.length:Int)),(13,true,Am c)] [[.list (a0.map Bd) .none],[.list ([]) .full]] [(6,f.length,g)] (Gz n a0 m f c=some r)) n ⟨([]),0,((.row Rw.length)),([]),((Rw++[.grow 0 6])),ef hs,ef hs,Owns.of_eq (j) Ew,h⟩ ?_
  rintro ml9 e st ⟨f,c,g,Xl9,Rl9,rfl,rfl,j,h⟩ Ul9 Vl9
  cases ml9 with
  | zero=>cases h
  | succ ml9 =>
  rw [Gz] at h
  exact go (tg (a:=([2,3,11,12,13,14],([2,3,11,12,13],[2,3,5,11,12,13],[8,2,3,11,12,13],[2,3,11,12,13],()),[2,3],()))) h hs p l k i j (q2 (ae ZbG Xy) (Oi w0 n)) (q2 o (fun e s=>Vl9 ml9 e s (Nat.lt_succ_self _)))
 ·clear h;rintro e st ⟨b,d,Xk6,Rk6,rfl,rfl,j,h⟩
  rw [Ie] at h
  exact go (tg (a:=([2],()))) h hs p l k i j trivial trivial
def It (n:Nat)  (b4_k36_1:List (List Part)) (b6_k36:Bool) (b7_k36_0:List (ByteArray × Ex)):Option ((List (ByteArray × Ex)) × Int) :=
 if !b6_k36 then
  some (([],22))
 else
  (FU n b7_k36_0).bind fun b =>
  if !(decide (b=0)) then
   some (([],b))
  else
   (Jf n b7_k36_0).bind fun g =>
   some ((g,0))
def Gl (n:Nat) (y:List (ByteArray × Ex)) (q:List (ByteArray × Ex)) (z:Ty):Nat→Int→(List (List Part))→Bool→(List (ByteArray × Ex))→Option ((List (ByteArray × Ex)) × Int)
 | 0,_,_,_,_=>none
 | m+1,b,b4_l39_1,b6_l39,b7_l39_0 =>
  if decide (b<(q.length:Int)) then
   (Cj q b).bind fun h =>
   (HG n h.2 (Cps.mk y b4_l39_1 z) b6_l39).bind fun g =>
   if (b7_l39_0.length+1)*96≤140737488355328∧b7_l39_0.length+1≤4611686018427387904 then
    if Bg (b+1) then
     (Gl n y q z m) (b+1) b4_l39_1 g.2 (b7_l39_0++([(h.1,g.1)]))
    else none
   else none
  else
   It n b4_l39_1 b6_l39 b7_l39_0
def Ii (n:Nat) (b:List (ByteArray × Ex)) (g:List (ByteArray × Ex)) (h:Ty) (b4_k15_1:List (List Part)):Option ((List (ByteArray × Ex)) × Int) :=
 Gl n b g h n 0 b4_k15_1 true ([])
def Gx (n:Nat) (g:List (ByteArray × Ex)) (y:List (ByteArray × Ex)) (z:Ty):Nat→Int→(List (List Part))→Option ((List (ByteArray × Ex)) × Int)
 | 0,_,_=>none
 | m+1,b,b4_l18_1 =>
  if decide (b<(g.length:Int)) then
   (Cj g b).bind fun h =>
   (Do n h.1).bind fun q =>
   if (b4_l18_1.length+1)*24≤140737488355328∧b4_l18_1.length+1≤4611686018427387904 then
    if Bg (b+1) then
     (Gx n g y z m) (b+1) (b4_l18_1++([q.1]))
    else none
   else none
  else
   Ii n g y z b4_l18_1
def JY (n:Nat) (b:List (ByteArray × Ex)) (g:List (ByteArray × Ex)) (q:Ty):Option ((List (ByteArray × Ex)) × Int) :=
 (CV n b).bind fun y4 =>
 (CV n g).bind fun z =>
 (Dq n q).bind fun y =>
 (FU n b).bind fun y7 =>
 (FU n g).bind fun y8 =>
 (Eh n ([y4,z,y,y7,y8])).bind fun h =>
 if !(decide (h=0)) then
  some (([],h))
 else
  Gx n b g q n 0 ([])
theorem Q2 (w0:World) (hB:PM w0) (hE:JX w0) (hM:Kp w0) (hP:Pow10 w0) (hT:Lib.Utf8Tabs 2 3 w0) (n:Nat) (B:Ao) (Rw:Av) (L:As) (a0:List (ByteArray × Ex)) (a1:List (ByteArray × Ex)) (a2:Ty) (r:(List (ByteArray × Ex)) × Int) (h:JY n a0 a1 a2=some r) :
  ACalls Tryz.prog w0 26 [.agg ([.list (a0.map Bd) .none]),.agg ([.list (a1.map Bd) .none]),.agg (a2.cs)] ⟨B,Rw,L⟩ fun x st=>x = .tup [.agg ([.list (r.1.map Bd) .none]),Am r.2]∧st=⟨B,Rw,L⟩:=by
 rw [JY] at h
 refine hd [.cell 6 49,.tmp 7] Tryz.func26 Tryz.ntmps26 fun M0 W0 hN Y V E hu J hs=>?_
 simp only [AA]
 refine rg [3,4,5,6] hs ?_
 apply An;intro K2 ay
 obtain ⟨y4,bg,h⟩:=bind_some h
 obtain ⟨y5,bb,h⟩:=bind_some h
 obtain ⟨y6,bc,h⟩:=bind_some h
 obtain ⟨y7,a6,h⟩:=bind_some h
 obtain ⟨y8,ba,h⟩:=bind_some h
 obtain ⟨y9,a7,h⟩:=bind_some h
 apply An;intro K3 a3
 refine dk 13 7 1 [3,4,5,6,8] hs PS ?_
 refine Ax _ (Jj w0 hE hM hP n _ _ _ a0 _ bg) (hv hs) ?_
 refine nc hs ?_
 refine Ax _ (Jj w0 hE hM hP n _ _ _ a1 _ bb) (hv hs) ?_
 refine nc hs ?_
 refine Ax _ (MW w0 hT n _ _ _ a2 _ bc) (hv hs) ?_
 refine nc hs ?_
 refine Ax _ (I9 w0 hE hM hP hT n _ _ _ a0 _ a6) (hv hs) ?_
 refine nc hs ?_
 refine Ax _ (I9 w0 hE hM hP hT n _ _ _ a1 _ ba) (hv hs) ?_
 refine nc hs ?_
 refine Ax _ (KU w0 n _ _ _ ([y4,y5,y6,y7,y8]) _ a7) (hv hs) ?_
 refine dn hs a3 ?_
 clear a3
 refine rg [3,4,5,6,8,33] hs ?_
 refine B6 h hs ?_ ?_<;>intro hs h
 ·have g:=hs.1
  refine rg [6,7] hs ?_
  exact rt h hs E J
 have g:=hs.1
 refine sk [3,4,5,6] hs ay ?_
 clear ay
 have hs:=Ae (Ty.cs_eqs a2) hs
 refine rg [3,4,6,9] hs ?_
 refine AB (fun e st=>∃ (k:List (List Part)) (t:Ev.Own),Ck e st B Rw L [(4,true,.box (B.length+1) 0),(6,true,.box (B.length+3) 0),(9,true,.box (B.length+5) 0)] [[.list (a0.map Bd) .none],[.list (a1.map Bd) .none],a2.cs,[.list ([]) .full],[.list (a0.map Bd) .none,.list (k.map (I8 AG)) t,Am a2.kind,Am a2.min,Am a2.max,Am a2.scale,.list (a2.words.map C0) .none,.list (a2.elem.map IX) .none,.list (a2.fields.map BS) .none],[.box (B.length+4) 0]] [(1,k.length,t)] (Ii n a0 a1 a2 k=some r)) ?_ ?_
 ·intro K16 aq
  refine rg [4,6,9,42,43,44] hs ?_
  apply Ar
  refine AC (fun m e st=>∃ (N:Int) (p:List (List Part)) (w:Ev.Own),Ck e st B Rw L [(4,true,.box (B.length+1) 0),(6,true,.box (B.length+3) 0),(9,true,.box (B.length+5) 0),(42,true,.list (a0.map Bd) .none),(43,true,Am (a0.length:Int)),(44,true,Am N)] [[.list (a0.map Bd) .none],[.list (a1.map Bd) .none],a2.cs,[.list ([]) .full],[.list (a0.map Bd) .none,.list (p.map (I8 AG)) w,Am a2.kind,Am a2.min,Am a2.max,Am a2.scale,.list (a2.words.map C0) .none,.list (a2.elem.map IX) .none,.list (a2.fields.map BS) .none],[.box (B.length+4) 0]] [(1,p.length,w)] (Gx n a0 a1 a2 m N p=some r)) n ⟨0,([]),.full,([]),Rw,ef hs,ef hs,Owns.of_eq ((J).full 1 0) Ew,h⟩ ?_
  rintro ml18 e st ⟨N,p,w,Xl18,Rl18,rfl,rfl,J,h⟩ Ul18 Vl18
  cases ml18 with
  | zero=>cases h
  | succ ml18 =>
  rw [Gx] at h
  have hU:=J.unders
  simp only [List.mem_cons,List.not_mem_nil,or_false,forall_eq_or_imp,forall_eq] at hU
  refine td hN Y V E J ?_
  refine rg [4,6,9,42,43,44,45] hs ?_
  apply An;intro K20 ad
  refine B6 h hs ?_ ?_<;>intro hs h
  rotate_left
  ·have U:=hs.1
   refine sx [4,6,9] hs aq ?_
   exact ⟨p,w,([]),Rl18,ef hs,ef hs,Owns.of_eq (J) Ew,h⟩
  have U:=hs.1
  refine sk [4,6,9,42,43,44] hs ad ?_
  clear ad
  apply An;intro K22 aa
  apply Ar
  obtain ⟨ap,ax,h⟩:=bind_some h
  obtain ⟨a8,a9,ao⟩:=Bl ax
  have O:=Bn (f:=Bd) ao
  have hs:=Ae O hs
  refine rg [4,6,9,11,42,43,44] hs ?_
  obtain ⟨bk,aw,h⟩:=bind_some h
  refine rc 2 [4,6,9,12,42,43,44] hs ?_;intro K25 af
  refine Ax _ (Il w0 hE hM hP n _ _ _ ap.1 _ aw) (hv hs) ?_
  refine ne hs af ?_
  clear af
  obtain ⟨aj,h⟩:=Aw h
  obtain ⟨bj,a5,J,u⟩:=J.append (P:=Tryz.prog) VA (by rw [NP];rfl) (by decide) 1 aj.1 aj.2
  replace u:=fun (ys:List AV) B L o2=>u (p.map (I8 AG)) ys B L o2 Ew
  replace u:=fun (y:AV) B L o2=>u [y] B L o2 Ew ev
  try simp only [List.mem_singleton,List.mem_cons,List.not_mem_nil,or_false,forall_eq_or_imp,forall_eq,List.map_append,List.map_cons,List.map_nil,Fe,Fj,Fq,Eu,Eo,Ft,CO,DN,Fz,Ce,Cd,DG,DK,DO,Fg,DL,Fo] at u
  apply XF PS [7,10] [4] [4,6,9,42,43,44] kr (fun s=>∃ (X:Ao) (rows:Av) (c4:List AV),s=⟨B++([[.list (a0.map Bd) .none],[.list (a1.map Bd) .none],[Am a2.kind,Am a2.min,Am a2.max,Am a2.scale,.list (a2.words.map C0) .none,.list (a2.elem.map IX) .none,.list (a2.fields.map BS) .none],[.list ([]) .full],c4,[.box (B.length+4) 0],.val (.string ap.1)::(ap.2.cs)]++X),rows,L⟩) 3 (B.length+7)
  ·simp +decide only [go_sem,Nat.reduceAdd]
  ·refine ⟨1,?_⟩
   rw [Ap];simp +decide only [go_sem,Nat.reduceAdd,C6,g,Ty.cs_eqs a2,U,O,u]
   (repeat' apply Ae)<;>first | rfl | exact cl
  ·rintro s ⟨X,rows,c4,rfl⟩
   refine ⟨1,?_⟩
   rw [Ap];simp +decide only [go_sem,Nat.reduceAdd,C6,List.append_eq,List.cons_append,List.nil_append,g,Ty.cs_eqs a2,U,O,u]
   have hs:=Ae u hs
   (repeat' apply Ae)<;>first | rfl | ((repeat (first | exact .nil | refine .cons (ef hs) ?_));done) | exact cl
  ·exact gd (tg (a:=(7,10,[4,6,9,42,43,44]))) (Ae u (Ae O (Ae (Ty.cs_eqs a2) hs)))
  simp +decide only [go_sem,Nat.reduceAdd,g,Ty.cs_eqs a2,U,O,u]
  (repeat' apply Ae)<;>first | refine aa _ _ ?_ | exact cl
  clear aa
  exact go (tg (a:=([4,6,9,42,43,44],()))) h (Ae u hs) hN Y V E J trivial (q1 (fun e s=>Vl18 ml18 e s (Nat.lt_succ_self _)))
 ·clear h;rintro e st ⟨k,t,Xk15,Rk15,rfl,rfl,J,h⟩
  rw [Ii] at h
  have hU:=J.unders
  simp only [List.mem_cons,List.not_mem_nil,or_false,forall_eq_or_imp,forall_eq] at hU
  refine td hN Y V E J ?_
  refine rg [4,6,9,14] hs ?_
  refine rg [4,6,14,15] hs ?_
  refine rg [4,6,14,15,16] hs ?_
  refine AB (fun e st=>∃ (F:List (List Part)) (K:Bool) (q:List (ByteArray × Ex)) (H:AV) (z:Ev.Own),Ck e st B Rw L [(6,true,.box (B.length+3) 0),(14,true,.box (B.length+6) 0),(16,true,.box (B.length+7) 0)] [[.list (a0.map Bd) .none],[.list (a1.map Bd) .none],a2.cs,[.list ([]) .full],[.list (a0.map Bd) .none,H,Am a2.kind,Am a2.min,Am a2.max,Am a2.scale,.list (a2.words.map C0) .none,.list (a2.elem.map IX) .none,.list (a2.fields.map BS) .none],[.box (B.length+4) 0],[.val (.bool K)],[.list (q.map Bd) z]] [(6,q.length,z)] (H.pub = .list (F.map (I8 AG)) .none∧It n F K q=some r)) ?_ ?_
  ·intro K37 a4
   refine rg [6,14,15,16,67,68,69] hs ?_
   apply Ar
   refine AC (fun m e st=>∃ (D:Int) (d:List (List Part)) (C:Bool) (j:List (ByteArray × Ex)) (G:AV) (v:Ev.Own),Ck e st B Rw L [(6,true,.box (B.length+3) 0),(14,true,.box (B.length+6) 0),(15,true,.clo 75 [.box (B.length+5) 0,.box (B.length+6) 0]),(16,true,.box (B.length+7) 0),(67,true,.list (a1.map Bd) .none),(68,true,Am (a1.length:Int)),(69,true,Am D)] [[.list (a0.map Bd) .none],[.list (a1.map Bd) .none],a2.cs,[.list ([]) .full],[.list (a0.map Bd) .none,G,Am a2.kind,Am a2.min,Am a2.max,Am a2.scale,.list (a2.words.map C0) .none,.list (a2.elem.map IX) .none,.list (a2.fields.map BS) .none],[.box (B.length+4) 0],[.val (.bool C)],[.list (j.map Bd) v]] [(6,j.length,v)] (G.pub = .list (d.map (I8 AG)) .none∧Gl n a0 a1 a2 m D d C j=some r)) n ⟨0,k,true,([]),(.list (k.map (I8 AG)) t),.full,([]),Rk15,ef hs,ef hs,Owns.of_eq (((J).full 6 0).sub (List.sublist_append_left [(6,0,Own.full)] [(1,k.length,t)])) Ew,ef hs,h⟩ ?_
   rintro ml39 e st ⟨D,d,C,j,G,v,Xl39,Rl39,rfl,rfl,J,am,h⟩ Ul39 Vl39
   cases ml39 with
   | zero=>cases h
   | succ ml39 =>
   rw [Gl] at h
   refine H4 (B.length+4) 1 (by first | rfl | (simp only [FC,D8,D6,C4];rfl)) rfl am ?_;simp +decide only [go_sem,Nat.reduceAdd]
   show DF _ _ _ _ _ _ _ _ [(6,true,.box (B.length+3) 0),(14,true,.box (B.length+6) 0),(15,true,.clo 75 [.box (B.length+5) 0,.box (B.length+6) 0]),(16,true,.box (B.length+7) 0),(67,true,.list (a1.map Bd) .none),(68,true,Am (a1.length:Int)),(69,true,Am D)] ⟨B++([[.list (a0.map Bd) .none],[.list (a1.map Bd) .none],a2.cs,[.list ([]) .full],[.list (a0.map Bd) .none,.list (d.map (I8 AG)) .none,Am a2.kind,Am a2.min,Am a2.max,Am a2.scale,.list (a2.words.map C0) .none,.list (a2.elem.map IX) .none,.list (a2.fields.map BS) .none],[.box (B.length+4) 0],[.val (.bool C)],[.list (j.map Bd) v]]++Xl39),Rl39,L⟩
   have hU:=J.unders
   simp only [List.mem_cons,List.not_mem_nil,or_false,forall_eq_or_imp,forall_eq] at hU
   refine td hN Y V E J ?_
   refine rg [6,14,15,16,67,68,69,70] hs ?_
   apply An;intro K41 ah
   refine B6 h hs ?_ ?_<;>intro hs h
   rotate_left
   ·have l:=hs.1
    refine sx [6,14,16] hs a4 ?_
    exact ⟨d,C,j,(.list (d.map (I8 AG)) .none),v,([]),Rl39,ef hs,ef hs,Owns.of_eq (J) Ew,ef hs,h⟩
   have l:=hs.1
   refine sk [6,14,15,16,67,68,69] hs ah ?_
   clear ah
   apply An;intro K43 ai
   apply Ar
   obtain ⟨Q,au,h⟩:=bind_some h
   obtain ⟨bd,be,ak⟩:=Bl au
   have c:=Bn (f:=Bd) ak
   have hs:=Ae c hs
   refine rg [6,14,15,16,18,67,68,69] hs ?_
   obtain ⟨o,ag,h⟩:=bind_some h
   obtain ⟨ae,h⟩:=Aw h
   obtain ⟨bf,Z,J,b⟩:=J.append (P:=Tryz.prog) ZbG (by rw [Xy];rfl) (by decide) 1 ae.1 ae.2
   replace b:=fun (ys:List AV) B L o2=>b (j.map Bd) ys B L o2 Ew
   replace b:=fun (y:AV) B L o2=>b [y] B L o2 Ew ev
   try simp only [List.mem_singleton,List.mem_cons,List.not_mem_nil,or_false,forall_eq_or_imp,forall_eq,List.map_append,List.map_cons,List.map_nil,Fe,Fj,Fq,Eu,Eo,Ft,CO,DN,Fz,Ce,Cd,DG,DK,DO,Fg,DL,Fo] at b
   apply Hu PS [1,7,8,9,10,12] [6,14,15,16,67,68,69] kr (fun s=>∃ (X:Ao) (rows:Av) (c6:List AV) (c7:List AV),s=⟨B++([[.list (a0.map Bd) .none],[.list (a1.map Bd) .none],[Am a2.kind,Am a2.min,Am a2.max,Am a2.scale,.list (a2.words.map C0) .none,.list (a2.elem.map IX) .none,.list (a2.fields.map BS) .none],[.list ([]) .full],[.list (a0.map Bd) .none,.list (d.map (I8 AG)) .none,Am a2.kind,Am a2.min,Am a2.max,Am a2.scale,.list (a2.words.map C0) .none,.list (a2.elem.map IX) .none,.list (a2.fields.map BS) .none],[.box (B.length+4) 0],c6,c7,.val (.string Q.1)::(Q.2.cs)]++X),rows,L⟩) 7 (B.length+9)
   ·simp +decide only [go_sem,Nat.reduceAdd]
   ·rintro s ⟨X,rows,c6,c7,rfl⟩
    refine ⟨1,?_⟩
    rw [Ap];simp +decide only [go_sem,Nat.reduceAdd,C6,g,Ty.cs_eqs a2,l,c,Ex.cs_eqs o.1,b]
    (repeat' apply Ae)<;>first | rfl | exact cl
   ·refine Good.mk [1,7] kr ⟨[],_,_,_,by first | rfl | simp only [List.append_nil,List.nil_append]⟩ ?_ ?_
    ·intro h;exact absurd h (by decide)
    ·intro i hi;simp only [List.mem_cons,List.not_mem_nil,or_false] at hi
     rcases hi with rfl | rfl
     ·apply Ci rfl rfl ev
      ·simp +decide only [go_sem,Nat.reduceAdd,Dw,g,Ty.cs_eqs a2,l,c,Ex.cs_eqs o.1,b]
       (repeat' apply Ae)<;>first | rfl | exact cl
      ·simp +decide only [go_sem,Nat.reduceAdd,g,Ty.cs_eqs a2,l,c,Ex.cs_eqs o.1,b]
       refine Good.mk [7] kr ⟨[],_,_,_,by first | rfl | simp only [List.append_nil,List.nil_append]⟩ ?_ ?_
       ·intro h;exact absurd h (by decide)
       ·intro i hi;simp only [List.mem_cons,List.not_mem_nil,or_false] at hi
        subst hi
        ·apply Ci rfl rfl ev
         ·simp +decide only [go_sem,Nat.reduceAdd,Dw,g,Ty.cs_eqs a2,l,c,Ex.cs_eqs o.1,b]
          have hs:=Ae (Ex.cs_eqs o.1) hs
          have hs:=Ae b hs
          (repeat' with_reducible apply Ae)<;>first | exact Lx (Jd w0 hB hE hM hP n _ _ _ Q.2 (B.length+5) (B.length+4) (Cps.mk a0 d a2) (ef hs) (ef hs) (B.length+6) C (ef hs) nq nq _ ag) (hv hs) | rfl | exact cl
         ·simp +decide only [go_sem,Nat.reduceAdd,g,Ty.cs_eqs a2,l,c,Ex.cs_eqs o.1,b]
          exact gd (tg (a:=(8,9,10,12,[6,14,15,16,67,68,69]))) (Ae b (Ae (Ex.cs_eqs o.1) (Ae c (Ae (Ty.cs_eqs a2) hs))))
     ·apply Ci rfl rfl ev
      ·simp +decide only [go_sem,Nat.reduceAdd,Dw,g,Ty.cs_eqs a2,l,c,Ex.cs_eqs o.1,b]
       have hs:=Ae (Ex.cs_eqs o.1) hs
       have hs:=Ae b hs
       (repeat' with_reducible apply Ae)<;>first | exact Lx (Jd w0 hB hE hM hP n _ _ _ Q.2 (B.length+5) (B.length+4) (Cps.mk a0 d a2) (ef hs) (ef hs) (B.length+6) C (ef hs) nq nq _ ag) (hv hs) | rfl | exact cl
      ·simp +decide only [go_sem,Nat.reduceAdd,g,Ty.cs_eqs a2,l,c,Ex.cs_eqs o.1,b]
       refine Good.mk [1,8] kr ⟨[],_,_,_,by first | rfl | simp only [List.append_nil,List.nil_append]⟩ ?_ ?_
       ·intro h;exact absurd h (by decide)
       ·intro i hi;simp only [List.mem_cons,List.not_mem_nil,or_false] at hi
        rcases hi with rfl | rfl
        ·apply Ci rfl rfl ev
         ·simp +decide only [go_sem,Nat.reduceAdd,Dw,g,Ty.cs_eqs a2,l,c,Ex.cs_eqs o.1,b]
          (repeat' apply Ae)<;>first | rfl | exact cl
         ·simp +decide only [go_sem,Nat.reduceAdd,g,Ty.cs_eqs a2,l,c,Ex.cs_eqs o.1,b]
          exact gd (tg (a:=(8,9,10,12,[6,14,15,16,67,68,69]))) (Ae b (Ae (Ex.cs_eqs o.1) (Ae c (Ae (Ty.cs_eqs a2) hs))))
        ·apply Ci rfl rfl ev
         ·simp +decide only [go_sem,Nat.reduceAdd,Dw,g,Ty.cs_eqs a2,l,c,Ex.cs_eqs o.1,b]
          (repeat' apply Ae)<;>first | rfl | exact cl
         ·simp +decide only [go_sem,Nat.reduceAdd,g,Ty.cs_eqs a2,l,c,Ex.cs_eqs o.1,b]
          refine Good.mk [1,9] kr ⟨[],_,_,_,by first | rfl | simp only [List.append_nil,List.nil_append]⟩ ?_ ?_
          ·intro h;exact absurd h (by decide)
          ·intro i hi;simp only [List.mem_cons,List.not_mem_nil,or_false] at hi
           rcases hi with rfl | rfl
           ·apply Ci rfl rfl ev
            ·simp +decide only [go_sem,Nat.reduceAdd,Dw,g,Ty.cs_eqs a2,l,c,Ex.cs_eqs o.1,b]
             (repeat' apply Ae)<;>first | rfl | exact cl
            ·simp +decide only [go_sem,Nat.reduceAdd,g,Ty.cs_eqs a2,l,c,Ex.cs_eqs o.1,b]
             exact gd (tg (a:=(9,10,12,[6,14,15,16,67,68,69]))) (Ae b (Ae (Ex.cs_eqs o.1) (Ae c (Ae (Ty.cs_eqs a2) hs))))
           ·apply Ci rfl rfl ev
            ·simp +decide only [go_sem,Nat.reduceAdd,Dw,g,Ty.cs_eqs a2,l,c,Ex.cs_eqs o.1,b]
             (repeat' apply Ae)<;>first | rfl | exact cl
            ·simp +decide only [go_sem,Nat.reduceAdd,g,Ty.cs_eqs a2,l,c,Ex.cs_eqs o.1,b]
             exact gd (tg (a:=(1,10,12,[6,14,15,16,67,68,69]))) (Ae b (Ae (Ex.cs_eqs o.1) (Ae c (Ae (Ty.cs_eqs a2) hs))))
   simp +decide only [go_sem,Nat.reduceAdd,g,Ty.cs_eqs a2,l,c,Ex.cs_eqs o.1,b]
   (repeat' apply Ae)<;>first | refine ai _ _ ?_ | exact cl
   clear ai
   obtain ⟨bh,h⟩:=Aw h
   have hs:=Ae (Ex.cs_eqs o.1) hs
   have hs:=Ae b hs
   refine rl [6,14,15,16,67,68,69] hs (fun e s=>Vl39 ml39 e s (Nat.lt_succ_self _)) ?_
   exact ⟨(D+1),d,o.2,(j++([(Q.1,o.1)])),(.list (d.map (I8 AG)) .none),bf,([.val (.string Q.1)::(Q.2.cs)]),Z,ef hs,ef hs,Owns.of_eq (J) Ew,ef hs,h⟩
  ·clear h;rintro e st ⟨F,K,q,H,z,Xk36,Rk36,rfl,rfl,J,am,h⟩
   rw [It] at h
   refine H4 (B.length+4) 1 (by first | rfl | (simp only [FC,D8,D6,C4];rfl)) rfl am ?_;simp +decide only [go_sem,Nat.reduceAdd]
   show DF _ _ _ _ _ _ _ _ [(6,true,.box (B.length+3) 0),(14,true,.box (B.length+6) 0),(16,true,.box (B.length+7) 0)] ⟨B++([[.list (a0.map Bd) .none],[.list (a1.map Bd) .none],a2.cs,[.list ([]) .full],[.list (a0.map Bd) .none,.list (F.map (I8 AG)) .none,Am a2.kind,Am a2.min,Am a2.max,Am a2.scale,.list (a2.words.map C0) .none,.list (a2.elem.map IX) .none,.list (a2.fields.map BS) .none],[.box (B.length+4) 0],[.val (.bool K)],[.list (q.map Bd) z]]++Xk36),Rk36,L⟩
   have hU:=J.unders
   simp only [List.mem_cons,List.not_mem_nil,or_false,forall_eq_or_imp,forall_eq] at hU
   refine td hN Y V E J ?_
   apply An;intro K52 ab
   refine rg [6,16,87] hs ?_
   refine B6 h hs ?_ ?_<;>intro hs h
   ·refine rg [6,7] hs ?_
    exact rt h hs E J
   refine sk [6,16] hs ab ?_
   clear ab
   apply An;intro K56 ar
   obtain ⟨bi,az,h⟩:=bind_some h
   refine rc 2 [6,16,19] hs ?_;intro K57 av
   refine Ax _ (I9 w0 hE hM hP hT n _ _ _ q _ az) (hv hs) ?_
   exact go (tg (a:=([6,16,19,92],([6,7],()),[6,16],[6,7],()))) h hs hN Y V E J (q1 (P2 w0 n)) (q2 av ar)
def FZ (n:Nat) (g:List (ByteArray × Ex)) (h:Ty) (q:ByteArray):Option ((List ByteArray) × Int) :=
 (II n g h q).bind fun b =>
 some ((b.2.1,b.2.2))
theorem MG (w0:World) (hE:JX w0) (hM:Kp w0) (hP:Pow10 w0) (hT:Lib.Utf8Tabs 2 3 w0) (n:Nat) (B:Ao) (Rw:Av) (L:As) (a0:List (ByteArray × Ex)) (a1:Ty) (a2:ByteArray) (r:(List ByteArray) × Int) (h:FZ n a0 a1 a2=some r) :
  ACalls Tryz.prog w0 21 [.agg ([.list (a0.map Bd) .none]),.agg (a1.cs),.val (.string a2)] ⟨B,Rw,L⟩ fun x st=>x = .tup [.list (r.1.map C0) .none,Am r.2]∧st=⟨B,Rw,L⟩:=by
 rw [FZ] at h
 refine hd [.tmp 6,.tmp 7] Tryz.func21 Tryz.ntmps21 fun M0 W0 j e d a i f hs=>?_
 simp only [AA]
 refine rg [2,3,4] hs ?_
 obtain ⟨g,c,h⟩:=bind_some h
 refine rc 2 [9,10] hs ?_;intro K2 b
 refine Ax _ (R2 w0 hE hM hP hT n _ _ _ a0 a1 a2 _ c) (hv hs) ?_
 refine ne hs b ?_
 clear b
 refine rg [6,7] hs ?_
 exact rt h hs a f
def F7 (n:Nat)  : Option Bool :=
 (J3 n ([(⟨#[105,100]⟩:ByteArray),(⟨#[97,109,111,117,110,116]⟩:ByteArray)]) (Ty.mk 2 0 99 0 ([]) ([]) ([]))).bind fun b =>
 (IG n ([(⟨#[115,107,117]⟩:ByteArray),(⟨#[113,116,121]⟩:ByteArray)]) (Ty.mk 2 0 99 0 ([]) ([]) ([]))).bind fun z =>
 if (b.fields.length+1)*160≤140737488355328∧b.fields.length+1≤4611686018427387904 then
  (FZ n ([Bh ((⟨#[105,100]⟩:ByteArray)) (Ba ((⟨#[98,111,100,121,46,105,100]⟩:ByteArray))),Bh ((⟨#[116,111,116,97,108]⟩:ByteArray)) (Ex.mk 26 0 ((⟨#[98,111,100,121,46,105,116,101,109,115,91,42,93,46,113,116,121]⟩:ByteArray)) ([]) ([]))]) (Ty.mk b.kind b.min b.max b.scale b.words b.elem (b.fields++[(3,(⟨#[105,116,101,109,115]⟩:ByteArray),1,Ty.mk 8 0 9 0 ([]) ([z]) ([]),[])])) ((⟨#[98,111,100,121]⟩:ByteArray))).bind fun g =>
  if (!(decide (g.2=0)))||(!(decide ((g.1.length:Int)=2))) then
   some (false)
  else
   (Cj g.1 0).bind fun x24 =>
   if !(GP x24 ((⟨#[97,109,111,117,110,116]⟩:ByteArray))) then
    some (false)
   else
    (Cj g.1 1).bind fun x28 =>
    if !(GP x28 ((⟨#[105,116,101,109,115,91,42,93,46,115,107,117]⟩:ByteArray))) then
     some (false)
    else
     (IG n ([(⟨#[110]⟩:ByteArray)]) (Ty.mk 2 0 99 0 ([]) ([]) ([]))).bind fun y =>
     (JY n ([Bh ((⟨#[110]⟩:ByteArray)) (Ex.mk 12 0 (⟨#[]⟩:ByteArray) ([]) ([Ba ((⟨#[98,111,100,121,46,97]⟩:ByteArray)),Ba ((⟨#[98,111,100,121,46,98]⟩:ByteArray))]))]) ([Bh ((⟨#[116,119,105,99,101]⟩:ByteArray)) (Ex.mk 14 0 (⟨#[]⟩:ByteArray) ([]) ([Ba ((⟨#[98,111,100,121,46,110]⟩:ByteArray)),Ex.mk 1 0 (⟨#[]⟩:ByteArray) ([Vl.mk 2 2 0 (⟨#[]⟩:ByteArray) ([]) ([])]) ([])]))]) y).bind fun q =>
     if (decide (q.2=0))&&(decide ((q.1.length:Int)=1)) then
      (Cj q.1 0).bind fun h =>
      if GP h.1 ((⟨#[116,119,105,99,101]⟩:ByteArray)) then
       if decide ((h.2.args.length:Int)=2) then
        (Cj h.2.args 0).bind fun x41 =>
        some (decide (x41.op=12))
       else
        some (false)
      else
       some (false)
     else
      some (false)
 else none
theorem JB (w0:World) (hB:PM w0) (hE:JX w0) (hM:Kp w0) (hP:Pow10 w0) (hT:Lib.Utf8Tabs 2 3 w0) (n:Nat) (B:Ao) (Rw:Av) (L:As)  (r:Bool) (h:F7 n  = some r) :
  ACalls Tryz.prog w0 24 [] ⟨B,Rw,L⟩ fun x st=>x = .val (.bool r)∧st=⟨B,Rw,L⟩:=by
 rw [F7] at h
 refine hd [.tmp 0] Tryz.func24 Tryz.ntmps24 fun M0 W0 hN a0 az j hu q hs=>?_
 simp only [AA]
 apply An;intro K1 V
 apply Au 1 []
 rw [Ap];simp +decide only [go_sem,Nat.reduceAdd,Vl.cs_mks,Ty.cs_mks,List.map_nil]
 (repeat' apply Ae)<;>first | refine V _ _ ?_ | exact cl
 clear V
 apply An;intro K2 Z
 apply Au 1 [1]
 rw [Ap];simp +decide only [go_sem,Nat.reduceAdd,Vl.cs_mks,Ty.cs_mks,List.map_nil]
 (repeat' apply Ae)<;>first | refine Z _ _ ?_ | exact cl
 clear Z
 apply An;intro K3 ae
 apply Au 1 [2]
 rw [Ap];simp +decide only [go_sem,Nat.reduceAdd,Vl.cs_mks,Ty.cs_mks,List.map_nil]
 (repeat' apply Ae)<;>first | refine ae _ _ ?_ | exact cl
 clear ae
 apply An;intro K4 ad
 refine H4 B.length 4 (by first | rfl | (simp only [FC,D8,D6,C4];rfl)) rfl rfl ?_;simp +decide only [go_sem,Nat.reduceAdd]
 refine H4 B.length 5 (by first | rfl | (simp only [FC,D8,D6,C4];rfl)) rfl rfl ?_;simp +decide only [go_sem,Nat.reduceAdd]
 refine H4 B.length 6 (by first | rfl | (simp only [FC,D8,D6,C4];rfl)) rfl rfl ?_;simp +decide only [go_sem,Nat.reduceAdd]
 obtain ⟨v,aj,h⟩:=bind_some h
 apply Au 2 [2,3]
 rw [Ap];simp +decide only [go_sem,Nat.reduceAdd,Vl.cs_mks,Ty.cs_mks,List.map_nil]
 (repeat' apply Ae)<;>first | (refine EI _ (Q1 w0 n _ _ _ ([(⟨#[105,100]⟩:ByteArray),(⟨#[97,109,111,117,110,116]⟩:ByteArray)]) B.length (Ty.mk 2 0 99 0 ([]) ([]) ([])) (by simp +decide only [go_sem,Nat.reduceAdd,Vl.cs_mks,Ty.cs_mks,List.map_nil]) _ aj) (by first | rfl | (simp +decide only [go_sem,Nat.reduceAdd,Vl.cs_mks,Ty.cs_mks,List.map_nil];done) | (simp +decide only [go_sem,Nat.reduceAdd,Vl.cs,Ty.cs,Vl.cs_mks,Ty.cs_mks,List.map_nil];done)) ?_;rintro _ _ ⟨o7,Rv8,rfl,rfl,O⟩) | exact cl
 have q:=q.callV O
 rw [Ap];simp +decide only [go_sem,Nat.reduceAdd,Vl.cs_mks,Ty.cs_mks,List.map_nil]
 (repeat' apply Ae)<;>first | refine ad _ _ ?_ | exact cl
 clear ad
 apply An;intro K9 af
 obtain ⟨y,ab,h⟩:=bind_some h
 obtain ⟨N,h⟩:=Aw h
 obtain ⟨a1,ai,q,a⟩:=q.appendV (P:=Tryz.prog) (n:=v.fields.length) (m:=1) S8 (by rw [M9];rfl) (by decide) ((JW (f:=BS) (sz:=11) (fun _=>by simp +decide only [go_sem]) _)) N.1 N.2 [BS ((3,(⟨#[105,116,101,109,115]⟩:ByteArray),1,Ty.mk 8 0 9 0 ([]) ([y]) ([]),[]))] rfl ((v.fields++[(3,(⟨#[105,116,101,109,115]⟩:ByteArray),1,Ty.mk 8 0 9 0 ([]) ([y]) ([]),[])]).flatMap fun x=>(BS x).cells) (by simp only [List.flatMap_append,List.flatMap_cons,List.flatMap_nil,List.append_nil,List.nil_append,UV])
 simp only [List.mem_singleton,forall_eq,Fe,Fj,Fq,Eu,Eo,Ft,CO,DN,Fz,Ce,Cd,DG,DK,DO,Fg,DL,Fo,Ty.cs_mks,List.cons_append,List.nil_append,List.map_nil,List.map_cons] at a
 apply SD PS 9 2 1 [2,3] kr
 rw [Ap];simp +decide only [go_sem,Nat.reduceAdd,Vl.cs_mks,Ty.cs_mks,List.map_nil,a]
 (repeat' apply Ae)<;>first | refine Ax _ (Nz w0 n _ _ _ ([(⟨#[115,107,117]⟩:ByteArray),(⟨#[113,116,121]⟩:ByteArray)]) B.length (Ty.mk 2 0 99 0 ([]) ([]) ([])) (by simp +decide only [go_sem,Nat.reduceAdd,Vl.cs_mks,Ty.cs_mks,List.map_nil]) _ ab) (by first | rfl | (simp +decide only [go_sem,Nat.reduceAdd,Vl.cs_mks,Ty.cs_mks,List.map_nil,a];done) | (simp +decide only [go_sem,Nat.reduceAdd,Vl.cs,Ty.cs,Vl.cs_mks,Ty.cs_mks,List.map_nil,a];done)) ?_ | exact cl
 rw [Ap];simp +decide only [go_sem,Nat.reduceAdd,Vl.cs_mks,Ty.cs_mks,List.map_nil,a]
 (repeat' with_reducible apply Ae)<;>first | (rw [Ap];simp +decide only [go_sem,Nat.reduceAdd,Vl.cs_mks,Ty.cs_mks,List.map_nil,a]) | exact cl
 (repeat' apply Ae)<;>first | refine af _ _ ?_ | exact cl
 clear af
 apply An;intro K15 J
 apply Au 4 [2,3,4]
 rw [Ap];simp +decide only [go_sem,Nat.reduceAdd,Vl.cs_mks,Ty.cs_mks,List.map_nil,a]
 (repeat' apply Ae)<;>first | refine Ax _ (I1 w0 _ _ _ ((⟨#[98,111,100,121,46,105,100]⟩:ByteArray))) (by first | rfl | (simp +decide only [go_sem,Nat.reduceAdd,Vl.cs_mks,Ty.cs_mks,List.map_nil,a];done) | (simp +decide only [go_sem,Nat.reduceAdd,Vl.cs,Ty.cs,Vl.cs_mks,Ty.cs_mks,List.map_nil,a];done)) ?_ | exact cl
 rw [Ap];simp +decide only [go_sem,Nat.reduceAdd,Vl.cs_mks,Ty.cs_mks,List.map_nil,a]
 (repeat' apply Ae)<;>first | refine Ax _ (H6 w0 _ _ _ ((⟨#[105,100]⟩:ByteArray)) (Ba ((⟨#[98,111,100,121,46,105,100]⟩:ByteArray)))) (by first | rfl | (simp +decide only [go_sem,Nat.reduceAdd,Vl.cs_mks,Ty.cs_mks,List.map_nil,a];done) | (simp +decide only [go_sem,Nat.reduceAdd,Vl.cs,Ty.cs,Vl.cs_mks,Ty.cs_mks,List.map_nil,a];done)) ?_ | exact cl
 rw [Ap];simp +decide only [go_sem,Nat.reduceAdd,Vl.cs_mks,Ty.cs_mks,List.map_nil,a]
 (repeat' apply Ae)<;>first | refine Ax _ (H6 w0 _ _ _ ((⟨#[116,111,116,97,108]⟩:ByteArray)) (Ex.mk 26 0 ((⟨#[98,111,100,121,46,105,116,101,109,115,91,42,93,46,113,116,121]⟩:ByteArray)) ([]) ([]))) (by first | rfl | (simp +decide only [go_sem,Nat.reduceAdd,Vl.cs_mks,Ty.cs_mks,List.map_nil,a];done) | (simp +decide only [go_sem,Nat.reduceAdd,Vl.cs,Ty.cs,Vl.cs_mks,Ty.cs_mks,List.map_nil,a];done)) ?_ | exact cl
 rw [Ap];simp +decide only [go_sem,Nat.reduceAdd,Vl.cs_mks,Ty.cs_mks,List.map_nil,a]
 (repeat' apply Ae)<;>first | refine J _ _ ?_ | exact cl
 clear J
 apply An;intro K16 D
 refine XQ (B.length+1) 6 (by first | rfl | (simp only [FC,D8];rfl) | (simp +decide only [go_sem,Nat.reduceAdd,Vl.cs_mks,Ty.cs_mks,List.map_nil,a])) (by first | rfl | (simp only [VW,List.length_set];rfl) | (simp only [List.length_append,List.length_cons,List.length_nil,Nat.zero_add];rfl)) q true (.inl rfl) (by decide) ((JW (f:=BS) (sz:=11) (fun _=>by simp +decide only [go_sem]) _)) (Ze2 (f:=BS) 11 (fun _=>rfl) (fun _=>by simp +decide only [go_sem]) _) (fun ah q=>?_)
 simp +decide only [go_sem,Nat.reduceAdd,List.set_cons_zero,List.set_cons_succ]
 obtain ⟨w,ag,h⟩:=bind_some h
 apply Au 2 [2,5,6]
 rw [Ap];simp +decide only [go_sem,Nat.reduceAdd,Vl.cs_mks,Ty.cs_mks,List.map_nil,a]
 (repeat' apply Ae)<;>first | refine Ax _ (MG w0 hE hM hP hT n _ _ _ ([Bh ((⟨#[105,100]⟩:ByteArray)) (Ba ((⟨#[98,111,100,121,46,105,100]⟩:ByteArray))),Bh ((⟨#[116,111,116,97,108]⟩:ByteArray)) (Ex.mk 26 0 ((⟨#[98,111,100,121,46,105,116,101,109,115,91,42,93,46,113,116,121]⟩:ByteArray)) ([]) ([]))]) (Ty.mk v.kind v.min v.max v.scale v.words v.elem (v.fields++[(3,(⟨#[105,116,101,109,115]⟩:ByteArray),1,Ty.mk 8 0 9 0 ([]) ([y]) ([]),[])])) ((⟨#[98,111,100,121]⟩:ByteArray)) _ ag) (by first | rfl | (simp +decide only [go_sem,Nat.reduceAdd,Vl.cs_mks,Ty.cs_mks,List.map_nil,a];done) | (simp +decide only [go_sem,Nat.reduceAdd,Vl.cs,Ty.cs,Vl.cs_mks,Ty.cs_mks,List.map_nil,a];done)) ?_ | exact cl
 rw [Ap];simp +decide only [go_sem,Nat.reduceAdd,Vl.cs_mks,Ty.cs_mks,List.map_nil,a]
 (repeat' apply Ae)<;>first | refine D _ _ ?_ | exact cl
 clear D
 apply An;intro K19 K
 apply An;intro K20 t
 rcases Bool.eq_false_or_eq_true ((!(decide (w.2=0)))||(!(decide ((w.1.length:Int)=2)))) with hf21 | hf21
 ·replace h:=Bq h hf21
  apply Au 1 [2,57]
  rw [Ap];simp +decide only [go_sem,Nat.reduceAdd,Vl.cs_mks,Ty.cs_mks,List.map_nil,a,hf21]
  (repeat' apply Ae)<;>first | refine t _ _ ?_ | exact cl
  clear t
  refine A4 true ev (by simp +decide only [go_sem,Nat.reduceAdd,Vl.cs_mks,Ty.cs_mks,List.map_nil,a,hf21]) (fun hb22=>?_) (fun hb22=>by cases hb22)
  apply An;intro K23 z
  apply Au 1 [0]
  rw [Ap];simp +decide only [go_sem,Nat.reduceAdd,Vl.cs_mks,Ty.cs_mks,List.map_nil,a,hf21]
  (repeat' apply Ae)<;>first | refine z _ _ ?_ | exact cl
  clear z
  apply A0;simp +decide only [go_sem,Nat.reduceAdd,Vl.cs_mks,Ty.cs_mks,List.map_nil,a,hf21]
  have hgt:=Option.some.inj h;subst hgt
  first | refine Cb j rfl q.pre ev ⟨?_,rfl⟩ | refine DT j rfl q.pre ev ⟨?_,rfl⟩
  first | rfl | (simp +decide only [go_sem,Nat.reduceAdd,Vl.cs_mks,Ty.cs_mks,List.map_nil,a,hf21];done) | (simp +decide only [go_sem,Nat.reduceAdd,Vl.cs,Ty.cs,Vl.cs_mks,Ty.cs_mks,List.map_nil,a,hf21];done)
 ·replace h:=Bo h hf21
  obtain ⟨ak,au,av,b,h⟩:=ix C0 h
  have c:(w.1.map C0).getD 0 .junk=_:=b
  rcases Bool.eq_false_or_eq_true (!(GP ak ((⟨#[97,109,111,117,110,116]⟩:ByteArray)))) with hf25 | hf25
  ·replace h:=Bq h hf25
   apply Au 1 [2,57]
   rw [Ap];simp +decide only [go_sem,Nat.reduceAdd,Vl.cs_mks,Ty.cs_mks,List.map_nil,a,hf21,b,c,hf25]
   (repeat' apply Ae)<;>first | refine t _ _ ?_ | exact cl
   clear t
   refine A4 true ev (by simp +decide only [go_sem,Nat.reduceAdd,Vl.cs_mks,Ty.cs_mks,List.map_nil,a,hf21,b,c,hf25]) (fun hb26=>?_) (fun hb26=>by cases hb26)
   apply An;intro K27 E
   apply Au 1 [0]
   rw [Ap];simp +decide only [go_sem,Nat.reduceAdd,Vl.cs_mks,Ty.cs_mks,List.map_nil,a,hf21,b,c,hf25]
   (repeat' apply Ae)<;>first | refine E _ _ ?_ | exact cl
   clear E
   apply A0;simp +decide only [go_sem,Nat.reduceAdd,Vl.cs_mks,Ty.cs_mks,List.map_nil,a,hf21,b,c,hf25]
   have hgt:=Option.some.inj h;subst hgt
   first | refine Cb j rfl q.pre ev ⟨?_,rfl⟩ | refine DT j rfl q.pre ev ⟨?_,rfl⟩
   first | rfl | (simp +decide only [go_sem,Nat.reduceAdd,Vl.cs_mks,Ty.cs_mks,List.map_nil,a,hf21,b,c,hf25];done) | (simp +decide only [go_sem,Nat.reduceAdd,Vl.cs,Ty.cs,Vl.cs_mks,Ty.cs_mks,List.map_nil,a,hf21,b,c,hf25];done)
  ·replace h:=Bo h hf25
   obtain ⟨ax,ao,ar,d,h⟩:=ix C0 h
   have e:(w.1.map C0).getD 1 .junk=_:=d
   apply Au 1 [2,57]
   rw [Ap];simp +decide only [go_sem,Nat.reduceAdd,Vl.cs_mks,Ty.cs_mks,List.map_nil,a,hf21,b,c,hf25,d,e]
   (repeat' apply Ae)<;>first | refine t _ _ ?_ | exact cl
   clear t
   refine A4 (!(GP ax ((⟨#[105,116,101,109,115,91,42,93,46,115,107,117]⟩:ByteArray)))) ev (by first | (simp +decide only [go_sem,Nat.reduceAdd,Vl.cs_mks,Ty.cs_mks,List.map_nil,a,hf21,b,c,hf25,d,e];done) | (simp +decide only [go_sem,Nat.reduceAdd,Vl.cs_mks,Ty.cs_mks,List.map_nil,a,hf21,b,c,hf25,d,e];rfl)) (fun g=>?_) (fun g=>?_)
   ·replace h:=Bq h g
    apply An;intro K30 H
    apply Au 1 [0]
    rw [Ap];simp +decide only [go_sem,Nat.reduceAdd,Vl.cs_mks,Ty.cs_mks,List.map_nil,a,hf21,b,c,hf25,d,e,g]
    (repeat' apply Ae)<;>first | refine H _ _ ?_ | exact cl
    clear H
    apply A0;simp +decide only [go_sem,Nat.reduceAdd,Vl.cs_mks,Ty.cs_mks,List.map_nil,a,hf21,b,c,hf25,d,e,g]
    have hgt:=Option.some.inj h;subst hgt
    first | refine Cb j rfl q.pre ev ⟨?_,rfl⟩ | refine DT j rfl q.pre ev ⟨?_,rfl⟩
    first | rfl | (simp +decide only [go_sem,Nat.reduceAdd,Vl.cs_mks,Ty.cs_mks,List.map_nil,a,hf21,b,c,hf25,d,e,g];done) | (simp +decide only [go_sem,Nat.reduceAdd,Vl.cs,Ty.cs,Vl.cs_mks,Ty.cs_mks,List.map_nil,a,hf21,b,c,hf25,d,e,g];done)
   replace h:=Bo h g
   refine sk [2] hs K ?_
   clear K
   apply An;intro K31 F
   apply Au 4 [2,7]
   rw [Ap];simp +decide only [go_sem,Nat.reduceAdd,Vl.cs_mks,Ty.cs_mks,List.map_nil,a,hf21,b,c,hf25,d,e,g]
   (repeat' apply Ae)<;>first | refine Ax _ (I1 w0 _ _ _ ((⟨#[98,111,100,121,46,97]⟩:ByteArray))) (by first | rfl | (simp +decide only [go_sem,Nat.reduceAdd,Vl.cs_mks,Ty.cs_mks,List.map_nil,a,hf21,b,c,hf25,d,e,g];done) | (simp +decide only [go_sem,Nat.reduceAdd,Vl.cs,Ty.cs,Vl.cs_mks,Ty.cs_mks,List.map_nil,a,hf21,b,c,hf25,d,e,g];done)) ?_ | exact cl
   rw [Ap];simp +decide only [go_sem,Nat.reduceAdd,Vl.cs_mks,Ty.cs_mks,List.map_nil,a,hf21,b,c,hf25,d,e,g]
   (repeat' apply Ae)<;>first | refine Ax _ (I1 w0 _ _ _ ((⟨#[98,111,100,121,46,98]⟩:ByteArray))) (by first | rfl | (simp +decide only [go_sem,Nat.reduceAdd,Vl.cs_mks,Ty.cs_mks,List.map_nil,a,hf21,b,c,hf25,d,e,g];done) | (simp +decide only [go_sem,Nat.reduceAdd,Vl.cs,Ty.cs,Vl.cs_mks,Ty.cs_mks,List.map_nil,a,hf21,b,c,hf25,d,e,g];done)) ?_ | exact cl
   rw [Ap];simp +decide only [go_sem,Nat.reduceAdd,Vl.cs_mks,Ty.cs_mks,List.map_nil,a,hf21,b,c,hf25,d,e,g]
   (repeat' apply Ae)<;>first | refine Ax _ (H6 w0 _ _ _ ((⟨#[110]⟩:ByteArray)) (Ex.mk 12 0 (⟨#[]⟩:ByteArray) ([]) ([Ba ((⟨#[98,111,100,121,46,97]⟩:ByteArray)),Ba ((⟨#[98,111,100,121,46,98]⟩:ByteArray))]))) (by first | rfl | (simp +decide only [go_sem,Nat.reduceAdd,Vl.cs_mks,Ty.cs_mks,List.map_nil,a,hf21,b,c,hf25,d,e,g];done) | (simp +decide only [go_sem,Nat.reduceAdd,Vl.cs,Ty.cs,Vl.cs_mks,Ty.cs_mks,List.map_nil,a,hf21,b,c,hf25,d,e,g];done)) ?_ | exact cl
   rw [Ap];simp +decide only [go_sem,Nat.reduceAdd,Vl.cs_mks,Ty.cs_mks,List.map_nil,a,hf21,b,c,hf25,d,e,g]
   (repeat' apply Ae)<;>first | refine F _ _ ?_ | exact cl
   clear F
   apply An;intro K32 G
   apply Au 3 [2,7,8]
   rw [Ap];simp +decide only [go_sem,Nat.reduceAdd,Vl.cs_mks,Ty.cs_mks,List.map_nil,a,hf21,b,c,hf25,d,e,g]
   (repeat' apply Ae)<;>first | refine Ax _ (I1 w0 _ _ _ ((⟨#[98,111,100,121,46,110]⟩:ByteArray))) (by first | rfl | (simp +decide only [go_sem,Nat.reduceAdd,Vl.cs_mks,Ty.cs_mks,List.map_nil,a,hf21,b,c,hf25,d,e,g];done) | (simp +decide only [go_sem,Nat.reduceAdd,Vl.cs,Ty.cs,Vl.cs_mks,Ty.cs_mks,List.map_nil,a,hf21,b,c,hf25,d,e,g];done)) ?_ | exact cl
   rw [Ap];simp +decide only [go_sem,Nat.reduceAdd,Vl.cs_mks,Ty.cs_mks,List.map_nil,a,hf21,b,c,hf25,d,e,g]
   (repeat' apply Ae)<;>first | refine Ax _ (H6 w0 _ _ _ ((⟨#[116,119,105,99,101]⟩:ByteArray)) (Ex.mk 14 0 (⟨#[]⟩:ByteArray) ([]) ([Ba ((⟨#[98,111,100,121,46,110]⟩:ByteArray)),Ex.mk 1 0 (⟨#[]⟩:ByteArray) ([Vl.mk 2 2 0 (⟨#[]⟩:ByteArray) ([]) ([])]) ([])]))) (by first | rfl | (simp +decide only [go_sem,Nat.reduceAdd,Vl.cs_mks,Ty.cs_mks,List.map_nil,a,hf21,b,c,hf25,d,e,g];done) | (simp +decide only [go_sem,Nat.reduceAdd,Vl.cs,Ty.cs,Vl.cs_mks,Ty.cs_mks,List.map_nil,a,hf21,b,c,hf25,d,e,g];done)) ?_ | exact cl
   rw [Ap];simp +decide only [go_sem,Nat.reduceAdd,Vl.cs_mks,Ty.cs_mks,List.map_nil,a,hf21,b,c,hf25,d,e,g]
   (repeat' apply Ae)<;>first | refine G _ _ ?_ | exact cl
   clear G
   apply An;intro K33 C
   obtain ⟨aq,aa,h⟩:=bind_some h
   obtain ⟨U,Y,h⟩:=bind_some h
   apply Hu PS [9,10] [9,10] kr (fun s=>∃ (X:Ao) (rows:Av),s=⟨B++([[Am 2,Am 0,Am 99,Am 0,.list ([]) .none,.list ([]) .none,.list ([]) .none],[Am v.kind,Am v.min,Am v.max,Am v.scale,.list (v.words.map C0) .none,.list (v.elem.map IX) .none,.list ((v.fields++[(3,(⟨#[105,116,101,109,115]⟩:ByteArray),1,Ty.mk 8 0 9 0 ([]) ([y]) ([]),[])]).map BS) .none],[.list (([Bh ((⟨#[105,100]⟩:ByteArray)) (Ba ((⟨#[98,111,100,121,46,105,100]⟩:ByteArray))),Bh ((⟨#[116,111,116,97,108]⟩:ByteArray)) (Ex.mk 26 0 ((⟨#[98,111,100,121,46,105,116,101,109,115,91,42,93,46,113,116,121]⟩:ByteArray)) ([]) ([]))]).map Bd) .full],[.list (([Bh ((⟨#[110]⟩:ByteArray)) (Ex.mk 12 0 (⟨#[]⟩:ByteArray) ([]) ([Ba ((⟨#[98,111,100,121,46,97]⟩:ByteArray)),Ba ((⟨#[98,111,100,121,46,98]⟩:ByteArray))]))]).map Bd) .full],[.list (([Bh ((⟨#[116,119,105,99,101]⟩:ByteArray)) (Ex.mk 14 0 (⟨#[]⟩:ByteArray) ([]) ([Ba ((⟨#[98,111,100,121,46,110]⟩:ByteArray)),Ex.mk 1 0 (⟨#[]⟩:ByteArray) ([Vl.mk 2 2 0 (⟨#[]⟩:ByteArray) ([]) ([])]) ([])]))]).map Bd) .full]]++X),rows,L⟩) 3 (B.length+5)
   ·simp +decide only [go_sem,Nat.reduceAdd]
   ·rintro s ⟨X,rows,rfl⟩
    refine ⟨3,?_⟩
    rw [Ap];simp +decide only [go_sem,Nat.reduceAdd,C6,Vl.cs_mks,Ty.cs_mks,List.map_nil,a,hf21,b,c,hf25,d,e,g]
    (repeat' apply Ae)<;>first | refine Ax _ (Nz w0 n _ _ _ ([(⟨#[110]⟩:ByteArray)]) B.length (Ty.mk 2 0 99 0 ([]) ([]) ([])) (by simp +decide only [go_sem,Nat.reduceAdd,Vl.cs_mks,Ty.cs_mks,List.map_nil,a,hf21,b,c,hf25,d,e,g]) _ aa) (by first | rfl | (simp +decide only [go_sem,Nat.reduceAdd,Vl.cs_mks,Ty.cs_mks,List.map_nil,a,hf21,b,c,hf25,d,e,g];done) | (simp +decide only [go_sem,Nat.reduceAdd,Vl.cs,Ty.cs,Vl.cs_mks,Ty.cs_mks,List.map_nil,a,hf21,b,c,hf25,d,e,g];done)) ?_ | exact cl
    rw [Ap];simp +decide only [go_sem,Nat.reduceAdd,Vl.cs_mks,Ty.cs_mks,List.map_nil,a,hf21,b,c,hf25,d,e,g]
    (repeat' apply Ae)<;>first | refine Ax _ (Q2 w0 hB hE hM hP hT n _ _ _ ([Bh ((⟨#[110]⟩:ByteArray)) (Ex.mk 12 0 (⟨#[]⟩:ByteArray) ([]) ([Ba ((⟨#[98,111,100,121,46,97]⟩:ByteArray)),Ba ((⟨#[98,111,100,121,46,98]⟩:ByteArray))]))]) ([Bh ((⟨#[116,119,105,99,101]⟩:ByteArray)) (Ex.mk 14 0 (⟨#[]⟩:ByteArray) ([]) ([Ba ((⟨#[98,111,100,121,46,110]⟩:ByteArray)),Ex.mk 1 0 (⟨#[]⟩:ByteArray) ([Vl.mk 2 2 0 (⟨#[]⟩:ByteArray) ([]) ([])]) ([])]))]) aq _ Y) (by first | rfl | (simp +decide only [go_sem,Nat.reduceAdd,Vl.cs_mks,Ty.cs_mks,List.map_nil,a,hf21,b,c,hf25,d,e,g];done) | (simp +decide only [go_sem,Nat.reduceAdd,Vl.cs,Ty.cs,Vl.cs_mks,Ty.cs_mks,List.map_nil,a,hf21,b,c,hf25,d,e,g];done)) ?_ | exact cl
    rw [Ap];simp +decide only [go_sem,Nat.reduceAdd,Vl.cs_mks,Ty.cs_mks,List.map_nil,a,hf21,b,c,hf25,d,e,g]
    (repeat' apply Ae)<;>first | rfl | exact cl
   ·refine Good.mk [9] kr ⟨[],_,by first | rfl | (simp only [List.append_nil,List.nil_append,List.map_append,List.map_cons,List.map_nil,CO,Eo,Eu,Ty.cs_mks,List.cons_append];first | done | rfl)⟩ ?_ ?_
    ·intro h;exact absurd h (by decide)
    ·intro i hi;simp only [List.mem_cons,List.not_mem_nil,or_false] at hi
     subst hi
     ·apply Ci rfl rfl ev
      ·simp +decide only [go_sem,Nat.reduceAdd,Dw,Vl.cs_mks,Ty.cs_mks,List.map_nil,a,hf21,b,c,hf25,d,e,g]
       (repeat' apply Ae)<;>first | rfl | exact cl
      ·simp +decide only [go_sem,Nat.reduceAdd,Vl.cs_mks,Ty.cs_mks,List.map_nil,a,hf21,b,c,hf25,d,e,g]
       refine Good.mk [10] kr ⟨_,_,by first | rfl | (simp only [List.append_nil,List.nil_append,List.map_append,List.map_cons,List.map_nil,CO,Eo,Eu,Ty.cs_mks,List.cons_append];first | done | rfl)⟩ ?_ ?_
       ·intro h;exact absurd h (by decide)
       ·intro i hi;simp only [List.mem_cons,List.not_mem_nil,or_false] at hi
        subst hi
        ·apply Ci rfl rfl ev
         ·simp +decide only [go_sem,Nat.reduceAdd,Dw,Vl.cs_mks,Ty.cs_mks,List.map_nil,a,hf21,b,c,hf25,d,e,g]
          (repeat' apply Ae)<;>first | rfl | exact cl
         ·simp +decide only [go_sem,Nat.reduceAdd,Vl.cs_mks,Ty.cs_mks,List.map_nil,a,hf21,b,c,hf25,d,e,g]
          refine Good.mk [] kr ⟨_,_,by first | rfl | (simp only [List.append_nil,List.nil_append,List.map_append,List.map_cons,List.map_nil,CO,Eo,Eu,Ty.cs_mks,List.cons_append];first | done | rfl)⟩ ?_ ?_
          ·intro _;apply NW [9,10];first | (simp +decide only [go_sem,Nat.reduceAdd,Vl.cs_mks,Ty.cs_mks,List.map_nil,a,hf21,b,c,hf25,d,e,g];done) | (simp +decide only [go_sem,Nat.reduceAdd,Vl.cs_mks,Ty.cs_mks,List.map_nil,a,hf21,b,c,hf25,d,e,g];rfl)
          ·intro i hi;cases hi
   simp +decide only [go_sem,Nat.reduceAdd,Vl.cs_mks,Ty.cs_mks,List.map_nil,a,hf21,b,c,hf25,d,e,g]
   (repeat' apply Ae)<;>first | refine C _ _ ?_ | exact cl
   clear C
   apply An;intro K36 o
   rcases Bool.eq_false_or_eq_true ((decide (U.2=0))&&(decide ((U.1.length:Int)=1))) with hf37 | hf37
   ·replace h:=Bq h hf37
    obtain ⟨Q,aw,ap,k,h⟩:=ix Bd h
    have l:(U.1.map Bd).getD 0 .junk=_:=k
    rcases Bool.eq_false_or_eq_true (GP Q.1 ((⟨#[116,119,105,99,101]⟩:ByteArray))) with hf39 | hf39
    ·replace h:=Bq h hf39
     rcases Bool.eq_false_or_eq_true (decide ((Q.2.args.length:Int)=2)) with hf40 | hf40
     ·replace h:=Bq h hf40
      obtain ⟨a2,ay,am,p,h⟩:=ix Rl h
      have u:(Q.2.args.map Rl).getD 0 .junk=_:=p
      apply Au 1 [0]
      rw [Ap];simp +decide only [go_sem,Nat.reduceAdd,Vl.cs_mks,Ty.cs_mks,List.map_nil,a,hf21,b,c,hf25,d,e,g,hf37,k,l,hf39,hf40,p,u,List.append_eq,List.cons_append,List.nil_append]
      (repeat' apply Ae)<;>first | refine o _ _ ?_ | exact cl
      clear o
      apply A0;simp +decide only [go_sem,Nat.reduceAdd,Vl.cs_mks,Ty.cs_mks,List.map_nil,a,hf21,b,c,hf25,d,e,g,hf37,k,l,hf39,hf40,p,u]
      have hgt:=Option.some.inj h;subst hgt
      first | refine Cb j rfl q.pre ev ⟨?_,rfl⟩ | refine DT j rfl q.pre ev ⟨?_,rfl⟩
      first | rfl | (simp +decide only [go_sem,Nat.reduceAdd,Vl.cs_mks,Ty.cs_mks,List.map_nil,a,hf21,b,c,hf25,d,e,g,hf37,k,l,hf39,hf40,p,u];done) | (simp +decide only [go_sem,Nat.reduceAdd,Vl.cs,Ty.cs,Vl.cs_mks,Ty.cs_mks,List.map_nil,a,hf21,b,c,hf25,d,e,g,hf37,k,l,hf39,hf40,p,u];done)
     ·replace h:=Bo h hf40
      apply Au 1 [0]
      rw [Ap];simp +decide only [go_sem,Nat.reduceAdd,Vl.cs_mks,Ty.cs_mks,List.map_nil,a,hf21,b,c,hf25,d,e,g,hf37,k,l,hf39,hf40,List.append_eq,List.cons_append,List.nil_append]
      (repeat' apply Ae)<;>first | refine o _ _ ?_ | exact cl
      clear o
      apply A0;simp +decide only [go_sem,Nat.reduceAdd,Vl.cs_mks,Ty.cs_mks,List.map_nil,a,hf21,b,c,hf25,d,e,g,hf37,k,l,hf39,hf40]
      have hgt:=Option.some.inj h;subst hgt
      first | refine Cb j rfl q.pre ev ⟨?_,rfl⟩ | refine DT j rfl q.pre ev ⟨?_,rfl⟩
      first | rfl | (simp +decide only [go_sem,Nat.reduceAdd,Vl.cs_mks,Ty.cs_mks,List.map_nil,a,hf21,b,c,hf25,d,e,g,hf37,k,l,hf39,hf40];done) | (simp +decide only [go_sem,Nat.reduceAdd,Vl.cs,Ty.cs,Vl.cs_mks,Ty.cs_mks,List.map_nil,a,hf21,b,c,hf25,d,e,g,hf37,k,l,hf39,hf40];done)
    ·replace h:=Bo h hf39
     apply Au 1 [0]
     rw [Ap];simp +decide only [go_sem,Nat.reduceAdd,Vl.cs_mks,Ty.cs_mks,List.map_nil,a,hf21,b,c,hf25,d,e,g,hf37,k,l,hf39,List.append_eq,List.cons_append,List.nil_append]
     (repeat' apply Ae)<;>first | refine o _ _ ?_ | exact cl
     clear o
     apply A0;simp +decide only [go_sem,Nat.reduceAdd,Vl.cs_mks,Ty.cs_mks,List.map_nil,a,hf21,b,c,hf25,d,e,g,hf37,k,l,hf39]
     have hgt:=Option.some.inj h;subst hgt
     first | refine Cb j rfl q.pre ev ⟨?_,rfl⟩ | refine DT j rfl q.pre ev ⟨?_,rfl⟩
     first | rfl | (simp +decide only [go_sem,Nat.reduceAdd,Vl.cs_mks,Ty.cs_mks,List.map_nil,a,hf21,b,c,hf25,d,e,g,hf37,k,l,hf39];done) | (simp +decide only [go_sem,Nat.reduceAdd,Vl.cs,Ty.cs,Vl.cs_mks,Ty.cs_mks,List.map_nil,a,hf21,b,c,hf25,d,e,g,hf37,k,l,hf39];done)
   ·replace h:=Bo h hf37
    apply Au 1 [0]
    rw [Ap];simp +decide only [go_sem,Nat.reduceAdd,Vl.cs_mks,Ty.cs_mks,List.map_nil,a,hf21,b,c,hf25,d,e,g,hf37,List.append_eq,List.cons_append,List.nil_append]
    (repeat' apply Ae)<;>first | refine o _ _ ?_ | exact cl
    clear o
    apply A0;simp +decide only [go_sem,Nat.reduceAdd,Vl.cs_mks,Ty.cs_mks,List.map_nil,a,hf21,b,c,hf25,d,e,g,hf37]
    have hgt:=Option.some.inj h;subst hgt
    first | refine Cb j rfl q.pre ev ⟨?_,rfl⟩ | refine DT j rfl q.pre ev ⟨?_,rfl⟩
    first | rfl | (simp +decide only [go_sem,Nat.reduceAdd,Vl.cs_mks,Ty.cs_mks,List.map_nil,a,hf21,b,c,hf25,d,e,g,hf37];done) | (simp +decide only [go_sem,Nat.reduceAdd,Vl.cs,Ty.cs,Vl.cs_mks,Ty.cs_mks,List.map_nil,a,hf21,b,c,hf25,d,e,g,hf37];done)
theorem Zc0 (m:Nat):F7 (m+60)=some true:=by kernel_rfl
theorem Z0 (n:Nat) (h:60≤n):F7 n=some true:=by
 obtain ⟨m,rfl⟩:∃ m,n=m+60:=⟨n-60,by omega⟩
 exact Zc0 m
def E3 (rec:Ty→Ty→(List Part)→Option Unit) (n:Nat) (g:Int→Option Unit) (b:Int):Option Unit :=
 if Bg (b+1) then
  g (b+1)
 else none
def BU (rec:Ty→Ty→(List Part)→Option Unit) (n:Nat) (z:Ty) (a1:Ty) (q:List Part) (g:Int):Nat→Int→Option Unit
 | 0,_=>none
 | m+1,b =>
  if decide (b<(z.fields.length:Int)) then
   (Cj z.fields b).bind fun h =>
   if q.length*32≤140737488355328 then
    if (q.length+1)*32≤140737488355328∧q.length+1≤4611686018427387904 then
     (HS n a1 h.1).bind fun y =>
     if y.2 then
      (rec h.2.2.2.1 y.1.2.2.2.1 (q++([Part.mk g 0 h.2.1]))).bind fun y50 =>
      E3 rec n (BU rec n z a1 q g m) b 
     else
      if decide (g=1) then
       none
      else
       E3 rec n (BU rec n z a1 q g m) b 
    else none
   else none
  else
   some (())
def DZ (rec:Ty→Ty→(List Part)→Option Unit) (n:Nat) (h:Ty) (g:Ty) (q:List Part) (b:Int):Option Unit :=
 BU rec n h g q b n 0
def D1 (rec:Ty→Ty→(List Part)→Option Unit) (n:Nat) (g:Ty) (h:Ty) (q:List Part) (b:Bool):Option Unit :=
 if b then
  if decide (g.kind=10) then
   DZ rec n g h q 4
  else
   DZ rec n g h q 1
 else
  some (())
def IC (rec:Ty→Ty→(List Part)→Option Unit) (n:Nat) (b:Ty) (h:Ty) (g:List Part):Option Unit :=
 if !(decide (b.kind=h.kind)) then
  some (())
 else
  if decide (b.kind=8) then
   (Cj b.elem 0).bind fun y =>
   (Cj h.elem 0).bind fun q =>
   if g.length*32≤140737488355328 then
    if (g.length+1)*32≤140737488355328∧g.length+1≤4611686018427387904 then
     (rec y q (g++([Part.mk 3 0 (⟨#[]⟩:ByteArray)]))).bind fun z =>
     some (())
    else none
   else none
  else
   if decide (b.kind=9) then
    D1 rec n b h g true
   else
    D1 rec n b h g (decide (b.kind=10))
def Es:Nat→Ty→Ty→(List Part)→Option Unit
 | 0,_,_,_=>none
 | n+1,b,g,h=>IC (Es n) n b g h
def La (w0:World) (F:Ty→Ty→(List Part)→Option Unit):Prop:=∀ (B:Ao) (Rw:Av) (L:As) (b:Ty) (g:Ty) (h:List Part) (fa3:FuncId) (ca3:List AV) (r:Unit),F b g h=some r→ACalls Tryz.prog w0 85 [.agg (b.cs),.agg (g.cs),.list (h.map AG) .none,.clo fa3 ca3] ⟨B,Rw,L⟩ fun x st=>x = .tup []∧st=⟨B,Rw,L⟩
theorem Qd (w0:World) (rec:Ty→Ty→(List Part)→Option Unit) (ih:La w0 rec) (n:Nat):La w0 (IC rec n):=by
 intro B Rw L a0 a1 a2 J H r h
 rw [IC] at h
 refine hd [] Tryz.func85 Tryz.ntmps85 fun M0 W0 Z G F c hu t hs=>?_
 simp only [AA]
 have v:=BJ (hu (.clo J H) (by simp))
 refine rg [2,3,4,5] hs ?_
 apply An;intro K2 ab
 refine rg [2,3,4,5,18] hs ?_
 refine B6 h hs ?_ ?_<;>intro hs h
 ·have q:=hs.1
  exact rt h hs c t
 have q:=hs.1
 refine sk [2,3,4,5] hs ab ?_
 clear ab
 refine rg [2,3,4,5,20] hs ?_
 apply Ar
 refine rg [2,3,4,5,20,21] hs ?_
 refine B6 h hs ?_ ?_<;>intro hs h
 ·have p:=hs.1
  obtain ⟨x8,ar,av,j,h⟩:=ix IX h
  have l:(a0.elem.map IX).getD 0 .junk=_:=j
  obtain ⟨x9,au,aw,g,h⟩:=ix IX h
  have o:(a1.elem.map IX).getD 0 .junk=_:=g
  obtain ⟨ad,h⟩:=Aw h
  have t:=t.clone 3 a2.length
  obtain ⟨N,h⟩:=Aw h
  obtain ⟨ax,ao,t,b⟩:=t.append (P:=Tryz.prog) Rk (by rw [NN];rfl) (by decide) 1 N.1 N.2
  replace b:=fun (ys:List AV) B L o2=>b (a2.map AG) ys B L o2 Ew
  replace b:=fun (y:AV) B L o2=>b [y] B L o2 Ew ev
  try simp only [List.mem_singleton,List.mem_cons,List.not_mem_nil,or_false,forall_eq_or_imp,forall_eq,List.map_append,List.map_cons,List.map_nil,Fe,Fj,Fq,Eu,Eo,Ft,CO,DN,Fz,Ce,Cd,DG,DK,DO,Fg,DL,Fo] at b
  obtain ⟨ay,aj,h⟩:=bind_some h
  apply Hu PS [9,12,14] [] kr (fun s=>∃ (X:Ao) (rows:Av),s=⟨B++([a0.cs,a1.cs]++X),rows,L⟩) 4 (B.length+2)
  ·simp +decide only [go_sem,Nat.reduceAdd]
  ·rintro s ⟨X,rows,rfl⟩
   refine ⟨1,?_⟩
   rw [Ap];simp +decide only [go_sem,Nat.reduceAdd,C6,q,p,j,l,g,o,b]
   (repeat' apply Ae)<;>first | rfl | exact cl
  ·refine Good.mk [9] kr ⟨[],_,by first | rfl | simp only [List.append_nil,List.nil_append]⟩ ?_ ?_
   ·intro h;exact absurd h (by decide)
   ·intro i hi;simp only [List.mem_cons,List.not_mem_nil,or_false] at hi
    subst hi
    ·apply Ci rfl rfl ev
     ·simp +decide only [go_sem,Nat.reduceAdd,Dw,q,p,j,l,g,o,b]
      have hs:=Ae j hs
      have hs:=Ae l hs
      have hs:=Ae g hs
      have hs:=Ae o hs
      have hs:=Ae b hs
      (repeat' with_reducible apply Ae)<;>first | exact Lx (HT w0 _ _ _ a2 ad) (hv hs) | rfl | exact cl
     ·simp +decide only [go_sem,Nat.reduceAdd,q,p,j,l,g,o,b]
      refine Good.mk [12] kr ⟨[],_,by first | rfl | simp only [List.append_nil,List.nil_append]⟩ ?_ ?_
      ·intro h;exact absurd h (by decide)
      ·intro i hi;simp only [List.mem_cons,List.not_mem_nil,or_false] at hi
       subst hi
       ·apply Ci rfl rfl ev
        ·simp +decide only [go_sem,Nat.reduceAdd,Dw,q,p,j,l,g,o,b]
         (repeat' apply Ae)<;>first | rfl | exact cl
        ·simp +decide only [go_sem,Nat.reduceAdd,q,p,j,l,g,o,b]
         refine Good.mk [14] kr ⟨[],_,by first | rfl | simp only [List.append_nil,List.nil_append]⟩ ?_ ?_
         ·intro h;exact absurd h (by decide)
         ·intro i hi;simp only [List.mem_cons,List.not_mem_nil,or_false] at hi
          subst hi
          ·apply Ci rfl rfl ev
           ·simp +decide only [go_sem,Nat.reduceAdd,Dw,q,p,j,l,g,o,b]
            have hs:=Ae j hs
            have hs:=Ae l hs
            have hs:=Ae g hs
            have hs:=Ae o hs
            have hs:=Ae b hs
            (repeat' with_reducible apply Ae)<;>first | exact ZcN (ih _ _ _ x8 x9 (a2++([Part.mk 3 0 (⟨#[]⟩:ByteArray)])) J H _ aj) (hv hs) | rfl | exact cl
           ·simp +decide only [go_sem,Nat.reduceAdd,q,p,j,l,g,o,b]
            refine Good.mk [] kr ⟨[],_,by first | rfl | simp only [List.append_nil,List.nil_append]⟩ ?_ ?_
            ·intro _;apply NW [];first | (simp +decide only [go_sem,Nat.reduceAdd,q,p,j,l,g,o,b];done) | (simp +decide only [go_sem,Nat.reduceAdd,q,p,j,l,g,o,b];rfl)
            ·intro i hi;cases hi
  simp +decide only [go_sem,Nat.reduceAdd,q,p,j,l,g,o,b]
  (repeat' with_reducible apply Ae)<;>first | exact cl | skip
  have hgt:=Option.some.inj h;subst hgt
  first | refine Cb c rfl t.pre ev ⟨?_,rfl⟩ | refine DT c rfl t.pre ev ⟨?_,rfl⟩
  first | rfl | (simp +decide only [go_sem,Nat.reduceAdd,q,p,j,l,g,o,b];done) | (simp +decide only [go_sem,Nat.reduceAdd,Vl.cs,Ty.cs,q,p,j,l,g,o,b];done)
 have p:=hs.1
 refine AB (fun e st=>∃ (D:Bool),Ck e st B Rw L [(2,true,.list (a2.map AG) .none),(3,true,.clo J H),(4,true,.box B.length 0),(5,true,.box (B.length+1) 0),(38,true,.val (.bool D))] [a0.cs,a1.cs] [] (D1 rec n a0 a1 a2 D=some r)) ?_ ?_
 ·intro K19 ak
  exact go (tg (a:=([2,3,4,5,20,38],([2,3,4,5,38],()),[2,3,4,5,38],()))) h hs Z G F c t trivial (q1 ak)
 ·clear h;rintro e st ⟨D,Xk18,Rk18,rfl,rfl,t,h⟩
  rw [D1] at h
  refine A1 Z G F rfl c t (LI v t) (LI v t) ?_
  refine B6 h hs ?_ ?_<;>intro hs h
  ·have x:=hs.1
   refine rg [2,3,4,5,8] hs ?_
   refine AB (fun e st=>∃ (k:Int),Ck e st B Rw L [(2,true,.list (a2.map AG) .none),(3,true,.clo J H),(4,true,.box B.length 0),(5,true,.box (B.length+1) 0),(8,true,Am k)] [a0.cs,a1.cs] [] (DZ rec n a0 a1 a2 k=some r)) ?_ ?_
   ·intro K26 am
    exact go (tg (a:=([2,3,4,5,8,43],([2,3,4,5,8],()),[2,3,4,5,8],()))) h hs Z G F c t trivial (q1 am)
   ·clear h;rintro e st ⟨k,Xk25,Rk25,rfl,rfl,t,h⟩
    rw [DZ] at h
    refine A1 Z G F rfl c t (LI v t) (LI v t) ?_
    refine rg [2,3,5,8,45,46,47] hs ?_
    apply Ar
    refine AC (fun m e st=>∃ (w:Int),Ck e st B Rw L [(2,true,.list (a2.map AG) .none),(3,true,.clo J H),(5,true,.box (B.length+1) 0),(8,true,Am k),(45,true,.list (a0.fields.map BS) .none),(46,true,Am (a0.fields.length:Int)),(47,true,Am w)] [a0.cs,a1.cs] [] (BU rec n a0 a1 a2 k m w=some r)) n ⟨0,([]),Rk25,ef hs,ef hs,t,h⟩ ?_
    rintro ml30 e st ⟨w,Xl30,Rl30,rfl,rfl,t,h⟩ Ul30 Vl30
    cases ml30 with
    | zero=>cases h
    | succ ml30 =>
    rw [BU] at h
    refine A1 Z G F rfl c t (LI v t) (LI v t) ?_
    refine rg [2,3,5,8,45,46,47,48] hs ?_
    apply An;intro K32 V
    refine B6 h hs ?_ ?_<;>intro hs h
    rotate_left
    ·have C:=hs.1
     refine LR (Du [] _) ?_ (D2 _ _)
     apply I4;simp +decide only [go_sem,Nat.reduceAdd]
     (repeat' with_reducible apply Ae)<;>first | exact cl | skip
     have hgt:=Option.some.inj h;subst hgt
     first | refine Cb c rfl t.pre ev ⟨?_,rfl⟩ | refine DT c rfl t.pre ev ⟨?_,rfl⟩
     first | rfl | (simp +decide only [go_sem,Nat.reduceAdd,q,p,x,C];done) | (simp +decide only [go_sem,Nat.reduceAdd,Vl.cs,Ty.cs,q,p,x,C];done)
    have C:=hs.1
    refine sk [2,3,5,8,45,46,47] hs V ?_
    clear V
    refine AB (fun e st=>Ck e st B Rw L [(2,true,.list (a2.map AG) .none),(3,true,.clo J H),(5,true,.box (B.length+1) 0),(8,true,Am k),(45,true,.list (a0.fields.map BS) .none),(46,true,Am (a0.fields.length:Int)),(47,true,Am w)] [a0.cs,a1.cs] [] (E3 rec n (BU rec n a0 a1 a2 k ml30) w  = some r)) ?_ ?_
    ·intro K36 U
     apply Ar
     obtain ⟨u,ah,h⟩:=bind_some h
     obtain ⟨aq,ap,aa⟩:=Bl ah
     have z:=Bn (f:=BS) aa
     have hs:=Ae z hs
     refine rg [2,3,5,8,10,45,46,47] hs ?_
     apply An;intro K39 Q
     obtain ⟨af,h⟩:=Aw h
     have t:=t.clone 3 a2.length
     obtain ⟨Y,h⟩:=Aw h
     obtain ⟨ai,K,t,d⟩:=t.append (P:=Tryz.prog) Rk (by rw [NN];rfl) (by decide) 1 Y.1 Y.2
     replace d:=fun (ys:List AV) B L o2=>d (a2.map AG) ys B L o2 Ew
     replace d:=fun (y:AV) B L o2=>d [y] B L o2 Ew ev
     try simp only [List.mem_singleton,List.mem_cons,List.not_mem_nil,or_false,forall_eq_or_imp,forall_eq,List.map_append,List.map_cons,List.map_nil,Fe,Fj,Fq,Eu,Eo,Ft,CO,DN,Fz,Ce,Cd,DG,DK,DO,Fg,DL,Fo] at d
     apply Hu PS [1,7,8] [2,3,5,8,10,11,45,46,47] kr (fun s=>∃ (X:Ao) (rows:Av),s=⟨B++([a0.cs,a1.cs,Am u.1::(.val (.string u.2.1)::(Am u.2.2.1::((u.2.2.2.1.cs)++([.list (u.2.2.2.2.map CZ) .none]))))]++X),rows,L⟩) 4 (B.length+3)
     ·simp +decide only [go_sem,Nat.reduceAdd]
     ·rintro s ⟨X,rows,rfl⟩
      refine ⟨1,?_⟩
      rw [Ap];simp +decide only [go_sem,Nat.reduceAdd,C6,q,p,x,C,z,d]
      (repeat' apply Ae)<;>first | rfl | exact cl
     ·refine Good.mk [1] kr ⟨[],_,by first | rfl | simp only [List.append_nil,List.nil_append]⟩ ?_ ?_
      ·intro h;exact absurd h (by decide)
      ·intro i hi;simp only [List.mem_cons,List.not_mem_nil,or_false] at hi
       subst hi
       ·apply Ci rfl rfl ev
        ·simp +decide only [go_sem,Nat.reduceAdd,Dw,q,p,x,C,z,d]
         have hs:=Ae d hs
         (repeat' with_reducible apply Ae)<;>first | exact Lx (HT w0 _ _ _ a2 af) (hv hs) | rfl | exact cl
        ·simp +decide only [go_sem,Nat.reduceAdd,q,p,x,C,z,d]
         exact gd (tg (a:=(7,8,[2,3,5,8,10,11,45,46,47]))) (Ae d (Ae z hs))
     simp +decide only [go_sem,Nat.reduceAdd,q,p,x,C,z,d]
     (repeat' apply Ae)<;>first | refine Q _ _ ?_ | exact cl
     clear Q
     obtain ⟨E,ag,h⟩:=bind_some h
     have hs:=Ae d hs
     refine rc 2 [2,3,5,8,10,11,12,13,45,46,47] hs ?_;intro K46 O
     refine Ax _ (Uc w0 n _ _ _ a1 u.1 _ ag) (hv hs) ?_
     refine ne hs O ?_
     clear O
     refine rg [2,3,5,8,10,11,12,45,46,47,66] hs ?_
     refine B6 h hs ?_ ?_<;>intro hs h
     ·obtain ⟨az,ae,h⟩:=bind_some h
      refine rk 2 [2,3,5,8,45,46,47] hs ?_
      refine Ax _ (ih _ _ _ u.2.2.2.1 E.1.2.2.2.1 (a2++([Part.mk k 0 u.2.1])) J H _ ae) (hv hs) ?_
      refine ne hs U ?_
      exact ⟨([Am u.1::(.val (.string u.2.1)::(Am u.2.2.1::((u.2.2.2.1.cs)++([.list (u.2.2.2.2.map CZ) .none])))),Am E.1.1::(.val (.string E.1.2.1)::(Am E.1.2.2.1::((E.1.2.2.2.1.cs)++([.list (E.1.2.2.2.2.map CZ) .none]))))]),K,ef hs,ef hs,(t).sub (List.sublist_append_left [] [(3,a2.length+1,ai)]),h⟩
     refine rg [2,3,5,8,11,45,46,47,75] hs ?_
     refine B6 h hs ?_ ?_<;>intro hs h
     ·cases h
     refine sk [2,3,5,8,45,46,47] hs U ?_
     exact ⟨([Am u.1::(.val (.string u.2.1)::(Am u.2.2.1::((u.2.2.2.1.cs)++([.list (u.2.2.2.2.map CZ) .none])))),Am E.1.1::(.val (.string E.1.2.1)::(Am E.1.2.2.1::((E.1.2.2.2.1.cs)++([.list (E.1.2.2.2.2.map CZ) .none]))))]),K,ef hs,ef hs,(t).sub (List.sublist_append_left [] [(3,a2.length+1,ai)]),h⟩
    ·clear h;rintro e st ⟨Xk35,Rk35,rfl,rfl,t,h⟩
     rw [E3] at h
     refine A1 Z G F rfl c t (LI v t) (LI v t) ?_
     exact go (tg (a:=([2,3,5,8,45,46,47],()))) h hs Z G F c t trivial (q1 (fun e s=>Vl30 ml30 e s (Nat.lt_succ_self _)))
  have x:=hs.1
  refine LR (Du [] _) ?_ (D2 _ _)
  apply EH;simp +decide only [go_sem,Nat.reduceAdd]
  (repeat' with_reducible apply Ae)<;>first | exact cl | skip
  have hgt:=Option.some.inj h;subst hgt
  first | refine Cb c rfl t.pre ev ⟨?_,rfl⟩ | refine DT c rfl t.pre ev ⟨?_,rfl⟩
  first | rfl | (simp +decide only [go_sem,Nat.reduceAdd,q,p,x];done) | (simp +decide only [go_sem,Nat.reduceAdd,Vl.cs,Ty.cs,q,p,x];done)
theorem Nl (w0:World):∀ n:Nat,La w0 (Es n)
 | 0=>fun _ _ _ _ _ _ _ _ _ h=>(nomatch h)
 | n+1=>Qd w0 (Es n) (Nl w0 n) n
def Ld (n:Nat)  (b:List ByteArray):Option ((List ByteArray)) :=
 some (b)
def GM (n:Nat) (q:List (List Part)):Nat→(List ByteArray)→Int→Option ((List ByteArray))
 | 0,_,_=>none
 | m+1,g,b =>
  if decide (b<(q.length:Int)) then
   (Cj q b).bind fun y =>
   (HV n y).bind fun h =>
   if (g.length+1)*16≤140737488355328∧g.length+1≤4611686018427387904 then
    if Bg (b+1) then
     (GM n q m) (g++([h.1])) (b+1)
    else none
   else none
  else
   Ld n g
def HJ (n:Nat) (b:List (List Part)):Option ((List ByteArray)) :=
 GM n b n ([]) 0
theorem Ul (w0:World) (hP:Pow10 w0) (n:Nat) (B:Ao) (Rw:Av) (L:As) (a0:List (List Part)) (r:(List ByteArray)) (h:HJ n a0=some r) :
  ACalls Tryz.prog w0 91 [.list (a0.map (I8 AG)) .none] ⟨B,Rw,L⟩ fun x st=>x = .list (r.map C0) .none∧st=⟨B,Rw,L⟩:=by
 rw [HJ] at h
 refine hd [.tmp 2] Tryz.func91 Tryz.ntmps91 fun M0 W0 p k j i q l hs=>?_
 simp only [AA]
 refine rg [0] hs ?_
 refine rg [0,3] hs ?_
 refine AB (fun e st=>∃ (c:List ByteArray) (f:Ev.Own),Ck e st B Rw L [(3,true,.list (c.map C0) f)] [] [(1,c.length,f)] (Ld n c=some r)) ?_ ?_
 ·intro K5 o
  refine rg [3,8,9,10] hs ?_
  apply Ar
  refine AC (fun m e st=>∃ (g:List ByteArray) (d:Int) (b:Ev.Own),Ck e st B Rw L [(3,true,.list (g.map C0) b),(8,true,.list (a0.map (I8 AG)) .none),(9,true,Am (a0.length:Int)),(10,true,Am d)] [] [(1,g.length,b)] (GM n a0 m g d=some r)) n ⟨([]),0,.full,([]),Rw,ef hs,ef hs,Owns.of_eq ((l).full 1 0) Ew,h⟩ ?_
  rintro ml7 e st ⟨g,d,b,Xl7,Rl7,rfl,rfl,l,h⟩ Ul7 Vl7
  cases ml7 with
  | zero=>cases h
  | succ ml7 =>
  rw [GM] at h
  exact go (tg (a:=([3,8,9,10,11],([3,8,9,10],[3,5,8,9,10],[3,6,8,9,10],[3,8,9,10],[3,8,9,10],()),[3],()))) h hs p k j i l (q2 (Qa w0 hP n) (ae Qf NJ)) (q2 o (fun e s=>Vl7 ml7 e s (Nat.lt_succ_self _)))
 ·clear h;rintro e st ⟨c,f,Xk4,Rk4,rfl,rfl,l,h⟩
  rw [Ld] at h
  exact go (tg (a:=([2],()))) h hs p k j i l trivial trivial
def FQ (n:Nat) (b:Ty) (q:Ty):Option ((List ByteArray) × Int) :=
 (E7 n b).bind fun y4 =>
 (E7 n q).bind fun y5 =>
 (Eh n ([y4,y5])).bind fun h =>
 if !(decide (h=0)) then
  some (([],h))
 else
  (Ep n b).bind fun z =>
  (Es n b q ([])).bind fun y =>
  (HJ n ([])).bind fun g =>
  some ((g,0))
theorem Q4 (w0:World) (hP:Pow10 w0) (hT:Lib.Utf8Tabs 2 3 w0) (n:Nat) (B:Ao) (Rw:Av) (L:As) (a0:Ty) (a1:Ty) (r:(List ByteArray) × Int) (h:FQ n a0 a1=some r) :
  ACalls Tryz.prog w0 32 [.agg (a0.cs),.agg (a1.cs)] ⟨B,Rw,L⟩ fun x st=>x = .tup [.list (r.1.map C0) .none,Am r.2]∧st=⟨B,Rw,L⟩:=by
 rw [FQ] at h
 refine hd [.tmp 4,.tmp 5] Tryz.func32 Tryz.ntmps32 fun M0 W0 f d c b g e hs=>?_
 simp only [AA]
 exact go (tg (a:=([2,3],[7,2,3,6],[2,3,6,16],([4,5],()),[2,3],[2,3,7],[2,3,7,8],[7],[4,5],()))) h hs f d c b e (Ae (LW w0 hT n) (Ae (KU w0 n) (q3 (Nq w0 hT n) (Nl w0 n) (Ul w0 hP n)))) trivial
def IE (n:Nat) (a0:Ty):Option Bool :=
 (IW n a0).bind fun b =>
 (F7 n ).bind fun y6 =>
 if !y6 then
  (F7 n ).bind fun z =>
  some (z)
 else
  (E7 n b).bind fun y =>
  if (!(decide (y=0)))||(!(decide (b.kind=9))) then
   (F7 n ).bind fun y14 =>
   some (y14)
  else
   (FZ n ([]) b ((⟨#[98,111,100,121]⟩:ByteArray))).bind fun g =>
   (FZ n ([Bh ((⟨#[99,111,112,121]⟩:ByteArray)) (Ba ((⟨#[98,111,100,121]⟩:ByteArray)))]) b ((⟨#[98,111,100,121]⟩:ByteArray))).bind fun h =>
   (FQ n b b).bind fun q =>
   if decide (g.2=0) then
    (F3 n b).bind fun y23 =>
    some (((((decide ((g.1.length:Int)=(y23.length:Int)))&&(decide (h.2=0)))&&(decide ((h.1.length:Int)=0)))&&(decide (q.2=0)))&&(decide ((q.1.length:Int)=0)))
   else
    some (false)
theorem RY (w0:World) (hB:PM w0) (hE:JX w0) (hM:Kp w0) (hP:Pow10 w0) (hT:Lib.Utf8Tabs 2 3 w0) (n:Nat) (B:Ao) (Rw:Av) (L:As) (a0:Ty) (r:Bool) (h:IE n a0=some r) :
  ACalls Tryz.prog w0 6 [.agg (a0.cs)] ⟨B,Rw,L⟩ fun x st=>x = .val (.bool r)∧st=⟨B,Rw,L⟩:=by
 rw [IE] at h
 refine hd [.tmp 2] Tryz.func6 Tryz.ntmps6 fun M0 W0 C t s b H u hs=>?_
 simp only [AA]
 refine rg [1] hs ?_
 obtain ⟨v,w,h⟩:=bind_some h
 refine rc 2 [1] hs ?_;intro K2 f
 refine Ax _ (Wq w0 n _ _ _ a0 _ w) (hv hs) ?_
 refine ne hs f ?_
 clear f
 apply An;intro K4 k
 apply An;intro K5 c
 obtain ⟨F,g,h⟩:=bind_some h
 rcases Bool.eq_false_or_eq_true (!F) with hf7 | hf7
 ·replace h:=Bq h hf7
  have hs:=Ae hf7 hs
  refine rk 3 [1,22] hs ?_
  refine Ax _ (JB w0 hB hE hM hP hT n _ _ _  _ g) (hv hs) ?_
  refine nc hs ?_
  refine G4 ?_
  refine ne hs c ?_
  clear c
  refine A4 true ev (ef hs) (fun hb8=>?_) (fun hb8=>by cases hb8)
  obtain ⟨E,j,h⟩:=bind_some h
  refine rc 2 [2] hs ?_;intro K9 m
  refine Ax _ (JB w0 hB hE hM hP hT n _ _ _  _ j) (hv hs) ?_
  refine ne hs m ?_
  clear m
  exact rt h hs b u
 ·replace h:=Bo h hf7
  obtain ⟨y,i,h⟩:=bind_some h
  have hs:=Ae hf7 hs
  refine rk 3 [1,22] hs ?_
  refine Ax _ (JB w0 hB hE hM hP hT n _ _ _  _ g) (hv hs) ?_
  refine nc hs ?_
  refine Ax _ (LW w0 hT n _ _ _ v _ i) (hv hs) ?_
  refine ne hs c ?_
  clear c
  refine B6 h hs ?_ ?_<;>intro hs h
  ·obtain ⟨G,l,h⟩:=bind_some h
   refine rc 2 [2] hs ?_;intro K13 d
   refine Ax _ (JB w0 hB hE hM hP hT n _ _ _  _ l) (hv hs) ?_
   refine ne hs d ?_
   clear d
   exact rt h hs b u
  refine sk [1] hs k ?_
  clear k
  obtain ⟨D,q,h⟩:=bind_some h
  refine rc 2 [1,3,4] hs ?_;intro K15 e
  refine Ax _ (MG w0 hE hM hP hT n _ _ _ ([]) v ((⟨#[98,111,100,121]⟩:ByteArray)) _ q) (hv hs) ?_
  refine ne hs e ?_
  clear e
  obtain ⟨z,p,h⟩:=bind_some h
  apply An;intro K17 o
  refine dk 11 4 1 [1,3,4,5,6] hs PS ?_
  refine Ax _ (I1 w0 _ _ _ ((⟨#[98,111,100,121]⟩:ByteArray))) (hv hs) ?_
  refine nc hs ?_
  refine Ax _ (H6 w0 _ _ _ ((⟨#[99,111,112,121]⟩:ByteArray)) (Ba ((⟨#[98,111,100,121]⟩:ByteArray)))) (hv hs) ?_
  refine nc hs ?_
  refine Ax _ (MG w0 hE hM hP hT n _ _ _ ([Bh ((⟨#[99,111,112,121]⟩:ByteArray)) (Ba ((⟨#[98,111,100,121]⟩:ByteArray)))]) v ((⟨#[98,111,100,121]⟩:ByteArray)) _ p) (hv hs) ?_
  exact go (tg (a:=([1,3,4,5,6,7,8],([2],()),[2],()))) h hs C t s b u (q2 (Q4 w0 hP hT n) (QA w0 hT n)) (q1 o)
theorem Zz (k:Int):∀ (l b:List TF),H5 k b l=0→(l.map fun p=>p.1).Nodup∧∀ p∈l,∀ q∈b,q.1≠p.1
 | [],_,_=>⟨.nil,by simp⟩
 | x::r,b,h=>by
  rw [H5] at h
  by_cases q:Ky k b x=0
  rotate_left
  ·rw [Aj q] at h;exact absurd h q
  rw [Ai q] at h
  obtain ⟨d,c⟩:=Zz k r (b++[x]) h
  have g:∀ y∈b,y.1≠x.1:=by
   intro y a e
   unfold Ky at q
   by_cases c1:EK x.2.1=true
   ·rw [Ai c1] at q
    by_cases c2:¬ (1≤x.1∧x.1≤9999)
    ·rw [Ai c2] at q;exact absurd q (by decide)
    rw [Aj c2,Ai (List.any_eq_true.2 ⟨y,a,by rw [Dl,Ah e];simp⟩)] at q
    exact absurd q (by decide)
   ·rw [Aj c1] at q;exact absurd q (by decide)
  refine ⟨List.nodup_cons.2 ⟨fun f=>?_,d⟩,fun p hp y a=>?_⟩
  ·obtain ⟨p,hp,e⟩:=List.mem_map.1 f
   exact c p hp x (by simp) e.symm
  ·rcases List.mem_cons.1 hp with rfl | hp
   ·exact g y a
   ·exact c p hp y (by simp [a])
theorem Z1 {l:List TF} (h:(l.map fun p=>p.1).Nodup) {p:TF} (hp:p∈l):(l.find? fun x=>decide (x.1=p.1))=some p:=by
 cases c:l.find? (fun x=>decide (x.1=p.1)) with
 | none =>
  rw [List.find?_eq_none] at c
  exact absurd (Ah rfl) (c p hp)
 | some z =>
  have e:=List.mem_of_find?_eq_some c
  have a:z.1=p.1:=of_decide_eq_true (List.find?_some (p:=fun x:TF=>decide (x.1=p.1)) c)
  obtain ⟨i,d,rfl⟩:=List.mem_iff_getElem.1 e
  obtain ⟨j,b,rfl⟩:=List.mem_iff_getElem.1 hp
  rcases Nat.lt_trichotomy i j with w | w | w
  ·exact absurd a (by have:=List.pairwise_iff_getElem.1 h i j (by simpa using d) (by simpa using b) w;simpa using this)
  ·subst w;rfl
  ·exact absurd a.symm (by have:=List.pairwise_iff_getElem.1 h j i (by simpa using b) (by simpa using d) w;simpa using this)
theorem Zfi (n:Nat) (t:Ty) (p:TF) (hn:t.size+1450000≤n) (ht:t.small) (tg:t.Good) (hk:t.kind=9∨t.kind=10) (hp:p∈t.fields):HS n t p.1=some (p,true):=by
 have c:HS n t p.1=(GI n t (fun x=>some (decide (x.1=p.1)))).bind fun b=>some (b.1,b.2):=rfl
 have a:(t.fields.find? fun x:TF=>decide (x.1=p.1))=Cj t.fields (Oh (fun x:TF=>decide (x.1=p.1)) t.fields 0):=XT _ _
 rw [Z1 (Zz _ _ _ tg.own.apart).1 hp] at a
 rw [c]
 rcases ZU n t (fun x=>decide (x.1=p.1)) hn ht with ⟨k1,k2,_⟩ | ⟨_,⟨q1,q2⟩ | ⟨j,hj,q1,q2⟩⟩
 ·omega
 ·rw [q1] at a
  exact absurd a (by simp [Cj])
 ·rw [q1,AN hj] at a
  rw [q2,←Option.some.inj a];rfl
theorem Vv (rec:Ty→Ty→List Part→Option Unit) (n:Nat) (t:Ty) (a:List Part) (x:Int) (hn:t.size+1450000≤n) (ts:t.small) (tg:t.Good) (hk:t.kind=9∨t.kind=10) (ha:a.length≤100)
  (hr:∀ p∈t.fields,∀ b:List Part,b.length=a.length+1→rec p.2.2.2.1 p.2.2.2.1 b=some ()):∀ (k m i:Nat),i+k=t.fields.length→k<m→BU rec n t t a x m i=some ()
 | k,0,i,_,h=>absurd h (Nat.not_lt_zero _)
 | 0,m+1,i,hi,_=>by
  rw [BU,AU,Ac,Aj (by decide)]
 | k+1,m+1,i,hi,hm=>by
  have d:i<t.fields.length:=by omega
  have c:=List.getElem_mem d
  have f:=t.lens
  have e:=ts.1
  rw [BU,AU,Ah d,Ai rfl,AN d,Af,Ab,Ab,Zfi n t _ hn ts tg hk c,Af,Ai rfl,hr _ c _ (IF _ _),Af,E3,Ai (AW (by omega))]
  exact Vv rec n t a x hn ts tg hk ha hr k m (i+1) (by omega) (by omega)
theorem Yf:∀ (d n:Nat) (t:Ty) (a:List Part),t.depth≤d→t.size+1450000+d≤n→t.small→t.Good→a.length+d≤50→Es n t t a=some ()
 | 0,n,t,a,h,_,_,_,_=>by have:=t.depth_eq;omega
 | d+1,0,t,a,_,h,_,_,_=>by omega
 | d+1,n+1,t,a,hd,hn,ts,tg,ha=>by
  have own:=tg.own
  have m:=t.lens
  rw [Es,IC,Ah (rfl:t.kind=t.kind),Aj (by decide)]
  by_cases h8:t.kind=8
  ·obtain ⟨e,g⟩:=own.elem h8
   have c:e∈t.elem:=by rw [g];simp
   have j:Cj t.elem 0=some e:=by rw [g];rfl
   have hs:=t.elem_size _ c
   have k:=Ty.depth_elem c
   rw [Ah h8,Ai rfl,j,Af,Af,Ab,Ab,Yf d n e _ (by omega) (by omega) (Ty.small_elem ts c) (Le tg c) (by rw [IF];omega),Af]
  rw [Ag h8,Aj (by decide)]
  have i:∀ p∈t.fields,∀ b:List Part,b.length=a.length+1→Es n p.2.2.2.1 p.2.2.2.1 b=some ():=fun p f b o=>by
   have hs:=t.field_size _ f
   have l:=Ty.depth_field f
   exact Yf d n _ b (by omega) (by omega) (Ty.small_field ts f) (FI tg f) (by omega)
  by_cases h9:t.kind=9
  ·rw [Ah h9,Ai rfl,D1,Ai rfl,Ac,Aj (by decide),DZ]
   exact Vv _ n t a 1 (by omega) ts tg (.inl h9) (by omega) i t.fields.length n 0 (by omega) (by omega)
  rw [Ag h9,Aj (by decide),D1]
  by_cases h10:t.kind=10
  ·rw [Ah h10,Ai rfl,Ai rfl,DZ]
   exact Vv _ n t a 4 (by omega) ts tg (.inr h10) (by omega) i t.fields.length n 0 (by omega) (by omega)
  rw [Ag h10,Aj (by decide)]
abbrev IU:ByteArray:=⟨#[98,111,100,121]⟩
abbrev ZcS:List (ByteArray × Ex):=[Bh ⟨#[99,111,112,121]⟩ (Ba ⟨#[98,111,100,121]⟩)]
theorem ZhM (m:Nat):CV (m+60) []=some 0:=by kernel_rfl
theorem ZhR (m:Nat):CV (m+60) ZcS=some 0:=by kernel_rfl
theorem Zjz (m:Nat):Db (m+60) []=some []:=by kernel_rfl
theorem Zjt (m:Nat):Db (m+60) ZcS=some [IU]:=by kernel_rfl
theorem Zf9 (m:Nat):Do (m+60) IU=some ([Part.mk 1 0 IU],0):=by kernel_rfl
theorem Zh5 (n:Nat) (hn:60≤n):prs n IU=([Part.mk 1 0 IU],0):=by
 obtain ⟨m,rfl⟩:∃ m,n=m+60:=⟨n-60,by omega⟩
 rw [prs,Zf9];rfl
theorem ZB (n:Nat) (hn:5≤n):Eh n [0,0]=some 0:=by rw [Zas n hn];rfl
theorem ZN (n:Nat) (hn:3000000≤n) (m:List (ByteArray × Ex)) (t:Ty) (ls:List (List Part)) (ss:List ByteArray) (hF:CV n m=some 0) (hS:Db n m=some ss) (hs:ss.length≤1000) (hm:Dq n t=some 0)
  (hl:Ep n t=some ls) (ho:TK ls):FZ n m t IU=some ((ls.filter fun l => !ss.any (Q0 n [Part.mk 1 0 IU] l)).map (fun l=>(Y2 n l).1),0):=by
 have a:=(Zbv n (by omega) IU).1
 have o:=ho.1
 rw [Zh5 n (by omega)] at a
 have c:A3 n [Part.mk 1 0 IU] (fun b=>some (DY b))=some ([Part.mk 1 0 IU].any fun p => !decide (p.kind=1)):=Vy n _ _ (fun p => !decide (p.kind=1)) (fun p _=>rfl) (by simp) (by simp;omega)
 have d:=OG n (by omega) ([Part.mk 1 0 IU],0) (by simp) ss hs ls ho ls.length n 0 [] [] (by omega) (by omega) (by simp) (by simp)
 rw [List.drop_zero,List.nil_append,List.nil_append] at d
 rw [FZ,II,hF,Af,hm,Af,ZB n (by omega),Af,Aj (by decide),a,Af,Aj (by decide),c,Af,Aj (by decide),hS,Af,hl,Af]
 rw [show ((0:Nat):Int)=0 from rfl] at d
 rw [d];rfl
theorem Zaf (n:Nat) (hn:3000000≤n) (t:Ty):IE n t=some true:=by
 obtain ⟨a,u,i⟩:=Zd8 n (by omega) t
 have y:=i.1
 have w:=i.2.1
 have h:a.small:=⟨by omega,by omega,i.2.2⟩
 obtain ⟨c,e,f⟩:=QE n a hn h
 obtain ⟨x,b,q2,q3,g⟩:=Ye n hn a h
 have z:=g.1
 rw [IE,u,Af,Z0 n (by omega),Af,Aj (by decide),e,Af]
 by_cases h0:c=0
 rotate_left
 ·rw [Ag h0];rfl
 by_cases hk:a.kind=9
 rotate_left
 ·rw [Ah h0,Ag hk];rfl
 have tg:=(f h0).good
 subst h0
 have j:=Y7 n a b q3 (by omega) (by omega)
 have d:Dq n a=some 0:=by
  rw [Dq,e,Af,Ah rfl,Ah hk,Aj (by decide),E1]
 obtain ⟨m,rfl⟩:∃ m,n=m+60:=⟨n-60,by omega⟩
 have o:=ZN (m+60) hn [] a b [] (ZhM m) (Zjz m) (by simp) d j g
 have k:=ZN (m+60) hn ZcS a b [IU] (ZhR m) (Zjt m) (by simp) d j g
 have s:∀ l:List Part,Q0 (m+60) [Part.mk 1 0 IU] l IU=true:=fun l=>by
  rw [Q0,Zh5 (m+60) (by omega)]
  simp [Ws,Ks,pEq,Zby]
 have q:(b.filter fun l => !([]:List ByteArray).any (Q0 (m+60) [Part.mk 1 0 IU] l))=b:=List.filter_eq_self.2 fun _ _=>rfl
 have v:(b.filter fun l => !([IU]:List ByteArray).any (Q0 (m+60) [Part.mk 1 0 IU] l))=[]:=List.filter_eq_nil_iff.2 fun l _=>by simp [s l]
 rw [q] at o
 rw [v] at k
 have r:FQ (m+60) a a=some ([],0):=by
  have p:HJ (m+60) []=some []:=by
   rw [HJ,GM,Aj (by decide)];rfl
  rw [FQ,e,Af,Af,ZB _ (by omega),Af,Aj (by decide),j,Af,Yf 12 (m+60) a [] (by omega) (by omega) h tg (by simp),Af,p,Af]
 rw [Ah rfl,Ah hk,Aj (by decide),o,Af,k,Af,r,Af,Ai (by rfl),q3,Af,List.length_map,Ah rfl]
 rfl
end Go.Proofs.YtmcnjijeocmkgaaGreatDoor
namespace Go.Proofs.YtmcnjijeocmkgaaGreatDoor
open Go Go.Shelf Go.ChangeShapes Go.WideShapes Go.ChangeAt Go.RowKit Go.Lib Go.Ev
set_option maxRecDepth 100000
noncomputable def N4:Nat:=(World.holding Tryz.prog default ⟨#[],#[],[]⟩).heap.size
noncomputable def N8 (os:Os):World :=
 let w0:=World.holding Tryz.prog os ⟨#[.cells #[.string ⟨#[118,97,108,117,101,32,111,117,116,32,111,102,32,114,97,110,103,101]⟩] 359,.cells #[.string ⟨#[105,110,118,97,108,105,100,32,115,121,110,116,97,120]⟩] 359,.cells #[.int .i64 1,.int .i64 0,.string ⟨#[98,111,100,121]⟩] 146],#[],[]⟩
 let put (h:Array Obj) (g:Nat) (d:DataW Unit):Array Obj:=h.modify g fun
  | .cells _ t frozen => .cells (Zix d).toArray t frozen
  | o=>o
 let one (h:Array Obj) (g:Nat) (v:Value):Array Obj:=h.modify g fun
  | .cells _ t frozen => .cells #[v] t frozen
  | o=>o
 { w0 with heap:=one (one (one (put (put (put (put (put w0.heap 2 Rows.laid_unicode_utf8_first) 3 Rows.laid_unicode_utf8_acceptRanges) 4 Rows.laid_internal_strconv_uint64pow10) 7 Rows.laid_math_bits_deBruijn32tab) 8 Rows.laid_math_bits_deBruijn64tab)
   6 (.iface 357 (.pointer (some ⟨N4,0,none⟩)))) 5 (.iface 357 (.pointer (some ⟨N4+1,0,none⟩)))) 0 (.slice (some ⟨N4+2,0,none⟩) 1 1) }
theorem Uj (os:Os) (args:Array Value):laidMet Tryz.prog Rows.lossLostRow.laid ((N8 os).forCall (fun _ _=>0) ⟨#[],args,[]⟩).memory :=
 (LaidIn.of_run (l:=Rows.lossLostRow.laid) [7,8,4,3,6,5,0,2,N4,N4+1,N4+2] 8 (by kernel_rfl) (by kernel_rfl) (by kernel_rfl) (by kernel_rfl)).met
theorem Za4 {W:World} (hL:laidMet Tryz.prog Rows.lossLostRow.laid W):Lib.Utf8Tabs 2 3 W∧Pow10 W :=
 ⟨utf8Tabs_of_readsT (U8Types.of196 Tryz.laysValid) ⟨by kernel_rfl,by kernel_rfl,by kernel_rfl,by kernel_rfl,by kernel_rfl,by kernel_rfl,by kernel_rfl⟩ (Lib.laidMet.reads hL (.tail _ (.tail _ (.tail _ (.tail _ (.tail _ (.tail _ (.tail _ (.head _))))))))) (Lib.laidMet.reads hL (.tail _ (.tail _ (.tail _ (.head _))))),
  Tm (Lib.laidMet.reads hL (.tail _ (.tail _ (.head _))))⟩
theorem O9 {W:World} {name:String} {d:DataW Unit} {g:Nat} {t:TypeId} {ms:Array (String × TypeId)} (h:Lib.VarReads Tryz.prog W name d) (hg:Tryz.prog.globalNamed name=some g) (ht:(Tryz.prog.globals[g]?).map (·.type)=some t) (hu:Tryz.prog.underlying t=some (.interface ms)) :
  ∃ ev,W.cell? ⟨g,0,none⟩=some ev∧(ev = .nilIface∨∃ te pe,ev = .iface te pe):=by
 obtain ⟨i,j,cs,fuel,p,c,e,f,a⟩:=h
 obtain rfl:=Option.some.inj (hg.symm.trans c)
 obtain rfl:=Option.some.inj (ht.symm.trans e)
 have b:=World.var?_cell c f 0
 obtain ⟨l⟩:=cs
 cases fuel with
 | zero=>simp [DataW.trod] at a
 | succ n =>
  unfold DataW.trod at a
  simp only [hu] at a
  split at a
  all_goals first
   | (rename_i q _;simp at q;done)
   | exact ⟨_,by simpa using b,.inl rfl⟩
   | exact ⟨_,by simpa using b,.inr ⟨_,_,rfl⟩⟩
   | simp_all
theorem ZaM {W:World} (hL:laidMet Tryz.prog Rows.lossLostRow.laid W):JX W :=
 ⟨O9 (Lib.laidMet.reads hL (.tail _ (.tail _ (.tail _ (.tail _ (.tail _ (.head _))))))) (by kernel_rfl) (by kernel_rfl) (t:=248) Tryz.underlying248,
  O9 (Lib.laidMet.reads hL (.tail _ (.tail _ (.tail _ (.tail _ (.head _)))))) (by kernel_rfl) (by kernel_rfl) (t:=248) Tryz.underlying248⟩
theorem ZaB {W:World} (hS:W.ShapedOpen Tryz.prog):Kp W :=
 cell_of_shapedOpen_int (zero := #[.int .i64 0]) (t:=3) hS (of_decide_eq_true (by kernel_rfl)) (by kernel_rfl) rfl (by kernel_rfl) (by kernel_rfl) Tryz.underlying3
theorem Uf {W:World} (h:Lib.VarReads Tryz.prog W "manifold/loss.body" Rows.laid_manifold_loss_body):PM W:=by
 obtain ⟨g,t,cs,ad,p,U,Q,h3,h4⟩:=h
 obtain rfl:=Option.some.inj ((show Tryz.prog.globalNamed "manifold/loss.body" = some 0 by kernel_rfl).symm.trans U)
 obtain rfl:=Option.some.inj ((show (Tryz.prog.globals[0]?).map (·.type)=some 113 by kernel_rfl).symm.trans Q)
 have hc:=World.var?_cell U h3 0
 obtain ⟨l⟩:=cs
 rcases DataW.trod_slice Tryz.underlying113 h4 with ⟨_,q⟩ | ⟨a,len,cap,elems,rest,n,rfl,K,G,_,hlc,hcm,hlen,hel,_,_⟩
 ·cases q
 have e3:Tryz.prog.cellsOf 146=3:=by kernel_rfl
 have e:elems.map (·.1)=[.agg [.lit (.int .i64 1),.lit (.int .i64 0),.lit (.string [98,111,100,121])]]:=by
  have:=congrArg Prod.fst G
  simp only [Rows.laid_manifold_loss_body,DataW.slice.injEq] at this
  exact this.1.symm
 have z:elems.length=1:=by have:=congrArg List.length e;simpa using this
 match elems,z,e,hlen,hel with
 | [e0],_,e,hlen,hel =>
 simp only [List.map_cons,List.map_nil,List.cons.injEq,and_true] at e
 have hlen:len=1:=hlen.symm
 subst hlen
 obtain ⟨cs',aa,O⟩:=Option.bind_eq_some_iff.1 (hel 0 (by decide))
 obtain ⟨xs,n',_,V,y,u,C⟩:=DataW.trod_struct Tryz.underlying146 O
 have y:cs'.length=3:=y.trans e3
 have u:xs.length=3:=u
 match cs',y,xs,u,C with
 | [c0,c1,c2],_,[y0,y1,y2],_,C =>
 have f0:_=some y0:=C 0 _ rfl;have f1:_=some y1:=C 1 _ rfl;have f2:_=some y2:=C 2 _ rfl
 obtain ⟨k,ek,dk,_⟩:=DataW.trod_int Tryz.underlying3 f0
 obtain ⟨i,ei,di,_⟩:=DataW.trod_int Tryz.underlying3 f1
 obtain ⟨s,es,ds,hs⟩:=DataW.trod_string Tryz.underlying9 f2
 have Y:Tryz.prog.cellsOf 3=1:=by kernel_rfl
 have ab:Tryz.prog.cellsOf 9=1:=by kernel_rfl
 simp only [List.getElem_toArray,List.getElem_cons_zero,List.getElem_cons_succ,Y,ab,List.drop_zero,List.take_succ_cons,List.take_zero,List.cons.injEq,and_true,List.drop_succ_cons] at ek ei es
 subst ek ei es dk di ds
 have D:=(congrArg Prod.fst V).symm.trans e
 simp only [List.map_cons,List.map_nil,DataW.agg.injEq,List.cons.injEq,DataW.lit.injEq,Lit.int.injEq,Lit.string.injEq,and_true,true_and] at D
 obtain ⟨rfl,rfl,F⟩:=D
 have hs3:s=⟨#[98,111,100,121]⟩:=by
  obtain ⟨⟨x⟩⟩:=s
  simp only at F
  rw [F]
 subst hs3
 obtain ⟨_,_,d⟩:=World.cells?_some aa
 rw [e3] at d
 have e0:((a.add (0*3)).add 0)=a:=by simp [Addr.add]
 have hspot:a.spot=none:=by
  have h5:=d 0 (by decide)
  rw [e0] at h5
  simp only [List.getElem?_cons_zero] at h5
  unfold World.cell? at h5
  split at h5
  ·split at h5
   ·cases h5
   ·rename_i q;simpa using q
  ·cases h5
 obtain ⟨b,c,sp⟩:=a
 simp only at hspot
 subst hspot
 have r:∀ j,j<3→W.cell? ⟨b,c+j,none⟩=([.int .i64 1,.int .i64 0,.string ⟨#[98,111,100,121]⟩]:List Value)[j]? := fun j J=>by
  have:=d j J
  rw [←this]
  congr 1
  have ea:∀ (o m:Nat),(⟨b,o,none⟩:Addr).add m=⟨b,o+m,none⟩:=fun o m=>by unfold Addr.add;split<;>simp_all
  rw [ea,ea];simp
 have Z:W.cell? ⟨0,0,none⟩=some (.slice (some ⟨b,c,none⟩) 1 cap):=by
  have K:l=[.slice (some ⟨b,c,none⟩) 1 cap]:=K
  rw [K] at hc
  simpa using hc
 intro M w E
 refine ⟨.slice (some ⟨b,c,none⟩) 1 cap,?_,?_⟩
 ·simp only [Instr.loadAt,Instr.sureAddr,Sem.run_bind,Sem.run_pure,Result.andThen_ok]
  exact MB (f:=fun _ => .slice (some ⟨b,c,none⟩) 1 cap) (show GK Tryz.prog 113=some (1,false) by kernel_rfl) (fun j J=>by
   obtain rfl:j=0:=by omega
   exact JO Z E) (by decide)
 ·refine R.list (xs:=[.agg [Am 1,Am 0,.val (.string ⟨#[98,111,100,121]⟩)]]) 3 (fun _ => .agg #[.int .i64 1,.int .i64 0,.string ⟨#[98,111,100,121]⟩]) hlc hcm (fun i N=>?_) (fun i N=>?_) trivial
  ·obtain rfl:i=0:=by simpa using N
   refine ⟨rfl,fun j J=>?_⟩
   have h5:=r j J
   have H:j=0∨j=1∨j=2:=by omega
   have hv:∃ v:Value,([.int .i64 1,.int .i64 0,.string ⟨#[98,111,100,121]⟩]:List Value)[j]? = some v:=by
    rcases H with rfl | rfl | rfl<;>exact ⟨_,rfl⟩
   obtain ⟨v,hv⟩:=hv
   rw [hv] at h5
   rw [show c+0*3+j=c+j by omega]
   refine ⟨.inl (World.block_lt_of_cell? W _ h5),?_⟩
   rw [JO h5 E,←hv]
   rcases H with rfl | rfl | rfl<;>rfl
  ·obtain rfl:i=0:=by simpa using N
   refine .agg rfl (fun x G=>?_) (fun k U Q=>?_)
   ·simp only [List.mem_cons,List.not_mem_nil,or_false] at G
    rcases G with rfl | rfl | rfl<;>rfl
   ·have H:k=0∨k=1∨k=2:=by simp at Q;omega
    rcases H with rfl | rfl | rfl
    ·exact .flat rfl
    ·exact .flat rfl
    ·exact .flat (show FB (.string ⟨#[98,111,100,121]⟩)=true from by decide)
theorem ZaP {W:World} (hL:laidMet Tryz.prog Rows.lossLostRow.laid W):PM W :=
 Uf (Lib.laidMet.reads hL (.tail _ (.tail _ (.tail _ (.tail _ (.tail _ (.tail _ (.head _))))))))
end Go.Proofs.YtmcnjijeocmkgaaGreatDoor
