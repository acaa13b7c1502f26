/-
  Part 7 of the proof: rules and walks that the claim's last text uses.
-/
import Derived.Test.YtmcnjijeocmkgaaGreatDoorLc6
set_option linter.unusedSimpArgs false
set_option linter.unusedVariables false
set_option maxRecDepth 100000
set_option maxHeartbeats 4000000
namespace Go.Proofs.YtmcnjijeocmkgaaGreatDoor
open Go Go.RowKit Go.Ev
def HL (n:Nat)  : Option Int :=
 some ((-1))
def B8 (n:Nat) (h:List Ty) (y:Ty→Option Bool):Nat→Int→Option Int
 | 0,_=>none
 | m+1,b =>
  if decide (b<(h.length:Int)) then
   (B6 h b).bind fun g =>
   (y g).bind fun q =>
   if q then
    some (b)
   else
    if Bj (b+1) then
     (B8 n h y m) (b+1)
    else none
  else
   HL n 
def FQ (n:Nat) (b:List Ty) (g:Ty→Option Bool):Option Int :=
 B8 n b g n 0
theorem O5 (w0:World) (n:Nat) (B:As) (Rw:Ax) (L:Aw) (a0:List Ty) (fa1:FuncId) (ca1:List AV) (a1:Ty→Option Bool) (ha1:∀ (x0:Ty) r,a1 x0=some r→∀ B' rows,B <+: B'→Rw <+: rows→ACalls Tryz.prog w0 fa1 ([.agg (x0.cs)]++ca1) ⟨B',rows,L⟩ fun v s=>v = .val (.bool r)∧s=⟨B',rows,L⟩) (r:Int) (h:FQ n a0 a1=some r) :
  ACalls Tryz.prog w0 307 [.list (a0.map KF) .none,.clo fa1 ca1] ⟨B,Rw,L⟩ fun x st=>x=Am r∧st=⟨B,Rw,L⟩:=by
 rw [FQ] at h
 refine hd [.tmp 4] Tryz.func307 Tryz.ntmps307 fun M0 W0 j i g b l f hs=>?_
 simp only [AB]
 have c:=BN (l (.clo fa1 ca1) (by simp))
 refine rg [0,1] hs ?_
 refine AA (fun e st=>Ck e st B Rw L [] [] [] (HL n  = some r)) ?_ ?_
 ·intro K4 k
  refine rg [0,1,7,8] hs ?_
  apply Au
  refine AC (fun m e st=>∃ (d:Int),Ck e st B Rw L [(0,true,.list (a0.map KF) .none),(1,true,.clo fa1 ca1),(7,true,Am (a0.length:Int)),(8,true,Am d)] [] [] (B8 n a0 a1 m d=some r)) n ⟨0,([]),Rw,ef hs,ef hs,f,h⟩ ?_
  rintro ml6 e st ⟨d,Xl6,Rl6,rfl,rfl,f,h⟩ Ul6 Vl6
  cases ml6 with
  | zero=>cases h
  | succ ml6 =>
  rw [B8] at h
  refine A4 j i g rfl b f (Ln c f) (Ln c f) ?_
  exact go (tg (a:=([0,1,7,8,9],([0,1,7,8],[0,1,5,7,8],[0,1,5,7,8,16],([4],()),[0,1,7,8],[0,1,7,8],()),[],()))) h hs j i g b f (q1 ha1) (q2 k (fun e s=>Vl6 ml6 e s (Nat.lt_succ_self _)))
 ·clear h;rintro e st ⟨Xk3,Rk3,rfl,rfl,f,h⟩
  rw [HL] at h
  refine A4 j i g rfl b f (Ln c f) (Ln c f) ?_
  refine rg [4] hs ?_
  exact rt h hs b f
def Di (n:Nat) (b:List Ty) (h:Ty→Option Bool):Option Bool :=
 (FQ n b h).bind fun g =>
 some (decide (0≤g))
theorem IV (w0:World) (n:Nat) (B:As) (Rw:Ax) (L:Aw) (a0:List Ty) (fa1:FuncId) (ca1:List AV) (a1:Ty→Option Bool) (ha1:∀ (x0:Ty) r,a1 x0=some r→∀ B' rows,B <+: B'→Rw <+: rows→ACalls Tryz.prog w0 fa1 ([.agg (x0.cs)]++ca1) ⟨B',rows,L⟩ fun v s=>v = .val (.bool r)∧s=⟨B',rows,L⟩) (r:Bool) (h:Di n a0 a1=some r) :
  ACalls Tryz.prog w0 245 [.list (a0.map KF) .none,.clo fa1 ca1] ⟨B,Rw,L⟩ fun x st=>x = .val (.bool r)∧st=⟨B,Rw,L⟩:=by
 rw [Di] at h
 refine hd [.tmp 4] Tryz.func245 Tryz.ntmps245 fun M0 W0 m l i b k g hs=>?_
 simp only [AB]
 have f:=BN (k (.clo fa1 ca1) (by simp))
 refine rg [0,1] hs ?_
 obtain ⟨o,d,h⟩:=bind_some h
 refine rc 2 [4] hs ?_;intro K2 c
 refine Az _ (O5 w0 n _ _ _ a0 fa1 ca1 a1 (fun x0 r j e a q1 q2=>ha1 x0 r j e a (List.IsPrefix.trans px q1) (g.pre.trans q2)) _ d) (hv hs) ?_
 refine ne hs c ?_
 clear c
 exact rt h hs b g
def GF (rec:Ty→Option Bool) (n:Nat) (g:Ty):Option Bool :=
 (Di n g.elem (fun (b:Ty)=>rec b)).bind fun h =>
 if h then
  some (true)
 else
  (A2 n g.fields (fun (b:Int × ByteArray × Int × Ty × List Vl)=>Da rec b)).bind fun q =>
  some (q)
def AM:Nat→Ty→Option Bool
 | 0,_=>none
 | n+1,b=>GF (AM n) n b
def IH (w0:World) (F:Ty→Option Bool):Prop:=∀ (B:As) (Rw:Ax) (L:Aw) (b:Ty) (r:Bool),F b=some r→ACalls Tryz.prog w0 166 [.agg (b.cs)] ⟨B,Rw,L⟩ fun x st=>x = .val (.bool r)∧st=⟨B,Rw,L⟩
theorem OH (w0:World) (rec:Ty→Option Bool) (ih:IH w0 rec) (n:Nat):IH w0 (GF rec n):=by
 intro B Rw L a0 r h
 rw [GF] at h
 refine hd [.tmp 2] Tryz.func166 Tryz.ntmps166 fun M0 W0 p o l a s k hs=>?_
 simp only [AB]
 refine rg [1] hs ?_
 apply Ap;intro K2 c
 obtain ⟨m,e,h⟩:=bind_some h
 rcases Bool.eq_false_or_eq_true (m) with hf4 | hf4
 ·replace h:=AW h hf4
  have hs:=Ae hf4 hs
  refine rk 3 [2] hs ?_
  refine Az _ (IV w0 n _ _ _ a0.elem 166 [] (fun (b:Ty)=>rec b) (fun b r d j rows' g f=>by exact ih _ _ _ b _ d) _ e) (hv hs) ?_
  refine nc hs ?_
  refine Dq ?_
  refine ne hs c ?_
  clear c
  exact rt h hs a k
 ·replace h:=AX h hf4
  obtain ⟨q,i,h⟩:=bind_some h
  have hs:=Ae hf4 hs
  refine rk 3 [2] hs ?_
  refine Az _ (IV w0 n _ _ _ a0.elem 166 [] (fun (b:Ty)=>rec b) (fun b r d j rows' g f=>by exact ih _ _ _ b _ d) _ e) (hv hs) ?_
  refine nc hs ?_
  refine Az _ (Es w0 n _ _ _ a0.fields 246 [] (fun (b:Int × ByteArray × Int × Ty × List Vl)=>Da rec b) (fun b r d j rows' g f=>by exact OI w0 rec ih _ _ _ b _ d) _ i) (hv hs) ?_
  refine ne hs c ?_
  clear c
  exact rt h hs a k
theorem KW (w0:World):∀ n:Nat,IH w0 (AM n)
 | 0=>fun _ _ _ _ _ h=>(nomatch h)
 | n+1=>OH w0 (AM n) (KW w0 n) n
def LK (n:Nat)  (b:ByteArray):Option ByteArray :=
 some (b)
def EU (n:Nat) (y:List Part):Nat→ByteArray→Int→Option ByteArray
 | 0,_,_=>none
 | m+1,h,g =>
  if decide (g<(y.length:Int)) then
   (B6 y g).bind fun q =>
   (J7 n ([Part.mk 1 0 ((⟨#[120]⟩:ByteArray)),q])).bind fun b =>
   if 0≤(if (b.1.size:Int)<1 then (b.1.size:Int) else 1)∧(if (b.1.size:Int)<1 then (b.1.size:Int) else 1)≤(b.1.size:Int)∧(b.1.size:Int)≤(b.1.size:Int) then
    if h.size+(b.1.extract ((if (b.1.size:Int)<1 then (b.1.size:Int) else 1)).toNat b.1.size).size≤9223372036854775807 then
     if Bj (g+1) then
      (EU n y m) (h++(b.1.extract ((if (b.1.size:Int)<1 then (b.1.size:Int) else 1)).toNat b.1.size)) (g+1)
     else none
    else none
   else none
  else
   LK n h
def FB (n:Nat) (b:ByteArray) (g:List Part):Option ByteArray :=
 EU n g n b 0
theorem Pi (w0:World) (hP:Pow10 w0) (n:Nat) (B:As) (Rw:Ax) (L:Aw) (a0:ByteArray) (a1:List Part) (r:ByteArray) (h:FB n a0 a1=some r) :
  ACalls Tryz.prog w0 167 [.val (.string a0),.list (a1.map AO) .none] ⟨B,Rw,L⟩ fun x st=>x = .val (.string r)∧st=⟨B,Rw,L⟩:=by
 rw [FB] at h
 refine hd [.tmp 4] Tryz.func167 Tryz.ntmps167 fun M0 W0 C k p c J i hs=>?_
 simp only [AB]
 refine rg [0,1] hs ?_
 refine AA (fun e st=>∃ (g:ByteArray),Ck e st B Rw L [(0,true,.val (.string g))] [] [] (LK n g=some r)) ?_ ?_
 ·intro K4 F
  refine rg [0,9,10,11] hs ?_
  apply Au
  refine AC (fun m e st=>∃ (d:ByteArray) (b:Int),Ck e st B Rw L [(0,true,.val (.string d)),(9,true,.list (a1.map AO) .none),(10,true,Am (a1.length:Int)),(11,true,Am b)] [] [] (EU n a1 m d b=some r)) n ⟨a0,0,([]),Rw,ef hs,ef hs,i,h⟩ ?_
  rintro ml6 e st ⟨d,b,Xl6,Rl6,rfl,rfl,i,h⟩ Ul6 Vl6
  cases ml6 with
  | zero=>cases h
  | succ ml6 =>
  rw [EU] at h
  refine td C k p c i ?_
  refine rg [0,9,10,11,12] hs ?_
  apply Ap;intro K8 y
  refine Cj h hs ?_ ?_<;>intro hs h
  rotate_left
  ·refine sx [0] hs F ?_
   exact ⟨d,([]),Rl6,ef hs,ef hs,i,h⟩
  refine sk [0,9,10,11] hs y ?_
  clear y
  apply Ap;intro K10 w
  apply Au
  obtain ⟨E,u,h⟩:=bind_some h
  obtain ⟨D,z,l⟩:=Bt u
  have o:=Bv (f:=AO) l
  have hs:=Ae o hs
  refine rg [0,6,9,10,11] hs ?_
  obtain ⟨H,v,h⟩:=bind_some h
  refine rc 2 [0,7,9,10,11] hs ?_;intro K13 j
  refine Az _ (SG w0 hP n _ _ _ ([Part.mk 1 0 ((⟨#[120]⟩:ByteArray)),E]) _ v) (hv hs) ?_
  refine ne hs j ?_
  clear j
  obtain ⟨G,h⟩:=Av h
  obtain ⟨t,h⟩:=Av h
  have q:=t
  try simp +decide only [go_sem] at q
  exact go (tg (a:=([0,9,10,11],[0,9,10,11],()))) h hs C k p c i trivial (q2 w (fun e s=>Vl6 ml6 e s (Nat.lt_succ_self _)))
 ·clear h;rintro e st ⟨g,Xk3,Rk3,rfl,rfl,i,h⟩
  rw [LK] at h
  refine td C k p c i ?_
  refine rg [4] hs ?_
  exact rt h hs c i
def B5 (n:Nat) (a0:Cps) (a1:ByteArray):Option (Ex × Bool × Bool) :=
 (CZ n a1).bind fun q =>
 if !(decide (q.2=0)) then
  some ((Ex.mk 0 0 (⟨#[]⟩:ByteArray) ([]) ([]),false,false))
 else
  (DR n q.1 ([bodyP])).bind fun y9 =>
  if !y9 then
   some ((Ex.mk 0 0 (⟨#[]⟩:ByteArray) ([]) ([]),false,false))
  else
   if 0≤1∧1≤(q.1.length:Int)∧(q.1.length:Int)≤(q.1.length:Int) then
    (Df n a0.targets (fun (x0:List Part)=>Bo n x0 (q.1.drop 1))).bind fun y =>
    if decide (y<0) then
     (CP n a0 (q.1.drop 1)).bind fun z =>
     some ((z.1,z.2.1,z.2.2))
    else
     (B6 a0.rules y).bind fun b =>
     (B6 a0.targets y).bind fun g =>
     (Gj n a0.mid g).bind fun h =>
     if 0≤(g.length:Int)∧(g.length:Int)≤((q.1.drop 1).length:Int)∧((q.1.drop 1).length:Int)≤((q.1.drop 1).length:Int) then
      if h.2 then
       (AM n h.1.2.2.2.1).bind fun y31 =>
       if y31 then
        some ((Ex.mk 0 0 (⟨#[]⟩:ByteArray) ([]) ([]),false,false))
       else
        if (decide (((((q.1.drop 1).drop g.length).length:Int))=0))&&(decide (h.1.2.2.1=3)) then
         some ((Ex.mk 23 0 (⟨#[]⟩:ByteArray) ([]) ([b.2,Ex.mk 1 0 (⟨#[]⟩:ByteArray) h.1.2.2.2.2 ([])]),true,true))
        else
         if decide (((((q.1.drop 1).drop g.length).length:Int))=0) then
          some ((b.2,decide (b.2.op=1),true))
         else
          if (!(decide (b.2.op=2)))||(decide (h.1.2.2.1=3)) then
           some ((Ex.mk 0 0 (⟨#[]⟩:ByteArray) ([]) ([]),false,false))
          else
           (FB n b.2.text ((q.1.drop 1).drop g.length)).bind fun y44 =>
           some ((Ex.mk 2 0 y44 ([]) ([]),false,true))
      else
       if ((decide (((((q.1.drop 1).drop g.length).length:Int))=0))&&h.2)&&(decide (h.1.2.2.1=3)) then
        some ((Ex.mk 23 0 (⟨#[]⟩:ByteArray) ([]) ([b.2,Ex.mk 1 0 (⟨#[]⟩:ByteArray) h.1.2.2.2.2 ([])]),true,true))
       else
        if decide (((((q.1.drop 1).drop g.length).length:Int))=0) then
         some ((b.2,decide (b.2.op=1),true))
        else
         if !(decide (b.2.op=2)) then
          some ((Ex.mk 0 0 (⟨#[]⟩:ByteArray) ([]) ([]),false,false))
         else
          (FB n b.2.text ((q.1.drop 1).drop g.length)).bind fun y56 =>
          some ((Ex.mk 2 0 y56 ([]) ([]),false,true))
     else none
   else none
theorem Lc (w0:World) (hB:Rj w0) (hE:Jl w0) (hM:Jh w0) (hP:Pow10 w0) (n:Nat) (B:As) (Rw:Ax) (L:Aw) (la0:Nat) (a0:Cps) (hla0:B[la0]? = some (.list (a0.rules.map AP) .none::(.list (a0.targets.map (KO AO)) .none::(a0.mid.cs)))) (a1:ByteArray) (r:Ex × Bool × Bool) (h:B5 n a0 a1=some r) :
  ACalls Tryz.prog w0 76 [.box la0 0,.val (.string a1)] ⟨B,Rw,L⟩ fun x st=>x = .tup [.agg (r.1.cs),.val (.bool r.2.1),.val (.bool r.2.2)]∧st=⟨B,Rw,L⟩:=by
 rw [B5] at h
 refine hd [.cell 4 65,.tmp 5,.tmp 6] Tryz.func76 Tryz.ntmps76 fun M0 W0 hN bh bc g hu q hs=>?_
 simp only [AB]
 have ay:=(Ak.1 hla0).1
 apply Ap;intro K1 ax
 apply Ar 1 [0,1,4]
 rw [Aq];simp +decide only [go_sem,Nat.reduceAdd,An hla0,or_true]
 (repeat' apply Ae)<;>first | refine ax _ _ ?_ | exact cl
 clear ax
 apply Ap;intro K2 am
 obtain ⟨w,a2,h⟩:=bind_some h
 apply Ar 2 [0,4,7,8]
 rw [Aq];simp +decide only [go_sem,Nat.reduceAdd,An hla0,or_true]
 (repeat' apply Ae)<;>first | refine Az _ (GG w0 hE hM hP n _ _ _ a1 _ a2) (by first | rfl | (simp +decide only [go_sem,Nat.reduceAdd,An hla0,or_true];done) | (simp +decide only [go_sem,Nat.reduceAdd,Vl.cs,Ty.cs,An hla0,or_true];done)) ?_ | exact cl
 rw [Aq];simp +decide only [go_sem,Nat.reduceAdd,An hla0,or_true]
 (repeat' apply Ae)<;>first | refine am _ _ ?_ | exact cl
 clear am
 apply Ap;intro K4 aw
 apply Ap;intro K5 z
 refine Ze9 0 (.list [.agg [Am bodyP.kind,Am bodyP.index,.val (.string bodyP.name)]] .none) (by decide) ?_
 rcases Bool.eq_false_or_eq_true (!(decide (w.2=0))) with hf6 | hf6
 ·replace h:=AW h hf6
  apply Ar 2 [0,4,7,28]
  rw [Aq];simp +decide only [go_sem,Nat.reduceAdd,An hla0,or_true,hf6,hB]
  (repeat' apply Ae)<;>first | refine Dq ?_ | exact cl
  rw [Aq];simp +decide only [go_sem,Nat.reduceAdd,An hla0,or_true,hf6,hB]
  (repeat' apply Ae)<;>first | refine z _ _ ?_ | exact cl
  clear z
  refine AL true ev (by simp +decide only [go_sem,Nat.reduceAdd,An hla0,or_true,hf6]) (fun hb7=>?_) (fun hb7=>by cases hb7)
  apply Ap;intro K8 ar
  apply Ar 1 [4,5,6]
  rw [Aq];simp +decide only [go_sem,Nat.reduceAdd,An hla0,or_true,hf6]
  (repeat' apply Ae)<;>first | refine ar _ _ ?_ | exact cl
  clear ar
  apply AN;simp +decide only [go_sem,Nat.reduceAdd,An hla0,or_true,hf6]
  have hgt:=Option.some.inj h;subst hgt
  first | refine Br g rfl q.pre ev ⟨?_,rfl⟩ | refine Ci g rfl q.pre ev ⟨?_,rfl⟩
  first | rfl | (simp +decide only [go_sem,Nat.reduceAdd,An hla0,or_true,hf6];done) | (simp +decide only [go_sem,Nat.reduceAdd,Vl.cs,Ty.cs,An hla0,or_true,hf6];done)
 ·replace h:=AX h hf6
  obtain ⟨y9,a8,h⟩:=bind_some h
  apply Ar 2 [0,4,7,28]
  rw [Aq];simp +decide only [go_sem,Nat.reduceAdd,An hla0,or_true,hf6,hB]
  (repeat' apply Ae)<;>first | refine Az _ (DX w0 n _ _ _ w.1 ([bodyP]) _ a8) (by first | rfl | (simp +decide only [go_sem,Nat.reduceAdd,An hla0,or_true,hf6,hB];done) | (simp +decide only [go_sem,Nat.reduceAdd,Vl.cs,Ty.cs,An hla0,or_true,hf6,hB];done)) ?_ | exact cl
  rw [Aq];simp +decide only [go_sem,Nat.reduceAdd,An hla0,or_true,hf6,hB]
  (repeat' apply Ae)<;>first | refine z _ _ ?_ | exact cl
  clear z
  refine AL (!y9) ev (by first | (simp +decide only [go_sem,Nat.reduceAdd,An hla0,or_true,hf6];done) | (simp +decide only [go_sem,Nat.reduceAdd,An hla0,or_true,hf6];rfl)) (fun d=>?_) (fun d=>?_)
  ·replace h:=AW h d
   apply Ap;intro K11 ad
   apply Ar 1 [4,5,6]
   rw [Aq];simp +decide only [go_sem,Nat.reduceAdd,An hla0,or_true,hf6,d]
   (repeat' apply Ae)<;>first | refine ad _ _ ?_ | exact cl
   clear ad
   apply AN;simp +decide only [go_sem,Nat.reduceAdd,An hla0,or_true,hf6,d]
   have hgt:=Option.some.inj h;subst hgt
   first | refine Br g rfl q.pre ev ⟨?_,rfl⟩ | refine Ci g rfl q.pre ev ⟨?_,rfl⟩
   first | rfl | (simp +decide only [go_sem,Nat.reduceAdd,An hla0,or_true,hf6,d];done) | (simp +decide only [go_sem,Nat.reduceAdd,Vl.cs,Ty.cs,An hla0,or_true,hf6,d];done)
  replace h:=AX h d
  refine sk [0,4,7] hs aw ?_
  clear aw
  apply Ap;intro K12 Y
  obtain ⟨bb,h⟩:=Av h
  apply Ar 1 [0,4,9]
  rw [Aq];simp +decide only [go_sem,Nat.reduceAdd,An hla0,or_true,hf6,d]
  (repeat' apply Ae)<;>first | refine Y _ _ ?_ | exact cl
  clear Y
  apply Ap;intro K14 aa
  obtain ⟨a5,au,h⟩:=bind_some h
  apply Ar 2 [0,4,9,10]
  rw [Aq];simp +decide only [go_sem,Nat.reduceAdd,An hla0,or_true,hf6,d]
  (repeat' apply Ae)<;>first | refine Az _ (Jv w0 n _ _ _ a0.targets 163 [.box (B.length+1) 0] (fun (x0:List Part)=>Bo n x0 (w.1.drop 1)) (fun x0 r hx B' rows' a3 bg=>by exact J6 w0 n _ _ _ x0 _ (w.1.drop 1) (EV a3 (by simp +decide only [go_sem,Nat.reduceAdd,An hla0,or_true,hf6,d])) _ hx) _ au) (by first | rfl | (simp +decide only [go_sem,Nat.reduceAdd,An hla0,or_true,hf6,d];done) | (simp +decide only [go_sem,Nat.reduceAdd,Vl.cs,Ty.cs,An hla0,or_true,hf6,d];done)) ?_ | exact cl
  rw [Aq];simp +decide only [go_sem,Nat.reduceAdd,An hla0,or_true,hf6,d]
  (repeat' apply Ae)<;>first | refine aa _ _ ?_ | exact cl
  clear aa
  apply Ap;intro K16 G
  apply Ap;intro K17 J
  apply Ar 1 [0,4,9,10,39]
  rw [Aq];simp +decide only [go_sem,Nat.reduceAdd,An hla0,or_true,hf6,d]
  (repeat' apply Ae)<;>first | refine J _ _ ?_ | exact cl
  clear J
  refine AL (decide (a5<0)) ev (by first | (simp +decide only [go_sem,Nat.reduceAdd,An hla0,or_true,hf6,d];done) | (simp +decide only [go_sem,Nat.reduceAdd,An hla0,or_true,hf6,d];rfl)) (fun e=>?_) (fun e=>?_)
  ·replace h:=AW h e
   apply Ap;intro K19 ae
   obtain ⟨be,av,h⟩:=bind_some h
   apply Ar 2 [4,5,6]
   rw [Aq];simp +decide only [go_sem,Nat.reduceAdd,An hla0,or_true,hf6,d,e]
   (repeat' apply Ae)<;>first | refine Az _ (Mc w0 hP n _ _ _ la0 a0 (by simp +decide only [go_sem,Nat.reduceAdd,An hla0,or_true,hf6,d,e]) (w.1.drop 1) _ av) (by first | rfl | (simp +decide only [go_sem,Nat.reduceAdd,An hla0,or_true,hf6,d,e];done) | (simp +decide only [go_sem,Nat.reduceAdd,Vl.cs,Ty.cs,An hla0,or_true,hf6,d,e];done)) ?_ | exact cl
   rw [Aq];simp +decide only [go_sem,Nat.reduceAdd,An hla0,or_true,hf6,d,e]
   (repeat' apply Ae)<;>first | refine ae _ _ ?_ | exact cl
   clear ae
   apply AN;simp +decide only [go_sem,Nat.reduceAdd,An hla0,or_true,hf6,d,e]
   have hgt:=Option.some.inj h;subst hgt
   first | refine Br g rfl q.pre ev ⟨?_,rfl⟩ | refine Ci g rfl q.pre ev ⟨?_,rfl⟩
   first | rfl | (simp +decide only [go_sem,Nat.reduceAdd,An hla0,or_true,hf6,d,e];done) | (simp +decide only [go_sem,Nat.reduceAdd,Vl.cs,Ty.cs,An hla0,or_true,hf6,d,e];done)
  replace h:=AX h e
  refine sk [0,4,9,10] hs G ?_
  clear G
  apply Ap;intro K21 O
  obtain ⟨y,a4,az,c,h⟩:=ix AP h
  obtain ⟨t,a6,a7,b,h⟩:=ix (KO AO) h
  apply Gt OJ [15,16] [0,4,9,11,12] kr (fun s=>∃ (X:As) (rows:Ax),s=⟨B++([[Am 0,Am 0,.val (.string (⟨#[]⟩:ByteArray)),.list ([]) .full,.list ([]) .full],[.list ((w.1.drop 1).map AO) .none]]++X),rows,L⟩) 3 (B.length+2)
  ·simp +decide only [go_sem,Nat.reduceAdd]
  ·rintro s ⟨X,rows,rfl⟩
   refine ⟨1,?_⟩
   rw [Aq];simp +decide only [go_sem,Nat.reduceAdd,Dw,An hla0,or_true,hf6,d,e,c,b]
   (repeat' apply Ae)<;>first | rfl | exact cl
  ·exact gd (tg (a:=(15,16,[0,4,9,11,12]))) (Ae b (Ae c (Ae hf6 (Ae or_true (Ae (An hla0) hs)))))
  simp +decide only [go_sem,Nat.reduceAdd,An hla0,or_true,hf6,d,e,c,b]
  (repeat' apply Ae)<;>first | refine O _ _ ?_ | exact cl
  clear O
  apply Ap;intro K24 Z
  obtain ⟨p,ak,h⟩:=bind_some h
  apply Ar 2 [4,9,11,12,13,14]
  rw [Aq];simp +decide only [go_sem,Nat.reduceAdd,An hla0,or_true,hf6,d,e,c,b]
  (repeat' apply Ae)<;>first | refine Az _ (Ox w0 n _ _ _ a0.mid t _ ak) (by first | rfl | (simp +decide only [go_sem,Nat.reduceAdd,An hla0,or_true,hf6,d,e,c,b];done) | (simp +decide only [go_sem,Nat.reduceAdd,Vl.cs,Ty.cs,An hla0,or_true,hf6,d,e,c,b];done)) ?_ | exact cl
  rw [Aq];simp +decide only [go_sem,Nat.reduceAdd,An hla0,or_true,hf6,d,e,c,b]
  (repeat' apply Ae)<;>first | refine Z _ _ ?_ | exact cl
  clear Z
  apply Ap;intro K26 af
  obtain ⟨ba,h⟩:=Av h
  apply Ar 1 [4,11,13,14,15]
  rw [Aq];simp +decide only [go_sem,Nat.reduceAdd,An hla0,or_true,hf6,d,e,c,b]
  (repeat' apply Ae)<;>first | refine af _ _ ?_ | exact cl
  clear af
  apply Ap;intro K28 u
  apply Au
  apply Ap;intro K29 v
  rcases Bool.eq_false_or_eq_true (p.2) with hf30 | hf30
  ·replace h:=AW h hf30
   obtain ⟨a9,ao,h⟩:=bind_some h
   apply Ar 2 [4,11,13,14,15,74]
   rw [Aq];simp +decide only [go_sem,Nat.reduceAdd,An hla0,or_true,hf6,d,e,c,b,hf30]
   (repeat' apply Ae)<;>first | refine Az _ (KW w0 n _ _ _ p.1.2.2.2.1 _ ao) (by first | rfl | (simp +decide only [go_sem,Nat.reduceAdd,An hla0,or_true,hf6,d,e,c,b,hf30];done) | (simp +decide only [go_sem,Nat.reduceAdd,Vl.cs,Ty.cs,An hla0,or_true,hf6,d,e,c,b,hf30];done)) ?_ | exact cl
   rw [Aq];simp +decide only [go_sem,Nat.reduceAdd,An hla0,or_true,hf6,d,e,c,b,hf30]
   (repeat' apply Ae)<;>first | refine v _ _ ?_ | exact cl
   clear v
   refine AL (a9) ev (by first | (simp +decide only [go_sem,Nat.reduceAdd,An hla0,or_true,hf6,d,e,c,b,hf30];done) | (simp +decide only [go_sem,Nat.reduceAdd,An hla0,or_true,hf6,d,e,c,b,hf30];rfl)) (fun f=>?_) (fun f=>?_)
   ·replace h:=AW h f
    apply Ap;intro K33 E
    apply Ar 1 [4,5,6]
    rw [Aq];simp +decide only [go_sem,Nat.reduceAdd,An hla0,or_true,hf6,d,e,c,b,hf30,f]
    (repeat' apply Ae)<;>first | refine E _ _ ?_ | exact cl
    clear E
    apply AN;simp +decide only [go_sem,Nat.reduceAdd,An hla0,or_true,hf6,d,e,c,b,hf30,f]
    have hgt:=Option.some.inj h;subst hgt
    first | refine Br g rfl q.pre ev ⟨?_,rfl⟩ | refine Ci g rfl q.pre ev ⟨?_,rfl⟩
    first | rfl | (simp +decide only [go_sem,Nat.reduceAdd,An hla0,or_true,hf6,d,e,c,b,hf30,f];done) | (simp +decide only [go_sem,Nat.reduceAdd,Vl.cs,Ty.cs,An hla0,or_true,hf6,d,e,c,b,hf30,f];done)
   replace h:=AX h f
   apply Ap;intro K34 ab
   apply Ar 1 [4,11,13,14,15,82]
   rw [Aq];simp +decide only [go_sem,Nat.reduceAdd,An hla0,or_true,hf6,d,e,c,b,hf30,f]
   (repeat' apply Ae)<;>first | refine ab _ _ ?_ | exact cl
   clear ab
   refine AL ((decide (((((w.1.drop 1).drop t.length).length:Int))=0))&&(decide (p.1.2.2.1=3))) ev (by first | (simp +decide only [go_sem,Nat.reduceAdd,An hla0,or_true,hf6,d,e,c,b,hf30,f];done) | (simp +decide only [go_sem,Nat.reduceAdd,An hla0,or_true,hf6,d,e,c,b,hf30,f];rfl)) (fun i=>?_) (fun i=>?_)
   ·replace h:=AW h i
    apply Ap;intro K36 H
    apply Ar 1 [4,5,6]
    rw [Aq];simp +decide only [go_sem,Nat.reduceAdd,An hla0,or_true,hf6,d,e,c,b,hf30,f,i]
    (repeat' apply Ae)<;>first | refine H _ _ ?_ | exact cl
    clear H
    apply AN;simp +decide only [go_sem,Nat.reduceAdd,An hla0,or_true,hf6,d,e,c,b,hf30,f,i]
    have hgt:=Option.some.inj h;subst hgt
    first | refine Br g rfl q.pre ev ⟨?_,rfl⟩ | refine Ci g rfl q.pre ev ⟨?_,rfl⟩
    first | rfl | (simp +decide only [go_sem,Nat.reduceAdd,An hla0,or_true,hf6,d,e,c,b,hf30,f,i];done) | (simp +decide only [go_sem,Nat.reduceAdd,Vl.cs,Ty.cs,An hla0,or_true,hf6,d,e,c,b,hf30,f,i];done)
   replace h:=AX h i
   apply Ap;intro K37 N
   apply Ar 1 [4,11,13,14,15,100]
   rw [Aq];simp +decide only [go_sem,Nat.reduceAdd,An hla0,or_true,hf6,d,e,c,b,hf30,f,i]
   (repeat' apply Ae)<;>first | refine N _ _ ?_ | exact cl
   clear N
   refine AL (decide (((((w.1.drop 1).drop t.length).length:Int))=0)) ev (by first | (simp +decide only [go_sem,Nat.reduceAdd,An hla0,or_true,hf6,d,e,c,b,hf30,f,i];done) | (simp +decide only [go_sem,Nat.reduceAdd,An hla0,or_true,hf6,d,e,c,b,hf30,f,i];rfl)) (fun k=>?_) (fun k=>?_)
   ·replace h:=AW h k
    apply Ap;intro K39 V
    apply Gt OJ [4] [4,5,6] kr (fun s=>∃ (X:As) (rows:Ax) (c0:List AV),s=⟨B++([c0,[.list ((w.1.drop 1).map AO) .none],y.2.cs,Am p.1.1::(.val (.string p.1.2.1)::(Am p.1.2.2.1::((p.1.2.2.2.1.cs)++([.list (p.1.2.2.2.2.map BZ) .none]))))]++X),rows,L⟩) 2 (B.length+4)
    ·simp +decide only [go_sem,Nat.reduceAdd]
    ·rintro s ⟨X,rows,c0,rfl⟩
     refine ⟨1,?_⟩
     rw [Aq];simp +decide only [go_sem,Nat.reduceAdd,Dw,An hla0,or_true,hf6,d,e,c,b,hf30,f,i,k]
     (repeat' apply Ae)<;>first | rfl | exact cl
    ·exact gd (tg (a:=(4,[4,5,6]))) (Ae hf30 (Ae b (Ae c (Ae hf6 (Ae or_true (Ae (An hla0) hs))))))
    simp +decide only [go_sem,Nat.reduceAdd,An hla0,or_true,hf6,d,e,c,b,hf30,f,i,k]
    (repeat' apply Ae)<;>first | refine V _ _ ?_ | exact cl
    clear V
    apply AN;simp +decide only [go_sem,Nat.reduceAdd,An hla0,or_true,hf6,d,e,c,b,hf30,f,i,k]
    have hgt:=Option.some.inj h;subst hgt
    first | refine Br g rfl q.pre ev ⟨?_,rfl⟩ | refine Ci g rfl q.pre ev ⟨?_,rfl⟩
    first | rfl | (simp +decide only [go_sem,Nat.reduceAdd,An hla0,or_true,hf6,d,e,c,b,hf30,f,i,k];done) | (simp +decide only [go_sem,Nat.reduceAdd,Vl.cs,Ty.cs,An hla0,or_true,hf6,d,e,c,b,hf30,f,i,k];done)
   replace h:=AX h k
   apply Ap;intro K40 C
   apply Ar 1 [4,11,15,108]
   rw [Aq];simp +decide only [go_sem,Nat.reduceAdd,An hla0,or_true,hf6,d,e,c,b,hf30,f,i,k]
   (repeat' apply Ae)<;>first | refine C _ _ ?_ | exact cl
   clear C
   refine AL ((!(decide (y.2.op=2)))||(decide (p.1.2.2.1=3))) ev (by first | (simp +decide only [go_sem,Nat.reduceAdd,An hla0,or_true,hf6,d,e,c,b,hf30,f,i,k];done) | (simp +decide only [go_sem,Nat.reduceAdd,An hla0,or_true,hf6,d,e,c,b,hf30,f,i,k];rfl)) (fun o=>?_) (fun o=>?_)
   ·replace h:=AW h o
    apply Ap;intro K42 ah
    apply Ar 1 [4,5,6]
    rw [Aq];simp +decide only [go_sem,Nat.reduceAdd,An hla0,or_true,hf6,d,e,c,b,hf30,f,i,k,o]
    (repeat' apply Ae)<;>first | refine ah _ _ ?_ | exact cl
    clear ah
    apply AN;simp +decide only [go_sem,Nat.reduceAdd,An hla0,or_true,hf6,d,e,c,b,hf30,f,i,k,o]
    have hgt:=Option.some.inj h;subst hgt
    first | refine Br g rfl q.pre ev ⟨?_,rfl⟩ | refine Ci g rfl q.pre ev ⟨?_,rfl⟩
    first | rfl | (simp +decide only [go_sem,Nat.reduceAdd,An hla0,or_true,hf6,d,e,c,b,hf30,f,i,k,o];done) | (simp +decide only [go_sem,Nat.reduceAdd,Vl.cs,Ty.cs,An hla0,or_true,hf6,d,e,c,b,hf30,f,i,k,o];done)
   replace h:=AX h o
   refine sk [4,11,15] hs u ?_
   clear u
   apply Ap;intro K43 ag
   obtain ⟨bd,aq,h⟩:=bind_some h
   apply Ar 2 [4,5,6]
   rw [Aq];simp +decide only [go_sem,Nat.reduceAdd,An hla0,or_true,hf6,d,e,c,b,hf30,f,i,k,o]
   (repeat' apply Ae)<;>first | refine Az _ (Pi w0 hP n _ _ _ y.2.text ((w.1.drop 1).drop t.length) _ aq) (by first | rfl | (simp +decide only [go_sem,Nat.reduceAdd,An hla0,or_true,hf6,d,e,c,b,hf30,f,i,k,o];done) | (simp +decide only [go_sem,Nat.reduceAdd,Vl.cs,Ty.cs,An hla0,or_true,hf6,d,e,c,b,hf30,f,i,k,o];done)) ?_ | exact cl
   rw [Aq];simp +decide only [go_sem,Nat.reduceAdd,An hla0,or_true,hf6,d,e,c,b,hf30,f,i,k,o]
   (repeat' apply Ae)<;>first | refine ag _ _ ?_ | exact cl
   clear ag
   apply AN;simp +decide only [go_sem,Nat.reduceAdd,An hla0,or_true,hf6,d,e,c,b,hf30,f,i,k,o]
   have hgt:=Option.some.inj h;subst hgt
   first | refine Br g rfl q.pre ev ⟨?_,rfl⟩ | refine Ci g rfl q.pre ev ⟨?_,rfl⟩
   first | rfl | (simp +decide only [go_sem,Nat.reduceAdd,An hla0,or_true,hf6,d,e,c,b,hf30,f,i,k,o];done) | (simp +decide only [go_sem,Nat.reduceAdd,Vl.cs,Ty.cs,An hla0,or_true,hf6,d,e,c,b,hf30,f,i,k,o];done)
  ·replace h:=AX h hf30
   apply Ar 2 [4,11,13,14,15,74]
   rw [Aq];simp +decide only [go_sem,Nat.reduceAdd,An hla0,or_true,hf6,d,e,c,b,hf30]
   (repeat' apply Ae)<;>first | refine Dq ?_ | exact cl
   rw [Aq];simp +decide only [go_sem,Nat.reduceAdd,An hla0,or_true,hf6,d,e,c,b,hf30]
   (repeat' apply Ae)<;>first | refine v _ _ ?_ | exact cl
   clear v
   refine AL false ev (by simp +decide only [go_sem,Nat.reduceAdd,An hla0,or_true,hf6,d,e,c,b,hf30]) (fun hb45=>by cases hb45) (fun hb45=>?_)
   apply Ap;intro K46 D
   apply Ar 1 [4,11,13,14,15,82]
   rw [Aq];simp +decide only [go_sem,Nat.reduceAdd,An hla0,or_true,hf6,d,e,c,b,hf30]
   (repeat' apply Ae)<;>first | refine D _ _ ?_ | exact cl
   clear D
   refine AL (((decide (((((w.1.drop 1).drop t.length).length:Int))=0))&&p.2)&&(decide (p.1.2.2.1=3))) ev (by first | (simp +decide only [go_sem,Nat.reduceAdd,An hla0,or_true,hf6,d,e,c,b,hf30];done) | (simp +decide only [go_sem,Nat.reduceAdd,An hla0,or_true,hf6,d,e,c,b,hf30];rfl)) (fun j=>?_) (fun j=>?_)
   ·replace h:=AW h j
    apply Ap;intro K48 Q
    apply Ar 1 [4,5,6]
    rw [Aq];simp +decide only [go_sem,Nat.reduceAdd,An hla0,or_true,hf6,d,e,c,b,hf30,j]
    (repeat' apply Ae)<;>first | refine Q _ _ ?_ | exact cl
    clear Q
    apply AN;simp +decide only [go_sem,Nat.reduceAdd,An hla0,or_true,hf6,d,e,c,b,hf30,j]
    have hgt:=Option.some.inj h;subst hgt
    first | refine Br g rfl q.pre ev ⟨?_,rfl⟩ | refine Ci g rfl q.pre ev ⟨?_,rfl⟩
    first | rfl | (simp +decide only [go_sem,Nat.reduceAdd,An hla0,or_true,hf6,d,e,c,b,hf30,j];done) | (simp +decide only [go_sem,Nat.reduceAdd,Vl.cs,Ty.cs,An hla0,or_true,hf6,d,e,c,b,hf30,j];done)
   replace h:=AX h j
   apply Ap;intro K49 U
   apply Ar 1 [4,11,13,14,15,100]
   rw [Aq];simp +decide only [go_sem,Nat.reduceAdd,An hla0,or_true,hf6,d,e,c,b,hf30,j]
   (repeat' apply Ae)<;>first | refine U _ _ ?_ | exact cl
   clear U
   refine AL (decide (((((w.1.drop 1).drop t.length).length:Int))=0)) ev (by first | (simp +decide only [go_sem,Nat.reduceAdd,An hla0,or_true,hf6,d,e,c,b,hf30,j];done) | (simp +decide only [go_sem,Nat.reduceAdd,An hla0,or_true,hf6,d,e,c,b,hf30,j];rfl)) (fun l=>?_) (fun l=>?_)
   ·replace h:=AW h l
    apply Ap;intro K51 ai
    apply Gt OJ [4] [4,5,6] kr (fun s=>∃ (X:As) (rows:Ax) (c0:List AV),s=⟨B++([c0,[.list ((w.1.drop 1).map AO) .none],y.2.cs,Am p.1.1::(.val (.string p.1.2.1)::(Am p.1.2.2.1::((p.1.2.2.2.1.cs)++([.list (p.1.2.2.2.2.map BZ) .none]))))]++X),rows,L⟩) 2 (B.length+4)
    ·simp +decide only [go_sem,Nat.reduceAdd]
    ·rintro s ⟨X,rows,c0,rfl⟩
     refine ⟨1,?_⟩
     rw [Aq];simp +decide only [go_sem,Nat.reduceAdd,Dw,An hla0,or_true,hf6,d,e,c,b,hf30,j,l]
     (repeat' apply Ae)<;>first | rfl | exact cl
    ·exact gd (tg (a:=(4,[4,5,6]))) (Ae hf30 (Ae b (Ae c (Ae hf6 (Ae or_true (Ae (An hla0) hs))))))
    simp +decide only [go_sem,Nat.reduceAdd,An hla0,or_true,hf6,d,e,c,b,hf30,j,l]
    (repeat' apply Ae)<;>first | refine ai _ _ ?_ | exact cl
    clear ai
    apply AN;simp +decide only [go_sem,Nat.reduceAdd,An hla0,or_true,hf6,d,e,c,b,hf30,j,l]
    have hgt:=Option.some.inj h;subst hgt
    first | refine Br g rfl q.pre ev ⟨?_,rfl⟩ | refine Ci g rfl q.pre ev ⟨?_,rfl⟩
    first | rfl | (simp +decide only [go_sem,Nat.reduceAdd,An hla0,or_true,hf6,d,e,c,b,hf30,j,l];done) | (simp +decide only [go_sem,Nat.reduceAdd,Vl.cs,Ty.cs,An hla0,or_true,hf6,d,e,c,b,hf30,j,l];done)
   replace h:=AX h l
   apply Ap;intro K52 K
   apply Ar 1 [4,11,15,108]
   rw [Aq];simp +decide only [go_sem,Nat.reduceAdd,An hla0,or_true,hf6,d,e,c,b,hf30,j,l]
   (repeat' apply Ae)<;>first | refine K _ _ ?_ | exact cl
   clear K
   refine AL (!(decide (y.2.op=2))) ev (by first | (simp +decide only [go_sem,Nat.reduceAdd,An hla0,or_true,hf6,d,e,c,b,hf30,j,l];done) | (simp +decide only [go_sem,Nat.reduceAdd,An hla0,or_true,hf6,d,e,c,b,hf30,j,l];rfl)) (fun m=>?_) (fun m=>?_)
   ·replace h:=AW h m
    apply Ap;intro K54 aj
    apply Ar 1 [4,5,6]
    rw [Aq];simp +decide only [go_sem,Nat.reduceAdd,An hla0,or_true,hf6,d,e,c,b,hf30,j,l,m]
    (repeat' apply Ae)<;>first | refine aj _ _ ?_ | exact cl
    clear aj
    apply AN;simp +decide only [go_sem,Nat.reduceAdd,An hla0,or_true,hf6,d,e,c,b,hf30,j,l,m]
    have hgt:=Option.some.inj h;subst hgt
    first | refine Br g rfl q.pre ev ⟨?_,rfl⟩ | refine Ci g rfl q.pre ev ⟨?_,rfl⟩
    first | rfl | (simp +decide only [go_sem,Nat.reduceAdd,An hla0,or_true,hf6,d,e,c,b,hf30,j,l,m];done) | (simp +decide only [go_sem,Nat.reduceAdd,Vl.cs,Ty.cs,An hla0,or_true,hf6,d,e,c,b,hf30,j,l,m];done)
   replace h:=AX h m
   refine sk [4,11,15] hs u ?_
   clear u
   apply Ap;intro K55 F
   obtain ⟨bf,ap,h⟩:=bind_some h
   apply Ar 2 [4,5,6]
   rw [Aq];simp +decide only [go_sem,Nat.reduceAdd,An hla0,or_true,hf6,d,e,c,b,hf30,j,l,m]
   (repeat' apply Ae)<;>first | refine Az _ (Pi w0 hP n _ _ _ y.2.text ((w.1.drop 1).drop t.length) _ ap) (by first | rfl | (simp +decide only [go_sem,Nat.reduceAdd,An hla0,or_true,hf6,d,e,c,b,hf30,j,l,m];done) | (simp +decide only [go_sem,Nat.reduceAdd,Vl.cs,Ty.cs,An hla0,or_true,hf6,d,e,c,b,hf30,j,l,m];done)) ?_ | exact cl
   rw [Aq];simp +decide only [go_sem,Nat.reduceAdd,An hla0,or_true,hf6,d,e,c,b,hf30,j,l,m]
   (repeat' apply Ae)<;>first | refine F _ _ ?_ | exact cl
   clear F
   apply AN;simp +decide only [go_sem,Nat.reduceAdd,An hla0,or_true,hf6,d,e,c,b,hf30,j,l,m]
   have hgt:=Option.some.inj h;subst hgt
   first | refine Br g rfl q.pre ev ⟨?_,rfl⟩ | refine Ci g rfl q.pre ev ⟨?_,rfl⟩
   first | rfl | (simp +decide only [go_sem,Nat.reduceAdd,An hla0,or_true,hf6,d,e,c,b,hf30,j,l,m];done) | (simp +decide only [go_sem,Nat.reduceAdd,Vl.cs,Ty.cs,An hla0,or_true,hf6,d,e,c,b,hf30,j,l,m];done)
def Fo (n:Nat)  (b0_k5:Ex) (pla2_k5:Bool):Option (Ex × Bool) :=
 some ((b0_k5,pla2_k5))
def EK (n:Nat) (b:Ex) (q:Cps) (h:Bool):Option (Ex × Bool) :=
 (B5 n q b.text).bind fun g =>
 if !g.2.2 then
  Fo n b false
 else
  if decide (b.op=2) then
   some ((g.1,h))
  else
   if decide (g.1.op=2) then
    Fo n (Ex.mk b.op b.int g.1.text b.value b.args) h
   else
    if (decide (b.op=22))&&g.2.1 then
     some ((Ex.mk 1 0 (⟨#[]⟩:ByteArray) ([Vl.mk 1 1 0 (⟨#[]⟩:ByteArray) ([]) ([])]) ([]),h))
    else
     Fo n b false
theorem RO (w0:World) (hB:Rj w0) (hE:Jl w0) (hM:Jh w0) (hP:Pow10 w0) (n:Nat) (B:As) (Rw:Ax) (L:Aw) (a0:Ex) (la1 la1p:Nat) (a1:Cps) (hla1:B[la1]? = some [.box la1p 0]) (hla1p:B[la1p]? = some (.list (a1.rules.map AP) .none::(.list (a1.targets.map (KO AO)) .none::(a1.mid.cs)))) (la2:Nat) (a2:Bool) (hla2:B[la2]? = some ([.val (.bool a2)])) (r:Ex × Bool) (h:EK n a0 a1 a2=some r) :
  ACalls Tryz.prog w0 75 [.agg (a0.cs),.box la1 0,.box la2 0] ⟨B,Rw,L⟩ fun x st=>x = .agg (r.1.cs)∧st=⟨(B.set la2 [.val (.bool r.2)]),Rw,L⟩:=by
 rw [EK] at h
 refine hd [.cell 4 65] Tryz.func75 Tryz.ntmps75 fun M0 W0 u m j c v g hs=>?_
 simp only [AB]
 have o:=(Ak.1 hla1).1
 have l:=(Ak.1 hla1p).1
 have p:=(Ak.1 hla2).1
 have hs:=Ae (An hla1) hs
 have hs:=Ae (An hla1p) hs
 have hs:=Ae (An hla2) hs
 refine rg [1,2,3,4] hs ?_
 obtain ⟨q,t,h⟩:=bind_some h
 refine rc 2 [2,3,4,5,6,7] hs ?_;intro K2 k
 refine Az _ (Lc w0 hB hE hM hP n _ _ _ la1p a1 (ef hs) a0.text _ t) (hv hs) ?_
 refine ne hs k ?_
 clear k
 refine AA (fun e st=>∃ (f:Ex) (b:Bool) (d:List AV) (Xk5:As) (Rk5:Ax),e=[(3,true,.box B.length 0),(4,true,.box (B.length+1) 0)]∧st=⟨(B.set la2 ([.val (.bool b)]))++([d,[Am 0,Am 0,.val (.string (⟨#[]⟩:ByteArray)),.list ([]) .full,.list ([]) .full],q.1.cs]++Xk5),Rk5,L⟩∧Owns Rw Rk5 []∧d.map AV.pubCell=f.cs∧Fo n f b=some r) ?_ ?_
 ·intro K6 i
  apply Au
  refine rg [2,3,4,5,6,16] hs ?_
  refine Cj h hs ?_ ?_<;>intro hs h
  ·refine rl [3,4] hs i ?_
   exact ⟨a0,false,_,([]),Rw,ef hs,ef hs,g,ef hs,h⟩
  refine rg [2,3,4,5,6,19] hs ?_
  refine Cj h hs ?_ ?_<;>intro hs h
  ·refine rg [4] hs ?_
   exact rt h hs c g
  refine rg [2,3,4,5,6,24] hs ?_
  refine Cj h hs ?_ ?_<;>intro hs h
  ·have hs:=Ae (Ex.cs_eqs a0) hs
   refine rl [3,4] hs i ?_
   exact ⟨(Ex.mk a0.op a0.int q.1.text a0.value a0.args),a2,([Am a0.op,Am a0.int,.val (.string q.1.text),.list (a0.value.map BZ) .none,.list (a0.args.map NE) .none]),([]),Rw,ef (cm hs),ef (cm hs),g,ef (cm hs),h⟩
  refine rg [2,3,4,31] hs ?_
  refine Cj h hs ?_ ?_<;>intro hs h
  ·refine rg [4] hs ?_
   exact rt h hs c g
  refine rl [3,4] hs i ?_
  exact ⟨a0,false,_,([]),Rw,ef hs,ef hs,g,ef hs,h⟩
 ·clear h;rintro e st ⟨f,b,d,Xk5,Rk5,rfl,rfl,g,s,h⟩
  rw [Fo] at h
  refine Ba B.length (by first | rfl | (simp only [CG,BK,BJ,Bl];rfl)) s ?_;simp +decide only [go_sem,Nat.reduceAdd]
  show Em _ _ _ _ _ _ _ _ [(3,true,.box B.length 0),(4,true,.box (B.length+1) 0)] ⟨(B.set la2 ([.val (.bool b)]))++([f.cs,[Am 0,Am 0,.val (.string (⟨#[]⟩:ByteArray)),.list ([]) .full,.list ([]) .full],q.1.cs]++Xk5),Rk5,L⟩
  refine A4 u m j N9 (A1 c ev) g ow ow ?_
  exact go (tg (a:=([4],()))) h hs u m j c g trivial trivial
def JF (rec:Ex→Cps→Bool→Option (Ex × Bool)) (n:Nat) (g:Ex) (b:List Ex) (plc1_k16:Bool):Option (Ex × Bool) :=
 some ((Ex.mk g.op g.int g.text g.value b,plc1_k16))
def C4 (rec:Ex→Cps→Bool→Option (Ex × Bool)) (n:Nat) (q:Ex) (c1_0:Cps):Nat→(List Ex)→Int→Bool→Option (Ex × Bool)
 | 0,_,_,_=>none
 | m+1,g,b,plc1_l19 =>
  if decide (b<(q.args.length:Int)) then
   (B6 q.args b).bind fun y =>
   (rec y c1_0 plc1_l19).bind fun h =>
   if (g.length+1)*80≤140737488355328∧g.length+1≤4611686018427387904 then
    if Bj (b+1) then
     (C4 rec n q c1_0 m) (g++([h.1])) (b+1) h.2
    else none
   else none
  else
   JF rec n q g plc1_l19
def Dx (rec:Ex→Cps→Bool→Option (Ex × Bool)) (n:Nat) (h:Ex) (c1_0:Cps) (c1_1:Bool) (b:Bool):Option (Ex × Bool) :=
 if b then
  (EK n h c1_0 c1_1).bind fun g =>
  some ((g.1,g.2))
 else
  C4 rec n h c1_0 n ([]) 0 c1_1
def I7 (rec:Ex→Cps→Bool→Option (Ex × Bool)) (n:Nat) (b:Ex) (c1_0:Cps) (c1_1:Bool):Option (Ex × Bool) :=
 if decide (b.op=2) then
  Dx rec n b c1_0 c1_1 true
 else
  if decide (b.op=22) then
   Dx rec n b c1_0 c1_1 true
  else
   Dx rec n b c1_0 c1_1 (decide (b.op=26))
def Du:Nat→Ex→Cps→Bool→Option (Ex × Bool)
 | 0,_,_,_=>none
 | n+1,b,c1_0,c1_1=>I7 (Du n) n b c1_0 c1_1
def LS (w0:World) (F:Ex→Cps→Bool→Option (Ex × Bool)):Prop:=∀ (B:As) (Rw:Ax) (L:Aw) (b:Ex) (lc0 lc0p:Nat) (c1_0:Cps) (hlc0:B[lc0]? = some [.box lc0p 0]) (hlc0p:B[lc0p]? = some (.list (c1_0.rules.map AP) .none::(.list (c1_0.targets.map (KO AO)) .none::(c1_0.mid.cs)))) (lc1:Nat) (c1_1:Bool) (hlc1:B[lc1]? = some ([.val (.bool c1_1)])) (hne_lc1_lc0:lc1≠lc0) (hne_lc1_lc0p:lc1≠lc0p) (r:Ex × Bool),F b c1_0 c1_1=some r→ACalls Tryz.prog w0 77 [.agg (b.cs),.clo 75 [.box lc0 0,.box lc1 0]] ⟨B,Rw,L⟩ fun x st=>x = .agg (r.1.cs)∧st=⟨(B.set lc1 [.val (.bool r.2)]),Rw,L⟩
theorem Ru (w0:World) (hB:Rj w0) (hE:Jl w0) (hM:Jh w0) (hP:Pow10 w0) (rec:Ex→Cps→Bool→Option (Ex × Bool)) (ih:LS w0 rec) (n:Nat):LS w0 (I7 rec n):=by
 intro B Rw L a0 J O F g d G H k c b r h
 rw [I7] at h
 refine hd [.cell 4 65] Tryz.func77 Tryz.ntmps77 fun M0 W0 U D E i hu C hs=>?_
 simp only [AB]
 have ah:=(Ak.1 g).1
 have ad:=(Ak.1 d).1
 have aj:=(Ak.1 k).1
 have hs:=Ae (An g) hs
 have hs:=Ae (An d) hs
 have hs:=Ae (An k) hs
 have hs:=Ae (BC g c) hs
 have hs:=Ae (BC d b) hs
 refine rg [1,2,4] hs ?_
 apply Ap;intro K2 af
 refine rg [1,2,4,9] hs ?_
 apply Au
 refine AA (fun e st=>∃ (x:Bool),Ck e st B Rw L [(1,true,.clo 75 [.box J 0,.box G 0]),(2,true,.box B.length 0),(4,true,.box (B.length+1) 0),(10,true,.val (.bool x))] [a0.cs,[Am 0,Am 0,.val (.string (⟨#[]⟩:ByteArray)),.list ([]) .full,.list ([]) .full]] [] (Dx rec n a0 F H x=some r)) ?_ ?_
 ·intro K6 ak
  exact go (tg (a:=([1,2,4,9,10],([1,2,4,10],()),[1,2,4,9,10],([1,2,4,10],()),[1,2,4,10],()))) h hs U D E i C trivial (q1 ak)
 ·clear h;rintro e st ⟨x,Xk5,Rk5,rfl,rfl,C,h⟩
  rw [Dx] at h
  refine td U D E i C ?_
  refine Cj h hs ?_ ?_<;>intro hs h
  ·have w:=hs.1
   obtain ⟨au,ae,h⟩:=bind_some h
   refine rc 2 [4] hs ?_;intro K12 aa
   refine Ey _ (RO w0 hB hE hM hP n _ _ _ a0 J O F (ef hs) (ef hs) G H (ef hs) _ ae) (hv hs) ?_;rintro _ _ ⟨rfl,rfl⟩
   exact go (tg (a:=((),()))) h hs U D E i C trivial (q1 aa)
  have w:=hs.1
  refine sk [1,2,4] hs af ?_
  clear af
  refine rg [1,2,4,5] hs ?_
  refine AA (fun e st=>∃ (q:List Ex) (p:Bool) (v:Ev.Own) (Xk16:As) (Rk16:Ax),e=[(2,true,.box B.length 0),(4,true,.box (B.length+1) 0),(5,true,.list (q.map NE) v)]∧st=⟨(B.set G ([.val (.bool p)]))++([a0.cs,[Am 0,Am 0,.val (.string (⟨#[]⟩:ByteArray)),.list ([]) .full,.list ([]) .full]]++Xk16),Rk16,L⟩∧Owns Rw Rk16 [(5,q.length,v)]∧JF rec n a0 q p=some r) ?_ ?_
  ·intro K17 Y
   refine rg [1,2,4,5,18,19,20] hs ?_
   apply Au
   refine AC (fun m e st=>∃ (l:List Ex) (u:Int) (j:Bool) (t:Ev.Own) (Xl19:As) (Rl19:Ax),e=[(1,true,.clo 75 [.box J 0,.box G 0]),(2,true,.box B.length 0),(4,true,.box (B.length+1) 0),(5,true,.list (l.map NE) t),(18,true,.list (a0.args.map NE) .none),(19,true,Am (a0.args.length:Int)),(20,true,Am u)]∧st=⟨(B.set G ([.val (.bool j)]))++([a0.cs,[Am 0,Am 0,.val (.string (⟨#[]⟩:ByteArray)),.list ([]) .full,.list ([]) .full]]++Xl19),Rl19,L⟩∧Owns Rw Rl19 [(5,l.length,t)]∧C4 rec n a0 F m l u j=some r) n ⟨([]),0,H,.full,([]),Rk5,ef hs,ef hs,Owns.of_eq ((C).full 5 0) E0,h⟩ ?_
   rintro ml19 e st ⟨l,u,j,t,Xl19,Rl19,rfl,rfl,C,h⟩ Ul19 Vl19
   cases ml19 with
   | zero=>cases h
   | succ ml19 =>
   rw [C4] at h
   have hU:=C.unders
   simp only [List.mem_cons,List.not_mem_nil,or_false,forall_eq_or_imp,forall_eq] at hU
   refine A4 U D E N9 (A1 i ev) C ow ow ?_
   refine rg [1,2,4,5,18,19,20,21] hs ?_
   apply Ap;intro K21 N
   refine Cj h hs ?_ ?_<;>intro hs h
   rotate_left
   ·exact go (tg (a:=([2,4,5],()))) h hs U D E i C trivial (q1 Y)
   refine sk [1,2,4,5,18,19,20] hs N ?_
   clear N
   apply Ap;intro K23 ab
   apply Au
   obtain ⟨ap,Z,h⟩:=bind_some h
   obtain ⟨am,ao,V⟩:=Bt Z
   have Q:=Bv (f:=NE) V
   have hs:=Ae Q hs
   refine rg [1,2,4,5,7,18,19,20] hs ?_
   obtain ⟨aq,ag,h⟩:=bind_some h
   obtain ⟨K,h⟩:=Av h
   obtain ⟨ar,ai,C,o⟩:=C.append (P:=Tryz.prog) XM (by rw [RE];rfl) (by decide) 1 K.1 K.2
   replace o:=fun (ys:List AV) B L o2=>o (l.map NE) ys B L o2 E0
   replace o:=fun (y:AV) B L o2=>o [y] B L o2 E0 ev
   try simp only [List.mem_singleton,List.mem_cons,List.not_mem_nil,or_false,forall_eq_or_imp,forall_eq,List.map_append,List.map_cons,List.map_nil,Ge,Gi,F3,ES,EY,F7,Dn,D5,F2,CN,CM,Ej,D7,Ef,F4,Ee,FZ] at o
   have hs:=Ae o hs
   refine rk 2 [1,2,4,5,18,19,20] hs ?_
   refine Ey _ (ih _ _ _ ap J O F (ef hs) (ef hs) G j (ef hs) nq nq _ ag) (hv hs) ?_;rintro _ _ ⟨rfl,rfl⟩
   exact go (tg (a:=([1,2,4,5,18,19,20],()))) h hs U D E i C trivial (q2 ab (fun e s=>Vl19 ml19 e s (Nat.lt_succ_self _)))
  ·clear h;rintro e st ⟨q,p,v,Xk16,Rk16,rfl,rfl,C,h⟩
   rw [JF] at h
   have hU:=C.unders
   simp only [List.mem_cons,List.not_mem_nil,or_false,forall_eq_or_imp,forall_eq] at hU
   refine A4 U D E N9 (A1 i ev) C ow ow ?_
   have hs:=Ae (Ex.cs_eqs a0) hs
   refine rg [2,4] hs ?_
   refine rg [4] hs ?_
   apply AN;simp +decide only [go_sem,Nat.reduceAdd,An g,An d,An k,BC g c,BC d b,w,Ex.cs_eqs a0]
   have hgt:=Option.some.inj h;subst hgt
   first | refine Br (A1 i ev) N9 C.pre ev ⟨?_,(by first | rfl | exact congrArg (fun z=>St.mk z Rw L) (Ao g).symm | exact congrArg (fun z=>St.mk z Rw L) (Ao d).symm | exact congrArg (fun z=>St.mk z Rw L) (Ao k).symm | (simp +decide only [go_sem,Nat.reduceAdd,An g,An d,An k,BC g c,BC d b,w,Ex.cs_eqs a0];done))⟩ | refine Ci (A1 i ev) N9 C.pre ev ⟨?_,(by first | rfl | exact congrArg (fun z=>St.mk z Rw L) (Ao g).symm | exact congrArg (fun z=>St.mk z Rw L) (Ao d).symm | exact congrArg (fun z=>St.mk z Rw L) (Ao k).symm | (simp +decide only [go_sem,Nat.reduceAdd,An g,An d,An k,BC g c,BC d b,w,Ex.cs_eqs a0];done))⟩
   first | rfl | (simp +decide only [go_sem,Nat.reduceAdd,An g,An d,An k,BC g c,BC d b,w,Ex.cs_eqs a0];done) | (simp +decide only [go_sem,Nat.reduceAdd,Vl.cs,Ty.cs,An g,An d,An k,BC g c,BC d b,w,Ex.cs_eqs a0];done)
theorem KA (w0:World) (hB:Rj w0) (hE:Jl w0) (hM:Jh w0) (hP:Pow10 w0):∀ n:Nat,LS w0 (Du n)
 | 0=>fun _ _ _ _ _ _ _ _ _ _ _ _ _ _ _ h=>(nomatch h)
 | n+1=>Ru w0 hB hE hM hP (Du n) (KA w0 hB hE hM hP n) n
def Jb (rec:Ex→Option Ex) (n:Nat) (b:Ex) (b2_k21_3:List Vl) (b2_k21_4:List Ex):Option Ex :=
 some (Ex.mk b.op b.int b.text b2_k21_3 b2_k21_4)
def EO (rec:Ex→Option Ex) (n:Nat) (g:Ex):Nat→Int→(List Vl)→(List Ex)→Option Ex
 | 0,_,_,_=>none
 | m+1,b,b2_l24_3,b2_l24_4 =>
  if decide (b<(g.args.length:Int)) then
   (B6 g.args b).bind fun q =>
   (rec q).bind fun h =>
   if (b2_l24_4.length+1)*80≤140737488355328∧b2_l24_4.length+1≤4611686018427387904 then
    if Bj (b+1) then
     (EO rec n g m) (b+1) b2_l24_3 (b2_l24_4++([h]))
    else none
   else none
  else
   Jb rec n g b2_l24_3 b2_l24_4
def JV (rec:Ex→Option Ex) (n:Nat) (b:Ex) (b2_k4_3:List Vl):Option Ex :=
 EO rec n b n 0 b2_k4_3 ([])
def FA (rec:Ex→Option Ex) (n:Nat) (g:Ex):Nat→Int→(List Vl)→Option Ex
 | 0,_,_=>none
 | m+1,b,b2_l7_3 =>
  if decide (b<(g.value.length:Int)) then
   (B6 g.value b).bind fun h =>
   (D4 n h).bind fun q =>
   if (b2_l7_3.length+1)*88≤140737488355328∧b2_l7_3.length+1≤4611686018427387904 then
    if Bj (b+1) then
     (FA rec n g m) (b+1) (b2_l7_3++([q]))
    else none
   else none
  else
   JV rec n g b2_l7_3
def Lj (rec:Ex→Option Ex) (n:Nat) (b:Ex):Option Ex :=
 FA rec n b n 0 ([])
def GI:Nat→Ex→Option Ex
 | 0,_=>none
 | n+1,b=>Lj (GI n) n b
def NF (w0:World) (F:Ex→Option Ex):Prop:=∀ (B:As) (Rw:Ax) (L:Aw) (b:Ex) (r:Ex),F b=some r→ACalls Tryz.prog w0 168 [.agg (b.cs)] ⟨B,Rw,L⟩ fun x st=>x = .agg (r.cs)∧st=⟨B,Rw,L⟩
theorem T0 (w0:World) (rec:Ex→Option Ex) (ih:NF w0 rec) (n:Nat):NF w0 (Lj rec n):=by
 intro B Rw L a0 r h
 rw [Lj] at h
 refine hd [.cell 2 65] Tryz.func168 Tryz.ntmps168 fun M0 W0 z x y t J w hs=>?_
 simp only [AB]
 refine rg [1,2] hs ?_
 refine rg [1,2,3] hs ?_
 refine AA (fun e st=>∃ (g:List Vl) (i:Ev.Own),Ck e st B Rw L [(1,true,.box B.length 0),(2,true,.box (B.length+1) 0),(3,true,.box (B.length+2) 0)] [a0.cs,[Am 0,Am 0,.val (.string (⟨#[]⟩:ByteArray)),.list ([]) .full,.list ([]) .full],[Am a0.op,Am a0.int,.val (.string a0.text),.list (g.map BZ) i,.list ([]) .full]] [(6,g.length,i)] (JV rec n a0 g=some r)) ?_ ?_
 ·intro K5 F
  refine rg [1,2,3,16,17,18] hs ?_
  apply Au
  refine AC (fun m e st=>∃ (v:Int) (p:List Vl) (q:Ev.Own),Ck e st B Rw L [(1,true,.box B.length 0),(2,true,.box (B.length+1) 0),(3,true,.box (B.length+2) 0),(16,true,.list (a0.value.map BZ) .none),(17,true,Am (a0.value.length:Int)),(18,true,Am v)] [a0.cs,[Am 0,Am 0,.val (.string (⟨#[]⟩:ByteArray)),.list ([]) .full,.list ([]) .full],[Am a0.op,Am a0.int,.val (.string a0.text),.list (p.map BZ) q,.list ([]) .full]] [(6,p.length,q)] (FA rec n a0 m v p=some r)) n ⟨0,([]),.full,([]),Rw,ef hs,ef hs,Owns.of_eq ((w).full 6 0) E0,h⟩ ?_
  rintro ml7 e st ⟨v,p,q,Xl7,Rl7,rfl,rfl,w,h⟩ Ul7 Vl7
  cases ml7 with
  | zero=>cases h
  | succ ml7 =>
  rw [FA] at h
  exact go (tg (a:=([1,2,3,16,17,18,19],([1,2,3,16,17,18],[1,2,3,5,16,17,18],[5,1,2,3,16,17,18],[1,2,3,16,17,18],()),[1,2,3],()))) h hs z x y t w (q2 (ae M4 Ij) (JJ w0 n)) (q2 F (fun e s=>Vl7 ml7 e s (Nat.lt_succ_self _)))
 ·clear h;rintro e st ⟨g,i,Xk4,Rk4,rfl,rfl,w,h⟩
  rw [JV] at h
  have E:=w.unders
  simp only [List.mem_cons,List.not_mem_nil,or_false,forall_eq_or_imp,forall_eq] at E
  refine td z x y t w ?_
  refine AA (fun e st=>∃ (k:List Vl) (j:List Ex) (l:Ev.Own) (o:Ev.Own),Ck e st B Rw L [(2,true,.box (B.length+1) 0),(3,true,.box (B.length+2) 0)] [a0.cs,[Am 0,Am 0,.val (.string (⟨#[]⟩:ByteArray)),.list ([]) .full,.list ([]) .full],[Am a0.op,Am a0.int,.val (.string a0.text),.list (k.map BZ) l,.list (j.map NE) o]] [(6,k.length,l),(5,j.length,o)] (Jb rec n a0 k j=some r)) ?_ ?_
  ·intro K22 D
   refine rg [2,3,31,32,33] hs ?_
   apply Au
   refine AC (fun m e st=>∃ (u:Int) (c:List Vl) (b:List Ex) (f:Ev.Own) (d:Ev.Own),Ck e st B Rw L [(2,true,.box (B.length+1) 0),(3,true,.box (B.length+2) 0),(31,true,.list (a0.args.map NE) .none),(32,true,Am (a0.args.length:Int)),(33,true,Am u)] [a0.cs,[Am 0,Am 0,.val (.string (⟨#[]⟩:ByteArray)),.list ([]) .full,.list ([]) .full],[Am a0.op,Am a0.int,.val (.string a0.text),.list (c.map BZ) f,.list (b.map NE) d]] [(6,c.length,f),(5,b.length,d)] (EO rec n a0 m u c b=some r)) n ⟨0,g,([]),i,.full,([]),Rk4,ef hs,ef hs,Owns.of_eq (((w).full 5 0).swap (List.Perm.swap _ _ _)) E0,h⟩ ?_
   rintro ml24 e st ⟨u,c,b,f,d,Xl24,Rl24,rfl,rfl,w,h⟩ Ul24 Vl24
   cases ml24 with
   | zero=>cases h
   | succ ml24 =>
   rw [EO] at h
   have E:=w.unders
   simp only [List.mem_cons,List.not_mem_nil,or_false,forall_eq_or_imp,forall_eq] at E
   obtain ⟨H,G⟩:=E
   refine td z x y t w ?_
   refine rg [2,3,31,32,33,34] hs ?_
   apply Ap;intro K26 C
   refine Cj h hs ?_ ?_<;>intro hs h
   rotate_left
   ·refine sx [2,3] hs D ?_
    exact ⟨c,b,f,d,([]),Rl24,ef hs,ef hs,Owns.of_eq (((w).swap (List.Perm.swap _ _ _)).swap (List.Perm.swap _ _ _)) E0,h⟩
   exact go (tg (a:=([2,3,31,32,33],[2,3,7,31,32,33],[5,2,3,31,32,33],[2,3,31,32,33],()))) h hs z x y t w (q2 (ae XM RE) ih) (q2 C (fun e s=>Vl24 ml24 e s (Nat.lt_succ_self _)))
  ·clear h;rintro e st ⟨k,j,l,o,Xk21,Rk21,rfl,rfl,w,h⟩
   rw [Jb] at h
   exact go (tg (a:=([2],()))) h hs z x y t w trivial trivial
theorem Qg (w0:World):∀ n:Nat,NF w0 (GI n)
 | 0=>fun _ _ _ _ _ h=>(nomatch h)
 | n+1=>T0 w0 (GI n) (Qg w0 n) n
def HS (n:Nat)  (b:List (ByteArray × Ex)):Option ((List (ByteArray × Ex))) :=
 some (b)
def DI (n:Nat) (q:List (ByteArray × Ex)):Nat→(List (ByteArray × Ex))→Int→Option ((List (ByteArray × Ex)))
 | 0,_,_=>none
 | m+1,g,b =>
  if decide (b<(q.length:Int)) then
   (B6 q b).bind fun h =>
   (GI n h.2).bind fun y =>
   if (g.length+1)*96≤140737488355328∧g.length+1≤4611686018427387904 then
    if Bj (b+1) then
     (DI n q m) (g++([(h.1,y)])) (b+1)
    else none
   else none
  else
   HS n g
def GQ (n:Nat) (b:List (ByteArray × Ex)):Option ((List (ByteArray × Ex))) :=
 if 0≤(b.length:Int)∧(b.length:Int)*96≤140737488355328∧(b.length:Int)≤4611686018427387904 then
  DI n b n ([]) 0
 else none
theorem SO (w0:World) (n:Nat) (B:As) (Rw:Ax) (L:Aw) (a0:List (ByteArray × Ex)) (r:(List (ByteArray × Ex))) (h:GQ n a0=some r) :
  ACalls Tryz.prog w0 78 [.agg ([.list (a0.map AP) .none])] ⟨B,Rw,L⟩ fun x st=>x = .agg ([.list (r.map AP) .none])∧st=⟨B,Rw,L⟩:=by
 rw [GQ] at h
 refine hd [.cell 2 49] Tryz.func78 Tryz.ntmps78 fun M0 W0 p l k i t j hs=>?_
 simp only [AB]
 refine rg [1,2] hs ?_
 obtain ⟨q,h⟩:=Av h
 have j:=j.make 6 0
 refine rg [1,2,3] hs ?_
 refine AA (fun e st=>∃ (c:List (ByteArray × Ex)) (g:Ev.Own),Ck e st B Rw L [(2,true,.box (B.length+1) 0),(3,true,.list (c.map AP) g)] [[.list (a0.map AP) .none],[.list ([]) .full]] [(6,c.length,g)] (HS n c=some r)) ?_ ?_
 ·intro K7 o
  refine rg [2,3,11,12,13] hs ?_
  apply Au
  refine AC (fun m e st=>∃ (b:List (ByteArray × Ex)) (d:Int) (f:Ev.Own),Ck e st B Rw L [(2,true,.box (B.length+1) 0),(3,true,.list (b.map AP) f),(11,true,.list (a0.map AP) .none),(12,true,Am (a0.length:Int)),(13,true,Am d)] [[.list (a0.map AP) .none],[.list ([]) .full]] [(6,b.length,f)] (DI n a0 m b d=some r)) n ⟨([]),0,((.row Rw.length)),([]),((Rw++[.grow 0 6])),ef hs,ef hs,Owns.of_eq (j) E0,h⟩ ?_
  rintro ml9 e st ⟨b,d,f,Xl9,Rl9,rfl,rfl,j,h⟩ Ul9 Vl9
  cases ml9 with
  | zero=>cases h
  | succ ml9 =>
  rw [DI] at h
  exact go (tg (a:=([2,3,11,12,13,14],([2,3,11,12,13],[2,3,5,11,12,13],[8,2,3,11,12,13],[2,3,11,12,13],()),[2,3],()))) h hs p l k i j (q2 (ae YC Rh) (Qg w0 n)) (q2 o (fun e s=>Vl9 ml9 e s (Nat.lt_succ_self _)))
 ·clear h;rintro e st ⟨c,g,Xk6,Rk6,rfl,rfl,j,h⟩
  rw [HS] at h
  exact go (tg (a:=([2],()))) h hs p l k i j trivial trivial
def HU (n:Nat)  (b4_k36_1:List (List Part)) (b6_k36:Bool) (b7_k36_0:List (ByteArray × Ex)):Option ((List (ByteArray × Ex)) × Int) :=
 if !b6_k36 then
  some (([],22))
 else
  (Gg n b7_k36_0).bind fun b =>
  if !(decide (b=0)) then
   some (([],b))
  else
   (GQ n b7_k36_0).bind fun g =>
   some ((g,0))
def DJ (n:Nat) (y:List (ByteArray × Ex)) (q:List (ByteArray × Ex)) (z:Ty):Nat→Int→(List (List Part))→Bool→(List (ByteArray × Ex))→Option ((List (ByteArray × Ex)) × Int)
 | 0,_,_,_,_=>none
 | m+1,b,b4_l39_1,b6_l39,b7_l39_0 =>
  if decide (b<(q.length:Int)) then
   (B6 q b).bind fun g =>
   (Du n g.2 (Cps.mk y b4_l39_1 z) b6_l39).bind fun h =>
   if (b7_l39_0.length+1)*96≤140737488355328∧b7_l39_0.length+1≤4611686018427387904 then
    if Bj (b+1) then
     (DJ n y q z m) (b+1) b4_l39_1 h.2 (b7_l39_0++([(g.1,h.1)]))
    else none
   else none
  else
   HU n b4_l39_1 b6_l39 b7_l39_0
def F6 (n:Nat) (g:List (ByteArray × Ex)) (h:List (ByteArray × Ex)) (b:Ty) (b4_k15_1:List (List Part)):Option ((List (ByteArray × Ex)) × Int) :=
 DJ n g h b n 0 b4_k15_1 true ([])
def C5 (n:Nat) (g:List (ByteArray × Ex)) (z:List (ByteArray × Ex)) (y:Ty):Nat→Int→(List (List Part))→Option ((List (ByteArray × Ex)) × Int)
 | 0,_,_=>none
 | m+1,b,b4_l18_1 =>
  if decide (b<(g.length:Int)) then
   (B6 g b).bind fun q =>
   (CZ n q.1).bind fun h =>
   if (b4_l18_1.length+1)*24≤140737488355328∧b4_l18_1.length+1≤4611686018427387904 then
    if Bj (b+1) then
     (C5 n g z y m) (b+1) (b4_l18_1++([h.1]))
    else none
   else none
  else
   F6 n g z y b4_l18_1
def Gf (n:Nat) (b:List (ByteArray × Ex)) (g:List (ByteArray × Ex)) (q:Ty):Option ((List (ByteArray × Ex)) × Int) :=
 (Do n b).bind fun y =>
 (Do n g).bind fun y5 =>
 (FX n q).bind fun y6 =>
 (Gg n b).bind fun z =>
 (Gg n g).bind fun y8 =>
 (Jg n ([y,y5,y6,z,y8])).bind fun h =>
 if !(decide (h=0)) then
  some (([],h))
 else
  C5 n b g q n 0 ([])
theorem Ot (w0:World) (hB:Rj w0) (hE:Jl w0) (hM:Jh w0) (hP:Pow10 w0) (hT:Lib.Utf8Tabs 2 3 w0) (n:Nat) (B:As) (Rw:Ax) (L:Aw) (a0:List (ByteArray × Ex)) (a1:List (ByteArray × Ex)) (a2:Ty) (r:(List (ByteArray × Ex)) × Int) (h:Gf n a0 a1 a2=some r) :
  ACalls Tryz.prog w0 26 [.agg ([.list (a0.map AP) .none]),.agg ([.list (a1.map AP) .none]),.agg (a2.cs)] ⟨B,Rw,L⟩ fun x st=>x = .tup [.agg ([.list (r.1.map AP) .none]),Am r.2]∧st=⟨B,Rw,L⟩:=by
 rw [Gf] at h
 refine hd [.cell 6 49,.tmp 7] Tryz.func26 Tryz.ntmps26 fun M0 W0 hN Y V D hu J hs=>?_
 simp only [AB]
 refine rg [3,4,5,6] hs ?_
 apply Ap;intro K2 aq
 obtain ⟨y4,bg,h⟩:=bind_some h
 obtain ⟨y5,a6,h⟩:=bind_some h
 obtain ⟨y6,a9,h⟩:=bind_some h
 obtain ⟨y7,bf,h⟩:=bind_some h
 obtain ⟨y8,ba,h⟩:=bind_some h
 obtain ⟨y9,bc,h⟩:=bind_some h
 apply Ap;intro K3 av
 refine dk 13 7 1 [3,4,5,6,8] hs OJ ?_
 refine Az _ (GL w0 hE hM hP n _ _ _ a0 _ bg) (hv hs) ?_
 refine nc hs ?_
 refine Az _ (GL w0 hE hM hP n _ _ _ a1 _ a6) (hv hs) ?_
 refine nc hs ?_
 refine Az _ (OA w0 hT n _ _ _ a2 _ a9) (hv hs) ?_
 refine nc hs ?_
 refine Az _ (KH w0 hE hM hP hT n _ _ _ a0 _ bf) (hv hs) ?_
 refine nc hs ?_
 refine Az _ (KH w0 hE hM hP hT n _ _ _ a1 _ ba) (hv hs) ?_
 refine nc hs ?_
 refine Az _ (Qh w0 n _ _ _ ([y4,y5,y6,y7,y8]) _ bc) (hv hs) ?_
 refine dn hs av ?_
 clear av
 refine rg [3,4,5,6,8,33] hs ?_
 refine Cj h hs ?_ ?_<;>intro hs h
 ·have g:=hs.1
  refine rg [6,7] hs ?_
  exact rt h hs D J
 have g:=hs.1
 refine sk [3,4,5,6] hs aq ?_
 clear aq
 have hs:=Ae (Ty.cs_eqs a2) hs
 refine rg [3,4,6,9] hs ?_
 refine AA (fun e st=>∃ (k:List (List Part)) (t:Ev.Own),Ck e st B Rw L [(4,true,.box (B.length+1) 0),(6,true,.box (B.length+3) 0),(9,true,.box (B.length+5) 0)] [[.list (a0.map AP) .none],[.list (a1.map AP) .none],a2.cs,[.list ([]) .full],[.list (a0.map AP) .none,.list (k.map (KO AO)) t,Am a2.kind,Am a2.min,Am a2.max,Am a2.scale,.list (a2.words.map Eo) .none,.list (a2.elem.map KF) .none,.list (a2.fields.map CW) .none],[.box (B.length+4) 0]] [(1,k.length,t)] (F6 n a0 a1 a2 k=some r)) ?_ ?_
 ·intro K16 au
  refine rg [4,6,9,42,43,44] hs ?_
  apply Au
  refine AC (fun m e st=>∃ (N:Int) (q:List (List Part)) (C:Ev.Own),Ck e st B Rw L [(4,true,.box (B.length+1) 0),(6,true,.box (B.length+3) 0),(9,true,.box (B.length+5) 0),(42,true,.list (a0.map AP) .none),(43,true,Am (a0.length:Int)),(44,true,Am N)] [[.list (a0.map AP) .none],[.list (a1.map AP) .none],a2.cs,[.list ([]) .full],[.list (a0.map AP) .none,.list (q.map (KO AO)) C,Am a2.kind,Am a2.min,Am a2.max,Am a2.scale,.list (a2.words.map Eo) .none,.list (a2.elem.map KF) .none,.list (a2.fields.map CW) .none],[.box (B.length+4) 0]] [(1,q.length,C)] (C5 n a0 a1 a2 m N q=some r)) n ⟨0,([]),.full,([]),Rw,ef hs,ef hs,Owns.of_eq ((J).full 1 0) E0,h⟩ ?_
  rintro ml18 e st ⟨N,q,C,Xl18,Rl18,rfl,rfl,J,h⟩ Ul18 Vl18
  cases ml18 with
  | zero=>cases h
  | succ ml18 =>
  rw [C5] at h
  have hU:=J.unders
  simp only [List.mem_cons,List.not_mem_nil,or_false,forall_eq_or_imp,forall_eq] at hU
  refine td hN Y V D J ?_
  refine rg [4,6,9,42,43,44,45] hs ?_
  apply Ap;intro K20 ae
  refine Cj h hs ?_ ?_<;>intro hs h
  rotate_left
  ·have U:=hs.1
   refine sx [4,6,9] hs au ?_
   exact ⟨q,C,([]),Rl18,ef hs,ef hs,Owns.of_eq (J) E0,h⟩
  have U:=hs.1
  refine sk [4,6,9,42,43,44] hs ae ?_
  clear ae
  apply Ap;intro K22 ah
  apply Au
  obtain ⟨am,az,h⟩:=bind_some h
  obtain ⟨bb,a7,ao⟩:=Bt az
  have O:=Bv (f:=AP) ao
  have hs:=Ae O hs
  refine rg [4,6,9,11,42,43,44] hs ?_
  obtain ⟨bi,a4,h⟩:=bind_some h
  refine rc 2 [4,6,9,12,42,43,44] hs ?_;intro K25 aa
  refine Az _ (GG w0 hE hM hP n _ _ _ am.1 _ a4) (hv hs) ?_
  refine ne hs aa ?_
  clear aa
  obtain ⟨af,h⟩:=Av h
  obtain ⟨bj,a5,J,v⟩:=J.append (P:=Tryz.prog) YF (by rw [P1];rfl) (by decide) 1 af.1 af.2
  replace v:=fun (ys:List AV) B L o2=>v (q.map (KO AO)) ys B L o2 E0
  replace v:=fun (y:AV) B L o2=>v [y] B L o2 E0 ev
  try simp only [List.mem_singleton,List.mem_cons,List.not_mem_nil,or_false,forall_eq_or_imp,forall_eq,List.map_append,List.map_cons,List.map_nil,Ge,Gi,F3,ES,EY,F7,Dn,D5,F2,CN,CM,Ej,D7,Ef,F4,Ee,FZ] at v
  apply Zj OJ [7,10] [4] [4,6,9,42,43,44] kr (fun s=>∃ (X:As) (rows:Ax) (c4:List AV),s=⟨B++([[.list (a0.map AP) .none],[.list (a1.map AP) .none],[Am a2.kind,Am a2.min,Am a2.max,Am a2.scale,.list (a2.words.map Eo) .none,.list (a2.elem.map KF) .none,.list (a2.fields.map CW) .none],[.list ([]) .full],c4,[.box (B.length+4) 0],.val (.string am.1)::(am.2.cs)]++X),rows,L⟩) 3 (B.length+7)
  ·simp +decide only [go_sem,Nat.reduceAdd]
  ·refine ⟨1,?_⟩
   rw [Aq];simp +decide only [go_sem,Nat.reduceAdd,Dw,g,Ty.cs_eqs a2,U,O,v]
   (repeat' apply Ae)<;>first | rfl | exact cl
  ·rintro s ⟨X,rows,c4,rfl⟩
   refine ⟨1,?_⟩
   rw [Aq];simp +decide only [go_sem,Nat.reduceAdd,Dw,List.append_eq,List.cons_append,List.nil_append,g,Ty.cs_eqs a2,U,O,v]
   have hs:=Ae v hs
   (repeat' apply Ae)<;>first | rfl | ((repeat (first | exact .nil | refine .cons (ef hs) ?_));done) | exact cl
  ·exact gd (tg (a:=(7,10,[4,6,9,42,43,44]))) (Ae v (Ae O (Ae (Ty.cs_eqs a2) hs)))
  simp +decide only [go_sem,Nat.reduceAdd,g,Ty.cs_eqs a2,U,O,v]
  (repeat' apply Ae)<;>first | refine ah _ _ ?_ | exact cl
  clear ah
  exact go (tg (a:=([4,6,9,42,43,44],()))) h (Ae v hs) hN Y V D J trivial (q1 (fun e s=>Vl18 ml18 e s (Nat.lt_succ_self _)))
 ·clear h;rintro e st ⟨k,t,Xk15,Rk15,rfl,rfl,J,h⟩
  rw [F6] at h
  have hU:=J.unders
  simp only [List.mem_cons,List.not_mem_nil,or_false,forall_eq_or_imp,forall_eq] at hU
  refine td hN Y V D J ?_
  refine rg [4,6,9,14] hs ?_
  refine rg [4,6,14,15] hs ?_
  refine rg [4,6,14,15,16] hs ?_
  refine AA (fun e st=>∃ (F:List (List Part)) (K:Bool) (p:List (ByteArray × Ex)) (G:AV) (z:Ev.Own),Ck e st B Rw L [(6,true,.box (B.length+3) 0),(14,true,.box (B.length+6) 0),(16,true,.box (B.length+7) 0)] [[.list (a0.map AP) .none],[.list (a1.map AP) .none],a2.cs,[.list ([]) .full],[.list (a0.map AP) .none,G,Am a2.kind,Am a2.min,Am a2.max,Am a2.scale,.list (a2.words.map Eo) .none,.list (a2.elem.map KF) .none,.list (a2.fields.map CW) .none],[.box (B.length+4) 0],[.val (.bool K)],[.list (p.map AP) z]] [(6,p.length,z)] (G.pub = .list (F.map (KO AO)) .none∧HU n F K p=some r)) ?_ ?_
  ·intro K37 aw
   refine rg [6,14,15,16,67,68,69] hs ?_
   apply Au
   refine AC (fun m e st=>∃ (E:Int) (d:List (List Part)) (w:Bool) (j:List (ByteArray × Ex)) (H:AV) (u:Ev.Own),Ck e st B Rw L [(6,true,.box (B.length+3) 0),(14,true,.box (B.length+6) 0),(15,true,.clo 75 [.box (B.length+5) 0,.box (B.length+6) 0]),(16,true,.box (B.length+7) 0),(67,true,.list (a1.map AP) .none),(68,true,Am (a1.length:Int)),(69,true,Am E)] [[.list (a0.map AP) .none],[.list (a1.map AP) .none],a2.cs,[.list ([]) .full],[.list (a0.map AP) .none,H,Am a2.kind,Am a2.min,Am a2.max,Am a2.scale,.list (a2.words.map Eo) .none,.list (a2.elem.map KF) .none,.list (a2.fields.map CW) .none],[.box (B.length+4) 0],[.val (.bool w)],[.list (j.map AP) u]] [(6,j.length,u)] (H.pub = .list (d.map (KO AO)) .none∧DJ n a0 a1 a2 m E d w j=some r)) n ⟨0,k,true,([]),(.list (k.map (KO AO)) t),.full,([]),Rk15,ef hs,ef hs,Owns.of_eq (((J).full 6 0).sub (List.sublist_append_left [(6,0,Own.full)] [(1,k.length,t)])) E0,ef hs,h⟩ ?_
   rintro ml39 e st ⟨E,d,w,j,H,u,Xl39,Rl39,rfl,rfl,J,ap,h⟩ Ul39 Vl39
   cases ml39 with
   | zero=>cases h
   | succ ml39 =>
   rw [DJ] at h
   refine Jm (B.length+4) 1 (by first | rfl | (simp only [CG,BK,BJ,Bl];rfl)) rfl ap ?_;simp +decide only [go_sem,Nat.reduceAdd]
   show Em _ _ _ _ _ _ _ _ [(6,true,.box (B.length+3) 0),(14,true,.box (B.length+6) 0),(15,true,.clo 75 [.box (B.length+5) 0,.box (B.length+6) 0]),(16,true,.box (B.length+7) 0),(67,true,.list (a1.map AP) .none),(68,true,Am (a1.length:Int)),(69,true,Am E)] ⟨B++([[.list (a0.map AP) .none],[.list (a1.map AP) .none],a2.cs,[.list ([]) .full],[.list (a0.map AP) .none,.list (d.map (KO AO)) .none,Am a2.kind,Am a2.min,Am a2.max,Am a2.scale,.list (a2.words.map Eo) .none,.list (a2.elem.map KF) .none,.list (a2.fields.map CW) .none],[.box (B.length+4) 0],[.val (.bool w)],[.list (j.map AP) u]]++Xl39),Rl39,L⟩
   have hU:=J.unders
   simp only [List.mem_cons,List.not_mem_nil,or_false,forall_eq_or_imp,forall_eq] at hU
   refine td hN Y V D J ?_
   refine rg [6,14,15,16,67,68,69,70] hs ?_
   apply Ap;intro K41 ai
   refine Cj h hs ?_ ?_<;>intro hs h
   rotate_left
   ·have l:=hs.1
    refine sx [6,14,16] hs aw ?_
    exact ⟨d,w,j,(.list (d.map (KO AO)) .none),u,([]),Rl39,ef hs,ef hs,Owns.of_eq (J) E0,ef hs,h⟩
   have l:=hs.1
   refine sk [6,14,15,16,67,68,69] hs ai ?_
   clear ai
   apply Ap;intro K43 aj
   apply Au
   obtain ⟨Q,ax,h⟩:=bind_some h
   obtain ⟨be,bd,ak⟩:=Bt ax
   have c:=Bv (f:=AP) ak
   have hs:=Ae c hs
   refine rg [6,14,15,16,18,67,68,69] hs ?_
   obtain ⟨o,ad,h⟩:=bind_some h
   obtain ⟨ag,h⟩:=Av h
   obtain ⟨a8,Z,J,b⟩:=J.append (P:=Tryz.prog) YC (by rw [Rh];rfl) (by decide) 1 ag.1 ag.2
   replace b:=fun (ys:List AV) B L o2=>b (j.map AP) ys B L o2 E0
   replace b:=fun (y:AV) B L o2=>b [y] B L o2 E0 ev
   try simp only [List.mem_singleton,List.mem_cons,List.not_mem_nil,or_false,forall_eq_or_imp,forall_eq,List.map_append,List.map_cons,List.map_nil,Ge,Gi,F3,ES,EY,F7,Dn,D5,F2,CN,CM,Ej,D7,Ef,F4,Ee,FZ] at b
   apply Gt OJ [1,7,8,9,10,12] [6,14,15,16,67,68,69] kr (fun s=>∃ (X:As) (rows:Ax) (c6:List AV) (c7:List AV),s=⟨B++([[.list (a0.map AP) .none],[.list (a1.map AP) .none],[Am a2.kind,Am a2.min,Am a2.max,Am a2.scale,.list (a2.words.map Eo) .none,.list (a2.elem.map KF) .none,.list (a2.fields.map CW) .none],[.list ([]) .full],[.list (a0.map AP) .none,.list (d.map (KO AO)) .none,Am a2.kind,Am a2.min,Am a2.max,Am a2.scale,.list (a2.words.map Eo) .none,.list (a2.elem.map KF) .none,.list (a2.fields.map CW) .none],[.box (B.length+4) 0],c6,c7,.val (.string Q.1)::(Q.2.cs)]++X),rows,L⟩) 7 (B.length+9)
   ·simp +decide only [go_sem,Nat.reduceAdd]
   ·rintro s ⟨X,rows,c6,c7,rfl⟩
    refine ⟨1,?_⟩
    rw [Aq];simp +decide only [go_sem,Nat.reduceAdd,Dw,g,Ty.cs_eqs a2,l,c,Ex.cs_eqs o.1,b]
    (repeat' apply Ae)<;>first | rfl | exact cl
   ·refine Good.mk [1,7] kr ⟨[],_,_,_,by first | rfl | simp only [List.append_nil,List.nil_append]⟩ ?_ ?_
    ·intro h;exact absurd h (by decide)
    ·intro i hi;simp only [List.mem_cons,List.not_mem_nil,or_false] at hi
     rcases hi with rfl | rfl
     ·apply Cc rfl rfl ev
      ·simp +decide only [go_sem,Nat.reduceAdd,DW,g,Ty.cs_eqs a2,l,c,Ex.cs_eqs o.1,b]
       (repeat' apply Ae)<;>first | rfl | exact cl
      ·simp +decide only [go_sem,Nat.reduceAdd,g,Ty.cs_eqs a2,l,c,Ex.cs_eqs o.1,b]
       refine Good.mk [7] kr ⟨[],_,_,_,by first | rfl | simp only [List.append_nil,List.nil_append]⟩ ?_ ?_
       ·intro h;exact absurd h (by decide)
       ·intro i hi;simp only [List.mem_cons,List.not_mem_nil,or_false] at hi
        subst hi
        ·apply Cc rfl rfl ev
         ·simp +decide only [go_sem,Nat.reduceAdd,DW,g,Ty.cs_eqs a2,l,c,Ex.cs_eqs o.1,b]
          have hs:=Ae (Ex.cs_eqs o.1) hs
          have hs:=Ae b hs
          (repeat' with_reducible apply Ae)<;>first | exact ND (KA w0 hB hE hM hP n _ _ _ Q.2 (B.length+5) (B.length+4) (Cps.mk a0 d a2) (ef hs) (ef hs) (B.length+6) w (ef hs) nq nq _ ad) (hv hs) | rfl | exact cl
         ·simp +decide only [go_sem,Nat.reduceAdd,g,Ty.cs_eqs a2,l,c,Ex.cs_eqs o.1,b]
          exact gd (tg (a:=(8,9,10,12,[6,14,15,16,67,68,69]))) (Ae b (Ae (Ex.cs_eqs o.1) (Ae c (Ae (Ty.cs_eqs a2) hs))))
     ·apply Cc rfl rfl ev
      ·simp +decide only [go_sem,Nat.reduceAdd,DW,g,Ty.cs_eqs a2,l,c,Ex.cs_eqs o.1,b]
       have hs:=Ae (Ex.cs_eqs o.1) hs
       have hs:=Ae b hs
       (repeat' with_reducible apply Ae)<;>first | exact ND (KA w0 hB hE hM hP n _ _ _ Q.2 (B.length+5) (B.length+4) (Cps.mk a0 d a2) (ef hs) (ef hs) (B.length+6) w (ef hs) nq nq _ ad) (hv hs) | rfl | exact cl
      ·simp +decide only [go_sem,Nat.reduceAdd,g,Ty.cs_eqs a2,l,c,Ex.cs_eqs o.1,b]
       refine Good.mk [1,8] kr ⟨[],_,_,_,by first | rfl | simp only [List.append_nil,List.nil_append]⟩ ?_ ?_
       ·intro h;exact absurd h (by decide)
       ·intro i hi;simp only [List.mem_cons,List.not_mem_nil,or_false] at hi
        rcases hi with rfl | rfl
        ·apply Cc rfl rfl ev
         ·simp +decide only [go_sem,Nat.reduceAdd,DW,g,Ty.cs_eqs a2,l,c,Ex.cs_eqs o.1,b]
          (repeat' apply Ae)<;>first | rfl | exact cl
         ·simp +decide only [go_sem,Nat.reduceAdd,g,Ty.cs_eqs a2,l,c,Ex.cs_eqs o.1,b]
          exact gd (tg (a:=(8,9,10,12,[6,14,15,16,67,68,69]))) (Ae b (Ae (Ex.cs_eqs o.1) (Ae c (Ae (Ty.cs_eqs a2) hs))))
        ·apply Cc rfl rfl ev
         ·simp +decide only [go_sem,Nat.reduceAdd,DW,g,Ty.cs_eqs a2,l,c,Ex.cs_eqs o.1,b]
          (repeat' apply Ae)<;>first | rfl | exact cl
         ·simp +decide only [go_sem,Nat.reduceAdd,g,Ty.cs_eqs a2,l,c,Ex.cs_eqs o.1,b]
          refine Good.mk [1,9] kr ⟨[],_,_,_,by first | rfl | simp only [List.append_nil,List.nil_append]⟩ ?_ ?_
          ·intro h;exact absurd h (by decide)
          ·intro i hi;simp only [List.mem_cons,List.not_mem_nil,or_false] at hi
           rcases hi with rfl | rfl
           ·apply Cc rfl rfl ev
            ·simp +decide only [go_sem,Nat.reduceAdd,DW,g,Ty.cs_eqs a2,l,c,Ex.cs_eqs o.1,b]
             (repeat' apply Ae)<;>first | rfl | exact cl
            ·simp +decide only [go_sem,Nat.reduceAdd,g,Ty.cs_eqs a2,l,c,Ex.cs_eqs o.1,b]
             exact gd (tg (a:=(9,10,12,[6,14,15,16,67,68,69]))) (Ae b (Ae (Ex.cs_eqs o.1) (Ae c (Ae (Ty.cs_eqs a2) hs))))
           ·apply Cc rfl rfl ev
            ·simp +decide only [go_sem,Nat.reduceAdd,DW,g,Ty.cs_eqs a2,l,c,Ex.cs_eqs o.1,b]
             (repeat' apply Ae)<;>first | rfl | exact cl
            ·simp +decide only [go_sem,Nat.reduceAdd,g,Ty.cs_eqs a2,l,c,Ex.cs_eqs o.1,b]
             exact gd (tg (a:=(1,10,12,[6,14,15,16,67,68,69]))) (Ae b (Ae (Ex.cs_eqs o.1) (Ae c (Ae (Ty.cs_eqs a2) hs))))
   simp +decide only [go_sem,Nat.reduceAdd,g,Ty.cs_eqs a2,l,c,Ex.cs_eqs o.1,b]
   (repeat' apply Ae)<;>first | refine aj _ _ ?_ | exact cl
   clear aj
   obtain ⟨bh,h⟩:=Av h
   have hs:=Ae (Ex.cs_eqs o.1) hs
   have hs:=Ae b hs
   refine rl [6,14,15,16,67,68,69] hs (fun e s=>Vl39 ml39 e s (Nat.lt_succ_self _)) ?_
   exact ⟨(E+1),d,o.2,(j++([(Q.1,o.1)])),(.list (d.map (KO AO)) .none),a8,([.val (.string Q.1)::(Q.2.cs)]),Z,ef hs,ef hs,Owns.of_eq (J) E0,ef hs,h⟩
  ·clear h;rintro e st ⟨F,K,p,G,z,Xk36,Rk36,rfl,rfl,J,ap,h⟩
   rw [HU] at h
   refine Jm (B.length+4) 1 (by first | rfl | (simp only [CG,BK,BJ,Bl];rfl)) rfl ap ?_;simp +decide only [go_sem,Nat.reduceAdd]
   show Em _ _ _ _ _ _ _ _ [(6,true,.box (B.length+3) 0),(14,true,.box (B.length+6) 0),(16,true,.box (B.length+7) 0)] ⟨B++([[.list (a0.map AP) .none],[.list (a1.map AP) .none],a2.cs,[.list ([]) .full],[.list (a0.map AP) .none,.list (F.map (KO AO)) .none,Am a2.kind,Am a2.min,Am a2.max,Am a2.scale,.list (a2.words.map Eo) .none,.list (a2.elem.map KF) .none,.list (a2.fields.map CW) .none],[.box (B.length+4) 0],[.val (.bool K)],[.list (p.map AP) z]]++Xk36),Rk36,L⟩
   have hU:=J.unders
   simp only [List.mem_cons,List.not_mem_nil,or_false,forall_eq_or_imp,forall_eq] at hU
   refine td hN Y V D J ?_
   apply Ap;intro K52 ab
   refine rg [6,16,87] hs ?_
   refine Cj h hs ?_ ?_<;>intro hs h
   ·refine rg [6,7] hs ?_
    exact rt h hs D J
   refine sk [6,16] hs ab ?_
   clear ab
   apply Ap;intro K56 a3
   obtain ⟨bk,ar,h⟩:=bind_some h
   refine rc 2 [6,16,19] hs ?_;intro K57 ay
   refine Az _ (KH w0 hE hM hP hT n _ _ _ p _ ar) (hv hs) ?_
   exact go (tg (a:=([6,16,19,92],([6,7],()),[6,16],[6,7],()))) h hs hN Y V D J (q1 (SO w0 n)) (q2 ay a3)
def NG (n:Nat) (b:Int→Ty→(Int × ByteArray × Int × Ty × List Vl)→Option ((Int × ByteArray × Int × Ty × List Vl) × Bool)) (g:Int) (b0_k12:Ty) (b2_k12:Int × ByteArray × Int × Ty × List Vl):Option ((Int × ByteArray × Int × Ty × List Vl) × Bool) :=
 if Bj (g+1) then
  b (g+1) b0_k12 b2_k12
 else none
def PT (n:Nat) (b:List Part) (b0_k4:Ty) (b2_k4:Int × ByteArray × Int × Ty × List Vl):Option ((Int × ByteArray × Int × Ty × List Vl) × Bool) :=
 some ((b2_k4,decide (0<(b.length:Int))))
def FM (n:Nat) (b:Int→Ty→(Int × ByteArray × Int × Ty × List Vl)→Option ((Int × ByteArray × Int × Ty × List Vl) × Bool)) (h:Int) (g:Bool) (b2_k16:Int × ByteArray × Int × Ty × List Vl):Option ((Int × ByteArray × Int × Ty × List Vl) × Bool) :=
 if !g then
  some (((0,(⟨#[]⟩:ByteArray),0,Ty.mk 0 0 0 0 ([]) ([]) ([]),[]),false))
 else
  NG n b h b2_k16.2.2.2.1 b2_k16
def FI (n:Nat) (b:Int→Ty→(Int × ByteArray × Int × Ty × List Vl)→Option ((Int × ByteArray × Int × Ty × List Vl) × Bool)) (z:List Part) (h:Int) (b0_l7:Ty) (b2_l7:Int × ByteArray × Int × Ty × List Vl):Nat→Int→Option ((Int × ByteArray × Int × Ty × List Vl) × Bool)
 | 0,_=>none
 | m+1,g =>
  if (decide (g<(b0_l7.fields.length:Int)))&&(decide (b0_l7.kind=9)) then
   (B6 z h).bind fun y =>
   if decide (y.kind=1) then
    (B6 b0_l7.fields g).bind fun q =>
    if G5 q.2.1 y.name then
     FM n b h true q
    else
     if Bj (g+1) then
      (FI n b z h b0_l7 b2_l7 m) (g+1)
     else none
   else
    if Bj (g+1) then
     (FI n b z h b0_l7 b2_l7 m) (g+1)
    else none
  else
   FM n b h false b2_l7
def D9 (n:Nat) (g:List Part):Nat→Int→Ty→(Int × ByteArray × Int × Ty × List Vl)→Option ((Int × ByteArray × Int × Ty × List Vl) × Bool)
 | 0,_,_,_=>none
 | m+1,b,b0_l7,b2_l7 =>
  if decide (b<(g.length:Int)) then
   FI n (D9 n g m) g b b0_l7 b2_l7 n 0
  else
   PT n g b0_l7 b2_l7
def Na (n:Nat) (b:Ty) (g:List Part):Option ((Int × ByteArray × Int × Ty × List Vl) × Bool) :=
 D9 n g n 0 b ((0,(⟨#[]⟩:ByteArray),0,Ty.mk 0 0 0 0 ([]) ([]) ([]),[]))
theorem WW (w0:World) (n:Nat) (B:As) (Rw:Ax) (L:Aw) (a0:Ty) (a1:List Part) (r:(Int × ByteArray × Int × Ty × List Vl) × Bool) (h:Na n a0 a1=some r) :
  ACalls Tryz.prog w0 247 [.agg (a0.cs),.list (a1.map AO) .none] ⟨B,Rw,L⟩ fun x st=>x = .tup [.agg (Am r.1.1::(.val (.string r.1.2.1)::(Am r.1.2.2.1::((r.1.2.2.2.1.cs)++([.list (r.1.2.2.2.2.map BZ) .none]))))),.val (.bool r.2)]∧st=⟨B,Rw,L⟩:=by
 rw [Na] at h
 refine hd [.cell 4 95,.tmp 5] Tryz.func247 Tryz.ntmps247 fun M0 W0 U E F i hu t hs=>?_
 simp only [AB]
 refine rg [1,2,4] hs ?_
 refine rg [1,2,4,6] hs ?_
 refine AA (fun e st=>∃ (y:Ty) (g:Int × ByteArray × Int × Ty × List Vl) (C:List AV) (v:List AV),Ck e st B Rw L [(1,true,.list (a1.map AO) .none),(4,true,.box (B.length+1) 0),(6,true,.box (B.length+2) 0)] [C,[Am 0,.val (.string (⟨#[]⟩:ByteArray)),Am 0,Am 0,Am 0,Am 0,Am 0,.list ([]) .full,.list ([]) .full,.list ([]) .full,.list ([]) .full],v] [] (C.map AV.pubCell=y.cs∧v.map AV.pubCell=Am g.1::(.val (.string g.2.1)::(Am g.2.2.1::((g.2.2.2.1.cs)++([.list (g.2.2.2.2.map BZ) .none]))))∧PT n a1 y g=some r)) ?_ ?_
 ·intro K5 aa
  refine rg [1,2,4,6,7] hs ?_
  apply Au
  refine AC (fun m e st=>∃ (f:Int) (j:Ty) (b:Int × ByteArray × Int × Ty × List Vl) (u:List AV) (w:List AV),Ck e st B Rw L [(1,true,.list (a1.map AO) .none),(2,true,.box B.length 0),(4,true,.box (B.length+1) 0),(6,true,.box (B.length+2) 0),(7,true,Am f)] [u,[Am 0,.val (.string (⟨#[]⟩:ByteArray)),Am 0,Am 0,Am 0,Am 0,Am 0,.list ([]) .full,.list ([]) .full,.list ([]) .full,.list ([]) .full],w] [] (u.map AV.pubCell=j.cs∧w.map AV.pubCell=Am b.1::(.val (.string b.2.1)::(Am b.2.2.1::((b.2.2.2.1.cs)++([.list (b.2.2.2.2.map BZ) .none]))))∧D9 n a1 m f j b=some r)) n ⟨0,a0,((0,(⟨#[]⟩:ByteArray),0,Ty.mk 0 0 0 0 ([]) ([]) ([]),[])),_,_,([]),Rw,ef hs,ef hs,t,ef hs,ef hs,h⟩ ?_
  rintro ml7 e st ⟨f,j,b,u,w,Xl7,Rl7,rfl,rfl,t,D,H,h⟩ Ul7 Vl7
  cases ml7 with
  | zero=>cases h
  | succ ml7 =>
  rw [D9] at h
  refine Ba B.length (by first | rfl | (simp only [CG,BK,BJ,Bl];rfl)) D ?_;simp +decide only [go_sem,Nat.reduceAdd]
  refine Ba (B.length+2) (by first | rfl | (simp only [CG,BK,BJ,Bl];rfl)) H ?_;simp +decide only [go_sem,Nat.reduceAdd]
  show Em _ _ _ _ _ _ _ _ [(1,true,.list (a1.map AO) .none),(2,true,.box B.length 0),(4,true,.box (B.length+1) 0),(6,true,.box (B.length+2) 0),(7,true,Am f)] ⟨B++([j.cs,[Am 0,.val (.string (⟨#[]⟩:ByteArray)),Am 0,Am 0,Am 0,Am 0,Am 0,.list ([]) .full,.list ([]) .full,.list ([]) .full,.list ([]) .full],Am b.1::(.val (.string b.2.1)::(Am b.2.2.1::((b.2.2.2.1.cs)++([.list (b.2.2.2.2.map BZ) .none]))))]++Xl7),Rl7,L⟩
  refine td U E F i t ?_
  apply Ap;intro K8 Z
  refine rg [1,2,4,6,7,13] hs ?_
  refine Cj h hs ?_ ?_<;>intro hs h
  rotate_left
  ·refine sx [1,4,6] hs aa ?_
   exact ⟨j,b,_,_,([]),Rl7,ef hs,ef hs,t,ef hs,ef hs,h⟩
  refine sk [1,2,4,6,7] hs Z ?_
  clear Z
  refine AA (fun e st=>∃ (k:Ty) (d:Int × ByteArray × Int × Ty × List Vl) (q:List AV) (o:List AV),Ck e st B Rw L [(1,true,.list (a1.map AO) .none),(2,true,.box B.length 0),(4,true,.box (B.length+1) 0),(6,true,.box (B.length+2) 0),(7,true,Am f)] [q,[Am 0,.val (.string (⟨#[]⟩:ByteArray)),Am 0,Am 0,Am 0,Am 0,Am 0,.list ([]) .full,.list ([]) .full,.list ([]) .full,.list ([]) .full],o] [] (q.map AV.pubCell=k.cs∧o.map AV.pubCell=Am d.1::(.val (.string d.2.1)::(Am d.2.2.1::((d.2.2.2.1.cs)++([.list (d.2.2.2.2.map BZ) .none]))))∧NG n (D9 n a1 ml7) f k d=some r)) ?_ ?_
  ·intro K13 Y
   apply Au
   refine rg [1,2,4,6,7,8] hs ?_
   refine AA (fun e st=>∃ (l:Bool) (c:Int × ByteArray × Int × Ty × List Vl) (p:List AV),Ck e st B Rw L [(1,true,.list (a1.map AO) .none),(2,true,.box B.length 0),(4,true,.box (B.length+1) 0),(6,true,.box (B.length+2) 0),(7,true,Am f),(8,true,.val (.bool l))] [j.cs,[Am 0,.val (.string (⟨#[]⟩:ByteArray)),Am 0,Am 0,Am 0,Am 0,Am 0,.list ([]) .full,.list ([]) .full,.list ([]) .full,.list ([]) .full],p] [] (p.map AV.pubCell=Am c.1::(.val (.string c.2.1)::(Am c.2.2.1::((c.2.2.2.1.cs)++([.list (c.2.2.2.2.map BZ) .none]))))∧FM n (D9 n a1 ml7) f l c=some r)) ?_ ?_
   ·intro K17 K
    refine rg [1,2,4,6,7,8,9] hs ?_
    apply Au
    refine AC (fun m e st=>∃ (z:Int),Ck e st B Rw L [(1,true,.list (a1.map AO) .none),(2,true,.box B.length 0),(4,true,.box (B.length+1) 0),(6,true,.box (B.length+2) 0),(7,true,Am f),(8,true,.val (.bool false)),(9,true,Am z)] [j.cs,[Am 0,.val (.string (⟨#[]⟩:ByteArray)),Am 0,Am 0,Am 0,Am 0,Am 0,.list ([]) .full,.list ([]) .full,.list ([]) .full,.list ([]) .full],Am b.1::(.val (.string b.2.1)::(Am b.2.2.1::((b.2.2.2.1.cs)++([.list (b.2.2.2.2.map BZ) .none]))))] [] (FI n (D9 n a1 ml7) a1 f j b m z=some r)) n ⟨0,([]),Rl7,ef hs,ef hs,t,h⟩ ?_
    rintro ml19 e st ⟨z,Xl19,Rl19,rfl,rfl,t,h⟩ Ul19 Vl19
    cases ml19 with
    | zero=>cases h
    | succ ml19 =>
    rw [FI] at h
    refine td U E F i t ?_
    apply Ap;intro K20 Q
    refine rg [1,2,4,6,7,8,9,25] hs ?_
    refine Cj h hs ?_ ?_<;>intro hs h
    rotate_left
    ·refine sx [1,2,4,6,7,8] hs K ?_
     exact ⟨false,b,_,([]),Rl19,ef hs,ef hs,t,ef hs,h⟩
    refine sk [1,2,4,6,7,8,9] hs Q ?_
    clear Q
    apply Ap;intro K23 N
    apply Au
    apply Ap;intro K24 J
    obtain ⟨ah,ab,ag,G,h⟩:=ix AO h
    rcases Bool.eq_false_or_eq_true (decide (ah.kind=1)) with hf26 | hf26
    ·replace h:=AW h hf26
     obtain ⟨ad,ae,af,V,h⟩:=ix CW h
     have hs:=Ae G hs
     have hs:=Ae hf26 hs
     have hs:=Ae V hs
     refine dl 20 1 1 [1,2,4,6,7,8,9,47] hs OJ J ?_
     clear J
     refine Cj h hs ?_ ?_<;>intro hs h
     ·refine rg [1,2,4,6,7,8] hs ?_
      refine sx [1,2,4,6,7,8] hs K ?_
      exact ⟨true,ad,_,([]),Rl19,ef hs,ef hs,t,ef hs,h⟩
     exact go (tg (a:=([1,2,4,6,7,8,9],[1,2,4,6,7,8,9],()))) h hs U E F i t trivial (q2 N (fun e s=>Vl19 ml19 e s (Nat.lt_succ_self _)))
    ·replace h:=AX h hf26
     exact go (tg (a:=([20,1,2,4,6,7,8,9,47],[1,2,4,6,7,8,9],[1,2,4,6,7,8,9],()))) h (Ae hf26 (Ae G hs)) U E F i t trivial (q3 J N (fun e s=>Vl19 ml19 e s (Nat.lt_succ_self _)))
   ·clear h;rintro e st ⟨l,c,p,Xk16,Rk16,rfl,rfl,t,D,h⟩
    rw [FM] at h
    refine Ba (B.length+2) (by first | rfl | (simp only [CG,BK,BJ,Bl];rfl)) D ?_;simp +decide only [go_sem,Nat.reduceAdd]
    show Em _ _ _ _ _ _ _ _ [(1,true,.list (a1.map AO) .none),(2,true,.box B.length 0),(4,true,.box (B.length+1) 0),(6,true,.box (B.length+2) 0),(7,true,Am f),(8,true,.val (.bool l))] ⟨B++([j.cs,[Am 0,.val (.string (⟨#[]⟩:ByteArray)),Am 0,Am 0,Am 0,Am 0,Am 0,.list ([]) .full,.list ([]) .full,.list ([]) .full,.list ([]) .full],Am c.1::(.val (.string c.2.1)::(Am c.2.2.1::((c.2.2.2.1.cs)++([.list (c.2.2.2.2.map BZ) .none]))))]++Xk16),Rk16,L⟩
    refine td U E F i t ?_
    apply Ap;intro K33 O
    refine rg [1,2,4,6,7,54] hs ?_
    refine Cj h hs ?_ ?_<;>intro hs h
    ·refine rg [4,5] hs ?_
     exact rt h hs i t
    refine sk [1,2,4,6,7] hs O ?_
    clear O
    refine rl [1,2,4,6,7] hs Y ?_
    exact ⟨c.2.2.2.1,c,_,_,([]),Rk16,ef hs,ef hs,t,ef hs,ef hs,h⟩
  ·clear h;rintro e st ⟨k,d,q,o,Xk12,Rk12,rfl,rfl,t,D,H,h⟩
   rw [NG] at h
   refine Ba B.length (by first | rfl | (simp only [CG,BK,BJ,Bl];rfl)) D ?_;simp +decide only [go_sem,Nat.reduceAdd]
   refine Ba (B.length+2) (by first | rfl | (simp only [CG,BK,BJ,Bl];rfl)) H ?_;simp +decide only [go_sem,Nat.reduceAdd]
   show Em _ _ _ _ _ _ _ _ [(1,true,.list (a1.map AO) .none),(2,true,.box B.length 0),(4,true,.box (B.length+1) 0),(6,true,.box (B.length+2) 0),(7,true,Am f)] ⟨B++([k.cs,[Am 0,.val (.string (⟨#[]⟩:ByteArray)),Am 0,Am 0,Am 0,Am 0,Am 0,.list ([]) .full,.list ([]) .full,.list ([]) .full,.list ([]) .full],Am d.1::(.val (.string d.2.1)::(Am d.2.2.1::((d.2.2.2.1.cs)++([.list (d.2.2.2.2.map BZ) .none]))))]++Xk12),Rk12,L⟩
   refine td U E F i t ?_
   obtain ⟨ai,h⟩:=Av h
   refine rl [1,2,4,6,7] hs (fun e s=>Vl7 ml7 e s (Nat.lt_succ_self _)) ?_
   exact ⟨(f+1),k,d,_,_,([]),Rk12,ef hs,ef hs,t,ef hs,ef hs,h⟩
 ·clear h;rintro e st ⟨y,g,C,v,Xk4,Rk4,rfl,rfl,t,D,H,h⟩
  rw [PT] at h
  refine Ba B.length (by first | rfl | (simp only [CG,BK,BJ,Bl];rfl)) D ?_;simp +decide only [go_sem,Nat.reduceAdd]
  refine Ba (B.length+2) (by first | rfl | (simp only [CG,BK,BJ,Bl];rfl)) H ?_;simp +decide only [go_sem,Nat.reduceAdd]
  show Em _ _ _ _ _ _ _ _ [(1,true,.list (a1.map AO) .none),(4,true,.box (B.length+1) 0),(6,true,.box (B.length+2) 0)] ⟨B++([y.cs,[Am 0,.val (.string (⟨#[]⟩:ByteArray)),Am 0,Am 0,Am 0,Am 0,Am 0,.list ([]) .full,.list ([]) .full,.list ([]) .full,.list ([]) .full],Am g.1::(.val (.string g.2.1)::(Am g.2.2.1::((g.2.2.2.1.cs)++([.list (g.2.2.2.2.map BZ) .none]))))]++Xk4),Rk4,L⟩
  refine td U E F i t ?_
  refine rg [4,5] hs ?_
  exact rt h hs i t
def MW (n:Nat)  (b:ByteArray):Option ByteArray :=
 some (b)
def FC (n:Nat) (y:List Part):Nat→ByteArray→Int→Option ByteArray
 | 0,_,_=>none
 | m+1,h,g =>
  if decide (g<(y.length:Int)) then
   (B6 y g).bind fun q =>
   if (([Part.mk 1 0 ((⟨#[97]⟩:ByteArray))]).length+1)*32≤140737488355328∧([Part.mk 1 0 ((⟨#[97]⟩:ByteArray))]).length+1≤4611686018427387904 then
    (J7 n (([Part.mk 1 0 ((⟨#[97]⟩:ByteArray))])++([q]))).bind fun b =>
    if 0≤(if (b.1.size:Int)<1 then (b.1.size:Int) else 1)∧(if (b.1.size:Int)<1 then (b.1.size:Int) else 1)≤(b.1.size:Int)∧(b.1.size:Int)≤(b.1.size:Int) then
     if h.size+(b.1.extract ((if (b.1.size:Int)<1 then (b.1.size:Int) else 1)).toNat b.1.size).size≤9223372036854775807 then
      if Bj (g+1) then
       (FC n y m) (h++(b.1.extract ((if (b.1.size:Int)<1 then (b.1.size:Int) else 1)).toNat b.1.size)) (g+1)
      else none
     else none
    else none
   else none
  else
   MW n h
def Gw (n:Nat) (b:ByteArray) (g:List Part):Option ByteArray :=
 FC n g n b 0
theorem Qe (w0:World) (hP:Pow10 w0) (n:Nat) (B:As) (Rw:Ax) (L:Aw) (a0:ByteArray) (a1:List Part) (r:ByteArray) (h:Gw n a0 a1=some r) :
  ACalls Tryz.prog w0 249 [.val (.string a0),.list (a1.map AO) .none] ⟨B,Rw,L⟩ fun x st=>x = .val (.string r)∧st=⟨B,Rw,L⟩:=by
 rw [Gw] at h
 refine hd [.tmp 4] Tryz.func249 Tryz.ntmps249 fun M0 W0 N w E d U i hs=>?_
 simp only [AB]
 refine rg [0,1] hs ?_
 refine AA (fun e st=>∃ (g:ByteArray),Ck e st B Rw L [(0,true,.val (.string g))] [] [] (MW n g=some r)) ?_ ?_
 ·intro K4 K
  refine rg [0,1,5] hs ?_
  apply Au
  refine AC (fun m e st=>∃ (b:ByteArray) (c:Int),Ck e st B Rw L [(0,true,.val (.string b)),(1,true,.list (a1.map AO) .none),(5,true,Am c)] [] [] (FC n a1 m b c=some r)) n ⟨a0,0,([]),Rw,ef hs,ef hs,i,h⟩ ?_
  rintro ml6 e st ⟨b,c,Xl6,Rl6,rfl,rfl,i,h⟩ Ul6 Vl6
  cases ml6 with
  | zero=>cases h
  | succ ml6 =>
  rw [FC] at h
  refine td N w E d i ?_
  apply Ap;intro K7 v
  refine rg [0,1,5,11] hs ?_
  refine Cj h hs ?_ ?_<;>intro hs h
  rotate_left
  ·refine sx [0] hs K ?_
   exact ⟨b,([]),Rl6,ef hs,ef hs,i,h⟩
  refine sk [0,1,5] hs v ?_
  clear v
  apply Ap;intro K10 o
  apply Au
  obtain ⟨H,C,h⟩:=bind_some h
  obtain ⟨G,F,t⟩:=Bt C
  have u:=Bv (f:=AO) t
  obtain ⟨l,h⟩:=Av h
  have i:=i.full 3 (([Part.mk 1 0 ((⟨#[97]⟩:ByteArray))]).length)
  obtain ⟨J,j,i,a⟩:=i.append (P:=Tryz.prog) YB (by rw [R7];rfl) (by decide) 1 l.1 l.2
  replace a:=fun (ys:List AV) B L o2=>a (([Part.mk 1 0 ((⟨#[97]⟩:ByteArray))]).map AO) ys B L o2 E0
  replace a:=fun (y:AV) B L o2=>a [y] B L o2 E0 (by simp +decide only [go_sem,Nat.reduceAdd])
  try simp only [List.mem_singleton,List.mem_cons,List.not_mem_nil,or_false,forall_eq_or_imp,forall_eq,List.map_append,List.map_cons,List.map_nil,Ge,Gi,F3,ES,EY,F7,Dn,D5,F2,CN,CM,Ej,D7,Ef,F4,Ee,FZ] at a
  obtain ⟨k,z,h⟩:=bind_some h
  have hs:=Ae u hs
  have hs:=Ae a hs
  refine rc 2 [0,1,5,6] hs ?_;intro K11 p
  refine Az _ (SG w0 hP n _ _ _ (([Part.mk 1 0 ((⟨#[97]⟩:ByteArray))])++([H])) _ z) (hv hs) ?_
  refine ne hs p ?_
  clear p
  obtain ⟨Q,h⟩:=Av h
  obtain ⟨D,h⟩:=Av h
  have q:=D
  try simp +decide only [go_sem] at q
  refine rl [0,1,5] hs o ?_
  clear o
  obtain ⟨O,h⟩:=Av h
  refine rl [0,1,5] hs (fun e s=>Vl6 ml6 e s (Nat.lt_succ_self _)) ?_
  exact ⟨(b++(k.1.extract ((if (k.1.size:Int)<1 then (k.1.size:Int) else 1)).toNat k.1.size)),(c+1),([]),j,ef hs,ef hs,(i).sub (List.sublist_append_left [] [(3,([Part.mk 1 0 ((⟨#[97]⟩:ByteArray))]).length+1,J)]),h⟩
 ·clear h;rintro e st ⟨g,Xk3,Rk3,rfl,rfl,i,h⟩
  rw [MW] at h
  refine td N w E d i ?_
  refine rg [4] hs ?_
  exact rt h hs d i
def EC (n:Nat)  : Option Bool :=
 some (false)
def BM (n:Nat) (h:Cpm) (z:List Part):Nat→Int→Option Bool
 | 0,_=>none
 | m+1,b =>
  if decide (b<(h.first.length:Int)) then
   (B6 h.first b).bind fun g =>
   (CZ n g.1).bind fun q =>
   (HY n q.1 z).bind fun y =>
   if y then
    some (true)
   else
    if Bj (b+1) then
     (BM n h z m) (b+1)
    else none
  else
   EC n 
def CJ (n:Nat) (b:Cpm) (g:List Part):Option Bool :=
 BM n b g n 0
theorem Gp (w0:World) (hE:Jl w0) (hM:Jh w0) (hP:Pow10 w0) (n:Nat) (B:As) (Rw:Ax) (L:Aw) (la0:Nat) (a0:Cpm) (hla0:B[la0]? = some (.list (a0.first.map AP) .none::((a0.mid.cs)++([.val (.bool a0.ok)])))) (a1:List Part) (r:Bool) (h:CJ n a0 a1=some r) :
  ACalls Tryz.prog w0 250 [.box la0 0,.list (a1.map AO) .none] ⟨B,Rw,L⟩ fun x st=>x = .val (.bool r)∧st=⟨B,Rw,L⟩:=by
 rw [CJ] at h
 refine hd [.tmp 4] Tryz.func250 Tryz.ntmps250 fun M0 W0 w g k c E d hs=>?_
 simp only [AB]
 have u:=(Ak.1 hla0).1
 have hs:=Ae (An hla0) hs
 refine rg [0,1] hs ?_
 refine AA (fun e st=>Ck e st B Rw L [] [] [] (EC n  = some r)) ?_ ?_
 ·intro K4 C
  refine rg [1,13,14,15] hs ?_
  apply Au
  refine AC (fun m e st=>∃ (b:Int),Ck e st B Rw L [(1,true,.list (a1.map AO) .none),(13,true,.list (a0.first.map AP) .none),(14,true,Am (a0.first.length:Int)),(15,true,Am b)] [] [] (BM n a0 a1 m b=some r)) n ⟨0,([]),Rw,ef hs,ef hs,d,h⟩ ?_
  rintro ml6 e st ⟨b,Xl6,Rl6,rfl,rfl,d,h⟩ Ul6 Vl6
  cases ml6 with
  | zero=>cases h
  | succ ml6 =>
  rw [BM] at h
  refine td w g k c d ?_
  refine rg [1,13,14,15,16] hs ?_
  apply Ap;intro K8 t
  refine Cj h hs ?_ ?_<;>intro hs h
  rotate_left
  ·refine sx [] hs C ?_
   exact ⟨([]),Rl6,ef hs,ef hs,d,h⟩
  refine sk [1,13,14,15] hs t ?_
  clear t
  apply Ap;intro K10 q
  apply Au
  obtain ⟨z,o,h⟩:=bind_some h
  obtain ⟨y,v,i⟩:=Bt o
  have j:=Bv (f:=AP) i
  have hs:=Ae j hs
  refine rg [1,6,13,14,15] hs ?_
  obtain ⟨D,p,h⟩:=bind_some h
  refine rc 2 [1,7,13,14,15] hs ?_;intro K13 l
  refine Az _ (GG w0 hE hM hP n _ _ _ z.1 _ p) (hv hs) ?_
  exact go (tg (a:=([1,13,14,15,27],([4],()),[1,13,14,15],[1,13,14,15],()))) h hs w g k c d (q1 (Ql w0 n)) (q3 l q (fun e s=>Vl6 ml6 e s (Nat.lt_succ_self _)))
 ·clear h;rintro e st ⟨Xk3,Rk3,rfl,rfl,d,h⟩
  rw [EC] at h
  refine td w g k c d ?_
  refine rg [4] hs ?_
  exact rt h hs c d
def Jq (rec:Ty→Option Bool) (n:Nat)  : Option Bool :=
 some (true)
def DV (rec:Ty→Option Bool) (n:Nat) (q:Ty):Nat→Int→Option Bool
 | 0,_=>none
 | m+1,b =>
  if decide (b<(q.fields.length:Int)) then
   (B6 q.fields b).bind fun g =>
   if decide (g.2.2.1=3) then
    some (false)
   else
    (rec g.2.2.2.1).bind fun h =>
    if !h then
     some (false)
    else
     if Bj (b+1) then
      (DV rec n q m) (b+1)
     else none
  else
   Jq rec n 
def Ik (rec:Ty→Option Bool) (n:Nat) (b:Ty):Option Bool :=
 DV rec n b n 0
def EH (rec:Ty→Option Bool) (n:Nat) (g:Ty):Nat→Int→Option Bool
 | 0,_=>none
 | m+1,b =>
  if decide (b<(g.elem.length:Int)) then
   (B6 g.elem b).bind fun h =>
   (rec h).bind fun q =>
   if !q then
    some (false)
   else
    if Bj (b+1) then
     (EH rec n g m) (b+1)
    else none
  else
   Ik rec n g 
def K0 (rec:Ty→Option Bool) (n:Nat) (b:Ty):Option Bool :=
 EH rec n b n 0
def Ce:Nat→Ty→Option Bool
 | 0,_=>none
 | n+1,b=>K0 (Ce n) n b
def NW (w0:World) (F:Ty→Option Bool):Prop:=∀ (B:As) (Rw:Ax) (L:Aw) (b:Ty) (r:Bool),F b=some r→ACalls Tryz.prog w0 248 [.agg (b.cs)] ⟨B,Rw,L⟩ fun x st=>x = .val (.bool r)∧st=⟨B,Rw,L⟩
theorem Uc (w0:World) (rec:Ty→Option Bool) (ih:NW w0 rec) (n:Nat):NW w0 (K0 rec n):=by
 intro B Rw L a0 r h
 rw [K0] at h
 refine hd [.tmp 2] Tryz.func248 Tryz.ntmps248 fun M0 W0 k i g b o f hs=>?_
 simp only [AB]
 refine rg [1] hs ?_
 refine AA (fun e st=>Ck e st B Rw L [(1,true,.box B.length 0)] [a0.cs] [] (Ik rec n a0  = some r)) ?_ ?_
 ·intro K4 l
  refine rg [1,3] hs ?_
  apply Au
  refine AC (fun m e st=>∃ (d:Int),Ck e st B Rw L [(1,true,.box B.length 0),(3,true,Am d)] [a0.cs] [] (EH rec n a0 m d=some r)) n ⟨0,([]),Rw,ef hs,ef hs,f,h⟩ ?_
  rintro ml6 e st ⟨d,Xl6,Rl6,rfl,rfl,f,h⟩ Ul6 Vl6
  cases ml6 with
  | zero=>cases h
  | succ ml6 =>
  rw [EH] at h
  exact go (tg (a:=([1,3,9],([1,3],[1,3,18],([2],()),[1,3],[1,3],()),[1],()))) h hs k i g b f (q1 ih) (q2 l (fun e s=>Vl6 ml6 e s (Nat.lt_succ_self _)))
 ·clear h;rintro e st ⟨Xk3,Rk3,rfl,rfl,f,h⟩
  rw [Ik] at h
  refine td k i g b f ?_
  refine AA (fun e st=>Ck e st B Rw L [] [a0.cs] [] (Jq rec n  = some r)) ?_ ?_
  ·intro K19 j
   refine rg [1,4] hs ?_
   apply Au
   refine AC (fun m e st=>∃ (c:Int),Ck e st B Rw L [(1,true,.box B.length 0),(4,true,Am c)] [a0.cs] [] (DV rec n a0 m c=some r)) n ⟨0,([]),Rk3,ef hs,ef hs,f,h⟩ ?_
   rintro ml21 e st ⟨c,Xl21,Rl21,rfl,rfl,f,h⟩ Ul21 Vl21
   cases ml21 with
   | zero=>cases h
   | succ ml21 =>
   rw [DV] at h
   exact go (tg (a:=([1,4,23],([1,4],([1,4,42],[2],()),[1,4,42],([2],()),[1,4],[1,4],()),[],()))) h hs k i g b f (q1 ih) (q2 j (fun e s=>Vl21 ml21 e s (Nat.lt_succ_self _)))
  ·clear h;rintro e st ⟨Xk18,Rk18,rfl,rfl,f,h⟩
   rw [Jq] at h
   refine td k i g b f ?_
   refine rg [2] hs ?_
   exact rt h hs b f
theorem P9 (w0:World):∀ n:Nat,NW w0 (Ce n)
 | 0=>fun _ _ _ _ _ h=>(nomatch h)
 | n+1=>Uc w0 (Ce n) (P9 w0 n) n
def CU (n:Nat) (b:Cpm) (b2_k106:Vl):Option (Ex × Bool × Cpm) :=
 some ((Ex.mk 1 0 (⟨#[]⟩:ByteArray) ([b2_k106]) ([]),true,b))
def CS (n:Nat) (b:Cpm) (b2_k129:Vl):Option (Ex × Bool × Cpm) :=
 some ((Ex.mk 1 0 (⟨#[]⟩:ByteArray) ([b2_k129]) ([]),true,b))
def Bg (n:Nat) (b:Cpm):Option (Ex × Bool × Cpm) :=
 some ((Ex.mk 0 0 (⟨#[]⟩:ByteArray) ([]) ([]),false,Cpm.mk b.first b.mid false))
def AU (n:Nat) (h:Cpm) (g:((List Part) × Int)):Nat→Int→Option (Ex × Bool × Cpm)
 | 0,_=>none
 | m+1,b =>
  if decide (b≤(((g.1.drop 1).length:Int))) then
   if 0≤0∧0≤b∧b≤((g.1.drop 1).length:Int) then
    (Na n h.mid ((g.1.drop 1).take b.toNat)).bind fun q =>
    if !q.2 then
     Bg n h 
    else
     if decide (q.1.2.2.1=2) then
      if 0≤0∧0≤b∧b≤((g.1.drop 1).length:Int) then
       (CJ n h ((g.1.drop 1).take b.toNat)).bind fun y92 =>
       if !y92 then
        Bg n h 
       else
        if !(decide (q.1.2.2.1=3)) then
         if Bj (b+1) then
          (AU n h g m) (b+1)
         else none
        else
         if 0≤0∧0≤b∧b≤((g.1.drop 1).length:Int) then
          (CJ n h ((g.1.drop 1).take b.toNat)).bind fun y100 =>
          if y100 then
           if Bj (b+1) then
            (AU n h g m) (b+1)
           else none
          else
           (B6 q.1.2.2.2.2 0).bind fun z =>
           if decide (b<(((g.1.drop 1).length:Int))) then
            if 0≤b∧b≤((g.1.drop 1).length:Int)∧((g.1.drop 1).length:Int)≤((g.1.drop 1).length:Int) then
             (NQ n z ((g.1.drop 1).drop b.toNat)).bind fun y112 =>
             if !(decide (y112.2=0)) then
              Bg n h 
             else
              CU n h y112.1
            else none
           else
            CU n h z
         else none
      else none
     else
      if !(decide (q.1.2.2.1=3)) then
       if Bj (b+1) then
        (AU n h g m) (b+1)
       else none
      else
       if 0≤0∧0≤b∧b≤((g.1.drop 1).length:Int) then
        (CJ n h ((g.1.drop 1).take b.toNat)).bind fun y123 =>
        if y123 then
         if Bj (b+1) then
          (AU n h g m) (b+1)
         else none
        else
         (B6 q.1.2.2.2.2 0).bind fun y =>
         if decide (b<(((g.1.drop 1).length:Int))) then
          if 0≤b∧b≤((g.1.drop 1).length:Int)∧((g.1.drop 1).length:Int)≤((g.1.drop 1).length:Int) then
           (NQ n y ((g.1.drop 1).drop b.toNat)).bind fun y135 =>
           if !(decide (y135.2=0)) then
            Bg n h 
           else
            CS n h y135.1
          else none
         else
          CS n h y
       else none
   else none
  else
   Bg n h 
def Dh (n:Nat) (b:Cpm) (g:((List Part) × Int)):Option (Ex × Bool × Cpm) :=
 AU n b g n 1
def A8 (n:Nat) (y:Cpm) (z:((List Part) × Int)):Nat→Int→Option (Ex × Bool × Cpm)
 | 0,_=>none
 | m+1,b =>
  if decide (b<(y.first.length:Int)) then
   (B6 y.first b).bind fun q =>
   (CZ n q.1).bind fun g =>
   if decide ((g.1.length:Int)=0) then
    if Bj (b+1) then
     (A8 n y z m) (b+1)
    else none
   else
    (HY n (z.1.drop 1) g.1).bind fun y34 =>
    if !y34 then
     if Bj (b+1) then
      (A8 n y z m) (b+1)
     else none
    else
     (Na n y.mid g.1).bind fun h =>
     if h.2 then
      (Ce n h.1.2.2.2.1).bind fun y43 =>
      if !y43 then
       some ((Ex.mk 0 0 (⟨#[]⟩:ByteArray) ([]) ([]),false,Cpm.mk y.first y.mid false))
      else
       if (decide ((g.1.length:Int)=(((z.1.drop 1).length:Int))))&&(h.2&&(decide (h.1.2.2.1=3))) then
        some ((Ex.mk 23 0 (⟨#[]⟩:ByteArray) ([]) ([q.2,Ex.mk 1 0 (⟨#[]⟩:ByteArray) h.1.2.2.2.2 ([])]),true,y))
       else
        if decide ((g.1.length:Int)=(((z.1.drop 1).length:Int))) then
         some ((q.2,decide (q.2.op=1),y))
        else
         if (!(decide (q.2.op=2)))||(h.2&&(decide (h.1.2.2.1=3))) then
          some ((Ex.mk 0 0 (⟨#[]⟩:ByteArray) ([]) ([]),false,Cpm.mk y.first y.mid false))
         else
          if 0≤(g.1.length:Int)∧(g.1.length:Int)≤((z.1.drop 1).length:Int)∧((z.1.drop 1).length:Int)≤((z.1.drop 1).length:Int) then
           (Gw n q.2.text ((z.1.drop 1).drop g.1.length)).bind fun y59 =>
           some ((Ex.mk 2 0 y59 ([]) ([]),false,y))
          else none
     else
      if (decide ((g.1.length:Int)=(((z.1.drop 1).length:Int))))&&(h.2&&(decide (h.1.2.2.1=3))) then
       some ((Ex.mk 23 0 (⟨#[]⟩:ByteArray) ([]) ([q.2,Ex.mk 1 0 (⟨#[]⟩:ByteArray) h.1.2.2.2.2 ([])]),true,y))
      else
       if decide ((g.1.length:Int)=(((z.1.drop 1).length:Int))) then
        some ((q.2,decide (q.2.op=1),y))
       else
        if (!(decide (q.2.op=2)))||(h.2&&(decide (h.1.2.2.1=3))) then
         some ((Ex.mk 0 0 (⟨#[]⟩:ByteArray) ([]) ([]),false,Cpm.mk y.first y.mid false))
        else
         if 0≤(g.1.length:Int)∧(g.1.length:Int)≤((z.1.drop 1).length:Int)∧((z.1.drop 1).length:Int)≤((z.1.drop 1).length:Int) then
          (Gw n q.2.text ((z.1.drop 1).drop g.1.length)).bind fun y73 =>
          some ((Ex.mk 2 0 y73 ([]) ([]),false,y))
         else none
  else
   Dh n y z 
def Bc (n:Nat) (h:Cpm) (q:ByteArray):Option (Ex × Bool × Cpm) :=
 (CZ n q).bind fun b =>
 if (!(decide (b.2=0)))||(decide ((b.1.length:Int)=0)) then
  some ((Ex.mk 0 0 (⟨#[]⟩:ByteArray) ([]) ([]),false,Cpm.mk h.first h.mid false))
 else
  (B6 b.1 0).bind fun g =>
  if !(decide (g.kind=1)&&(decide (g.index=0)&&(G5 g.name ((⟨#[98,111,100,121]⟩:ByteArray))))) then
   some ((Ex.mk 0 0 (⟨#[]⟩:ByteArray) ([]) ([]),false,Cpm.mk h.first h.mid false))
  else
   if 0≤1∧1≤(b.1.length:Int)∧(b.1.length:Int)≤(b.1.length:Int) then
    A8 n h b n 0
   else none
theorem HG (w0:World) (hE:Jl w0) (hM:Jh w0) (hP:Pow10 w0) (n:Nat) (B:As) (Rw:Ax) (L:Aw) (la0:Nat) (a0:Cpm) (hla0:B[la0]? = some (.list (a0.first.map AP) .none::((a0.mid.cs)++([.val (.bool a0.ok)])))) (a1:ByteArray) (r:Ex × Bool × Cpm) (h:Bc n a0 a1=some r) :
  ACalls Tryz.prog w0 169 [.box la0 0,.val (.string a1)] ⟨B,Rw,L⟩ fun x st=>x = .tup [.agg (r.1.cs),.val (.bool r.2.1)]∧st=⟨(B.set la0 (.list (r.2.2.first.map AP) .none::((r.2.2.mid.cs)++([.val (.bool r.2.2.ok)])))),Rw,L⟩:=by
 rw [Bc] at h
 refine hd [.cell 4 65,.tmp 5] Tryz.func169 Tryz.ntmps169 fun M0 W0 hN av au t hu O hs=>?_
 simp only [AB]
 have db:=(Ak.1 hla0).1
 apply Ap;intro K1 cx
 apply Ar 1 [0,1,4]
 rw [Aq];simp +decide only [go_sem,Nat.reduceAdd,An hla0,or_true,Ao hla0]
 (repeat' apply Ae)<;>first | refine cx _ _ ?_ | exact cl
 clear cx
 apply Ap;intro K2 cu
 obtain ⟨y3,dd,h⟩:=bind_some h
 apply Ar 2 [0,4,6,7]
 rw [Aq];simp +decide only [go_sem,Nat.reduceAdd,An hla0,or_true,Ao hla0]
 (repeat' apply Ae)<;>first | refine Az _ (GG w0 hE hM hP n _ _ _ a1 _ dd) (by first | rfl | (simp +decide only [go_sem,Nat.reduceAdd,An hla0,or_true,Ao hla0];done) | (simp +decide only [go_sem,Nat.reduceAdd,Vl.cs,Ty.cs,An hla0,or_true,Ao hla0];done)) ?_ | exact cl
 rw [Aq];simp +decide only [go_sem,Nat.reduceAdd,An hla0,or_true,Ao hla0]
 (repeat' apply Ae)<;>first | refine cu _ _ ?_ | exact cl
 clear cu
 apply Ap;intro K4 c7
 apply Ap;intro K5 bf
 rcases Bool.eq_false_or_eq_true ((!(decide (y3.2=0)))||(decide ((y3.1.length:Int)=0))) with hf6 | hf6
 ·replace h:=AW h hf6
  apply Ar 1 [0,4,6,38]
  rw [Aq];simp +decide only [go_sem,Nat.reduceAdd,An hla0,or_true,Ao hla0,hf6]
  (repeat' apply Ae)<;>first | refine bf _ _ ?_ | exact cl
  clear bf
  refine AL true ev (by simp +decide only [go_sem,Nat.reduceAdd,An hla0,or_true,Ao hla0,hf6]) (fun hb7=>?_) (fun hb7=>by cases hb7)
  apply Ap;intro K8 cy
  apply Ar 1 [4]
  rw [Aq];simp +decide only [go_sem,Nat.reduceAdd,An hla0,or_true,Ao hla0,hf6,Ty.cs_eqs a0.mid]
  (repeat' apply Ae)<;>first | refine cy _ _ ?_ | exact cl
  clear cy
  apply Ap;intro K9 c1
  apply Ar 1 [4,5]
  rw [Aq];simp +decide only [go_sem,Nat.reduceAdd,An hla0,or_true,Ao hla0,hf6,Ty.cs_eqs a0.mid]
  (repeat' apply Ae)<;>first | refine c1 _ _ ?_ | exact cl
  clear c1
  apply AN;simp +decide only [go_sem,Nat.reduceAdd,An hla0,or_true,Ao hla0,hf6,Ty.cs_eqs a0.mid]
  have hgt:=Option.some.inj h;subst hgt
  first | refine Br (A1 t ev) N9 O.pre ev ⟨?_,(by first | rfl | exact congrArg (fun z=>St.mk z Rw L) (Ao hla0).symm | (simp +decide only [go_sem,Nat.reduceAdd,An hla0,or_true,Ao hla0,hf6,Ty.cs_eqs a0.mid];done))⟩ | refine Ci (A1 t ev) N9 O.pre ev ⟨?_,(by first | rfl | exact congrArg (fun z=>St.mk z Rw L) (Ao hla0).symm | (simp +decide only [go_sem,Nat.reduceAdd,An hla0,or_true,Ao hla0,hf6,Ty.cs_eqs a0.mid];done))⟩
  first | rfl | (simp +decide only [go_sem,Nat.reduceAdd,An hla0,or_true,Ao hla0,hf6,Ty.cs_eqs a0.mid];done) | (simp +decide only [go_sem,Nat.reduceAdd,Vl.cs,Ty.cs,An hla0,or_true,Ao hla0,hf6,Ty.cs_eqs a0.mid];done)
 ·replace h:=AX h hf6
  obtain ⟨co,df,dw,b,h⟩:=ix AO h
  have c:(y3.1.map AO).getD 0 .junk=_:=b
  apply Ar 1 [0,4,6,38]
  rw [Aq];simp +decide only [go_sem,Nat.reduceAdd,An hla0,or_true,Ao hla0,hf6,b,c]
  (repeat' apply Ae)<;>first | refine bf _ _ ?_ | exact cl
  clear bf
  refine AL (!(decide (co.kind=1)&&(decide (co.index=0)&&(G5 co.name ((⟨#[98,111,100,121]⟩:ByteArray)))))) ev (by first | (simp +decide only [go_sem,Nat.reduceAdd,An hla0,or_true,Ao hla0,hf6,b,c];done) | (simp +decide only [go_sem,Nat.reduceAdd,An hla0,or_true,Ao hla0,hf6,b,c];rfl)) (fun d=>?_) (fun d=>?_)
  ·replace h:=AW h d
   apply Ap;intro K12 b2
   apply Ar 1 [4]
   rw [Aq];simp +decide only [go_sem,Nat.reduceAdd,An hla0,or_true,Ao hla0,hf6,b,c,d,Ty.cs_eqs a0.mid]
   (repeat' apply Ae)<;>first | refine b2 _ _ ?_ | exact cl
   clear b2
   apply Ap;intro K13 bt
   apply Ar 1 [4,5]
   rw [Aq];simp +decide only [go_sem,Nat.reduceAdd,An hla0,or_true,Ao hla0,hf6,b,c,d,Ty.cs_eqs a0.mid]
   (repeat' apply Ae)<;>first | refine bt _ _ ?_ | exact cl
   clear bt
   apply AN;simp +decide only [go_sem,Nat.reduceAdd,An hla0,or_true,Ao hla0,hf6,b,c,d,Ty.cs_eqs a0.mid]
   have hgt:=Option.some.inj h;subst hgt
   first | refine Br (A1 t ev) N9 O.pre ev ⟨?_,(by first | rfl | exact congrArg (fun z=>St.mk z Rw L) (Ao hla0).symm | (simp +decide only [go_sem,Nat.reduceAdd,An hla0,or_true,Ao hla0,hf6,b,c,d,Ty.cs_eqs a0.mid];done))⟩ | refine Ci (A1 t ev) N9 O.pre ev ⟨?_,(by first | rfl | exact congrArg (fun z=>St.mk z Rw L) (Ao hla0).symm | (simp +decide only [go_sem,Nat.reduceAdd,An hla0,or_true,Ao hla0,hf6,b,c,d,Ty.cs_eqs a0.mid];done))⟩
   first | rfl | (simp +decide only [go_sem,Nat.reduceAdd,An hla0,or_true,Ao hla0,hf6,b,c,d,Ty.cs_eqs a0.mid];done) | (simp +decide only [go_sem,Nat.reduceAdd,Vl.cs,Ty.cs,An hla0,or_true,Ao hla0,hf6,b,c,d,Ty.cs_eqs a0.mid];done)
  replace h:=AX h d
  refine sk [0,4,6] hs c7 ?_
  clear c7
  apply Ap;intro K14 b3
  obtain ⟨d6,h⟩:=Av h
  apply Ar 1 [0,4,8]
  rw [Aq];simp +decide only [go_sem,Nat.reduceAdd,An hla0,or_true,Ao hla0,hf6,b,c,d]
  (repeat' apply Ae)<;>first | refine b3 _ _ ?_ | exact cl
  clear b3
  refine AA (fun e st=>Ck e st B Rw L [(0,true,.box la0 0),(4,true,.box B.length 0),(8,true,.list ((y3.1.drop 1).map AO) .none)] [[Am 0,Am 0,.val (.string (⟨#[]⟩:ByteArray)),.list ([]) .full,.list ([]) .full]] [] (Dh n a0 y3  = some r)) ?_ ?_
  ·intro K18 c6
   apply Ap;intro K19 ca
   apply Ar 1 [0,4,8,49,50,51]
   rw [Aq];simp +decide only [go_sem,Nat.reduceAdd,An hla0,or_true,Ao hla0,hf6,b,c,d]
   (repeat' apply Ae)<;>first | refine ca _ _ ?_ | exact cl
   clear ca
   apply Au
   refine AC (fun m e st=>∃ (Q:Int),Ck e st B Rw L [(0,true,.box la0 0),(4,true,.box B.length 0),(8,true,.list ((y3.1.drop 1).map AO) .none),(49,true,.list (a0.first.map AP) .none),(50,true,Am (a0.first.length:Int)),(51,true,Am Q)] [[Am 0,Am 0,.val (.string (⟨#[]⟩:ByteArray)),.list ([]) .full,.list ([]) .full]] [] (A8 n a0 y3 m Q=some r)) n ⟨0,([]),Rw,by first | rfl | (simp +decide only [go_sem,Nat.reduceAdd,An hla0,or_true,Ao hla0,hf6,b,c,d];done),by first | rfl | (simp +decide only [go_sem,Nat.reduceAdd,An hla0,or_true,Ao hla0,hf6,b,c,d];done),O,h⟩ ?_
   rintro ml20 e st ⟨Q,Xl20,Rl20,rfl,rfl,O,h⟩ Ul20 Vl20
   cases ml20 with
   | zero=>cases h
   | succ ml20 =>
   rw [A8] at h
   refine td hN av au t O ?_
   apply Ap;intro K21 bv
   apply Ar 1 [0,4,8,49,50,51,52]
   rw [Aq];simp +decide only [go_sem,Nat.reduceAdd,An hla0,or_true,Ao hla0,hf6,b,c,d]
   (repeat' apply Ae)<;>first | refine bv _ _ ?_ | exact cl
   clear bv
   apply Ap;intro K22 b7
   refine AL (decide (Q<(a0.first.length:Int))) ev (by first | (simp +decide only [go_sem,Nat.reduceAdd,An hla0,or_true,Ao hla0,hf6,b,c,d];done) | (simp +decide only [go_sem,Nat.reduceAdd,An hla0,or_true,Ao hla0,hf6,b,c,d];rfl)) (fun g=>?_) (fun g=>?_)
   rotate_left
   ·replace h:=AX h g
    refine sx [0,4,8] hs c6 ?_
    exact ⟨([]),Rl20,by first | rfl | (simp +decide only [go_sem,Nat.reduceAdd,An hla0,or_true,Ao hla0,hf6,b,c,d,g];done),by first | rfl | (simp +decide only [go_sem,Nat.reduceAdd,An hla0,or_true,Ao hla0,hf6,b,c,d,g];done),O,h⟩
   replace h:=AW h g
   refine sk [0,4,8,49,50,51] hs b7 ?_
   clear b7
   apply Ap;intro K24 ap
   apply Au
   apply Ap;intro K25 bj
   obtain ⟨ad,dp,dt,f,h⟩:=ix AP h
   apply Ar 1 [0,4,8,10,49,50,51]
   rw [Aq];simp +decide only [go_sem,Nat.reduceAdd,An hla0,or_true,Ao hla0,hf6,b,c,d,g,f]
   (repeat' apply Ae)<;>first | refine bj _ _ ?_ | exact cl
   clear bj
   apply Ap;intro K27 bp
   obtain ⟨ah,cp,h⟩:=bind_some h
   apply Ar 2 [0,4,8,10,11,49,50,51]
   rw [Aq];simp +decide only [go_sem,Nat.reduceAdd,An hla0,or_true,Ao hla0,hf6,b,c,d,g,f]
   (repeat' apply Ae)<;>first | refine Az _ (GG w0 hE hM hP n _ _ _ ad.1 _ cp) (by first | rfl | (simp +decide only [go_sem,Nat.reduceAdd,An hla0,or_true,Ao hla0,hf6,b,c,d,g,f];done) | (simp +decide only [go_sem,Nat.reduceAdd,Vl.cs,Ty.cs,An hla0,or_true,Ao hla0,hf6,b,c,d,g,f];done)) ?_ | exact cl
   rw [Aq];simp +decide only [go_sem,Nat.reduceAdd,An hla0,or_true,Ao hla0,hf6,b,c,d,g,f]
   (repeat' apply Ae)<;>first | refine bp _ _ ?_ | exact cl
   clear bp
   apply Ap;intro K29 bz
   apply Ap;intro K30 ak
   rcases Bool.eq_false_or_eq_true (decide ((ah.1.length:Int)=0)) with hf31 | hf31
   ·replace h:=AW h hf31
    apply Ar 2 [0,4,8,10,11,49,50,51,69]
    rw [Aq];simp +decide only [go_sem,Nat.reduceAdd,An hla0,or_true,Ao hla0,hf6,b,c,d,g,f,hf31]
    (repeat' apply Ae)<;>first | refine Dq ?_ | exact cl
    rw [Aq];simp +decide only [go_sem,Nat.reduceAdd,An hla0,or_true,Ao hla0,hf6,b,c,d,g,f,hf31]
    (repeat' apply Ae)<;>first | refine ak _ _ ?_ | exact cl
    clear ak
    refine AL true ev (by simp +decide only [go_sem,Nat.reduceAdd,An hla0,or_true,Ao hla0,hf6,b,c,d,g,f,hf31]) (fun hb32=>?_) (fun hb32=>by cases hb32)
    refine sx [0,4,8,49,50,51] hs ap ?_
    clear ap
    obtain ⟨d0,h⟩:=Av h
    apply Ar 1 [0,4,8,49,50,51]
    rw [Aq];simp +decide only [go_sem,Nat.reduceAdd,An hla0,or_true,Ao hla0,hf6,b,c,d,g,f,hf31]
    (repeat' apply Ae)<;>first | refine Vl20 ml20 _ _ (Nat.lt_succ_self ml20) ⟨(Q+1),([.val (.string ad.1)::(ad.2.cs)]),Rl20,by first | rfl | (simp +decide only [go_sem,Nat.reduceAdd,An hla0,or_true,Ao hla0,hf6,b,c,d,g,f,hf31];done),by first | rfl | (simp +decide only [go_sem,Nat.reduceAdd,An hla0,or_true,Ao hla0,hf6,b,c,d,g,f,hf31];done),O,h⟩ | exact cl
   ·replace h:=AX h hf31
    obtain ⟨dr,cw,h⟩:=bind_some h
    apply Ar 2 [0,4,8,10,11,49,50,51,69]
    rw [Aq];simp +decide only [go_sem,Nat.reduceAdd,An hla0,or_true,Ao hla0,hf6,b,c,d,g,f,hf31]
    (repeat' apply Ae)<;>first | refine Az _ (Ql w0 n _ _ _ (y3.1.drop 1) ah.1 _ cw) (by first | rfl | (simp +decide only [go_sem,Nat.reduceAdd,An hla0,or_true,Ao hla0,hf6,b,c,d,g,f,hf31];done) | (simp +decide only [go_sem,Nat.reduceAdd,Vl.cs,Ty.cs,An hla0,or_true,Ao hla0,hf6,b,c,d,g,f,hf31];done)) ?_ | exact cl
    rw [Aq];simp +decide only [go_sem,Nat.reduceAdd,An hla0,or_true,Ao hla0,hf6,b,c,d,g,f,hf31]
    (repeat' apply Ae)<;>first | refine ak _ _ ?_ | exact cl
    clear ak
    refine AL (!dr) ev (by first | (simp +decide only [go_sem,Nat.reduceAdd,An hla0,or_true,Ao hla0,hf6,b,c,d,g,f,hf31];done) | (simp +decide only [go_sem,Nat.reduceAdd,An hla0,or_true,Ao hla0,hf6,b,c,d,g,f,hf31];rfl)) (fun j=>?_) (fun j=>?_)
    ·replace h:=AW h j
     refine sx [0,4,8,49,50,51] hs ap ?_
     clear ap
     obtain ⟨d3,h⟩:=Av h
     apply Ar 1 [0,4,8,49,50,51]
     rw [Aq];simp +decide only [go_sem,Nat.reduceAdd,An hla0,or_true,Ao hla0,hf6,b,c,d,g,f,hf31,j]
     (repeat' apply Ae)<;>first | refine Vl20 ml20 _ _ (Nat.lt_succ_self ml20) ⟨(Q+1),([.val (.string ad.1)::(ad.2.cs)]),Rl20,by first | rfl | (simp +decide only [go_sem,Nat.reduceAdd,An hla0,or_true,Ao hla0,hf6,b,c,d,g,f,hf31,j];done),by first | rfl | (simp +decide only [go_sem,Nat.reduceAdd,An hla0,or_true,Ao hla0,hf6,b,c,d,g,f,hf31,j];done),O,h⟩ | exact cl
    replace h:=AX h j
    refine sk [0,4,8,10,11] hs bz ?_
    clear bz
    apply Ap;intro K37 bs
    obtain ⟨U,c5,h⟩:=bind_some h
    apply Ar 2 [0,4,8,10,11,13,14]
    rw [Aq];simp +decide only [go_sem,Nat.reduceAdd,An hla0,or_true,Ao hla0,hf6,b,c,d,g,f,hf31,j]
    (repeat' apply Ae)<;>first | refine Az _ (WW w0 n _ _ _ a0.mid ah.1 _ c5) (by first | rfl | (simp +decide only [go_sem,Nat.reduceAdd,An hla0,or_true,Ao hla0,hf6,b,c,d,g,f,hf31,j];done) | (simp +decide only [go_sem,Nat.reduceAdd,Vl.cs,Ty.cs,An hla0,or_true,Ao hla0,hf6,b,c,d,g,f,hf31,j];done)) ?_ | exact cl
    rw [Aq];simp +decide only [go_sem,Nat.reduceAdd,An hla0,or_true,Ao hla0,hf6,b,c,d,g,f,hf31,j]
    (repeat' apply Ae)<;>first | refine bs _ _ ?_ | exact cl
    clear bs
    apply Ap;intro K39 b1
    apply Ar 1 [0,4,8,10,11,13,14,15]
    rw [Aq];simp +decide only [go_sem,Nat.reduceAdd,An hla0,or_true,Ao hla0,hf6,b,c,d,g,f,hf31,j]
    (repeat' apply Ae)<;>first | refine b1 _ _ ?_ | exact cl
    clear b1
    apply Ap;intro K40 am
    apply Au
    apply Ap;intro K41 ar
    rcases Bool.eq_false_or_eq_true (U.2) with hf42 | hf42
    ·replace h:=AW h hf42
     obtain ⟨dv,c3,h⟩:=bind_some h
     apply Ar 2 [0,4,8,10,11,13,15,85]
     rw [Aq];simp +decide only [go_sem,Nat.reduceAdd,An hla0,or_true,Ao hla0,hf6,b,c,d,g,f,hf31,j,hf42]
     (repeat' apply Ae)<;>first | refine Az _ (P9 w0 n _ _ _ U.1.2.2.2.1 _ c3) (by first | rfl | (simp +decide only [go_sem,Nat.reduceAdd,An hla0,or_true,Ao hla0,hf6,b,c,d,g,f,hf31,j,hf42];done) | (simp +decide only [go_sem,Nat.reduceAdd,Vl.cs,Ty.cs,An hla0,or_true,Ao hla0,hf6,b,c,d,g,f,hf31,j,hf42];done)) ?_ | exact cl
     rw [Aq];simp +decide only [go_sem,Nat.reduceAdd,An hla0,or_true,Ao hla0,hf6,b,c,d,g,f,hf31,j,hf42]
     (repeat' apply Ae)<;>first | refine ar _ _ ?_ | exact cl
     clear ar
     refine AL (!dv) ev (by first | (simp +decide only [go_sem,Nat.reduceAdd,An hla0,or_true,Ao hla0,hf6,b,c,d,g,f,hf31,j,hf42];done) | (simp +decide only [go_sem,Nat.reduceAdd,An hla0,or_true,Ao hla0,hf6,b,c,d,g,f,hf31,j,hf42];rfl)) (fun l=>?_) (fun l=>?_)
     ·replace h:=AW h l
      apply Ap;intro K45 bq
      apply Ar 1 [4]
      rw [Aq];simp +decide only [go_sem,Nat.reduceAdd,An hla0,or_true,Ao hla0,hf6,b,c,d,g,f,hf31,j,hf42,l,Ty.cs_eqs a0.mid]
      (repeat' apply Ae)<;>first | refine bq _ _ ?_ | exact cl
      clear bq
      apply Ap;intro K46 bi
      apply Ar 1 [4,5]
      rw [Aq];simp +decide only [go_sem,Nat.reduceAdd,An hla0,or_true,Ao hla0,hf6,b,c,d,g,f,hf31,j,hf42,l,Ty.cs_eqs a0.mid]
      (repeat' apply Ae)<;>first | refine bi _ _ ?_ | exact cl
      clear bi
      apply AN;simp +decide only [go_sem,Nat.reduceAdd,An hla0,or_true,Ao hla0,hf6,b,c,d,g,f,hf31,j,hf42,l,Ty.cs_eqs a0.mid]
      have hgt:=Option.some.inj h;subst hgt
      first | refine Br (A1 t ev) N9 O.pre ev ⟨?_,(by first | rfl | exact congrArg (fun z=>St.mk z Rw L) (Ao hla0).symm | (simp +decide only [go_sem,Nat.reduceAdd,An hla0,or_true,Ao hla0,hf6,b,c,d,g,f,hf31,j,hf42,l,Ty.cs_eqs a0.mid];done))⟩ | refine Ci (A1 t ev) N9 O.pre ev ⟨?_,(by first | rfl | exact congrArg (fun z=>St.mk z Rw L) (Ao hla0).symm | (simp +decide only [go_sem,Nat.reduceAdd,An hla0,or_true,Ao hla0,hf6,b,c,d,g,f,hf31,j,hf42,l,Ty.cs_eqs a0.mid];done))⟩
      first | rfl | (simp +decide only [go_sem,Nat.reduceAdd,An hla0,or_true,Ao hla0,hf6,b,c,d,g,f,hf31,j,hf42,l,Ty.cs_eqs a0.mid];done) | (simp +decide only [go_sem,Nat.reduceAdd,Vl.cs,Ty.cs,An hla0,or_true,Ao hla0,hf6,b,c,d,g,f,hf31,j,hf42,l,Ty.cs_eqs a0.mid];done)
     replace h:=AX h l
     apply Ap;intro K47 bh
     apply Ar 1 [0,4,8,10,11,13,15,97]
     rw [Aq];simp +decide only [go_sem,Nat.reduceAdd,An hla0,or_true,Ao hla0,hf6,b,c,d,g,f,hf31,j,hf42,l]
     (repeat' apply Ae)<;>first | refine bh _ _ ?_ | exact cl
     clear bh
     refine AL ((decide ((ah.1.length:Int)=(((y3.1.drop 1).length:Int))))&&(U.2&&(decide (U.1.2.2.1=3)))) ev (by first | (simp +decide only [go_sem,Nat.reduceAdd,An hla0,or_true,Ao hla0,hf6,b,c,d,g,f,hf31,j,hf42,l];done) | (simp +decide only [go_sem,Nat.reduceAdd,An hla0,or_true,Ao hla0,hf6,b,c,d,g,f,hf31,j,hf42,l];rfl)) (fun D=>?_) (fun D=>?_)
     ·replace h:=AW h D
      apply Ap;intro K49 bx
      apply Ar 1 [4,5]
      rw [Aq];simp +decide only [go_sem,Nat.reduceAdd,An hla0,or_true,Ao hla0,hf6,b,c,d,g,f,hf31,j,hf42,l,D]
      (repeat' apply Ae)<;>first | refine bx _ _ ?_ | exact cl
      clear bx
      apply AN;simp +decide only [go_sem,Nat.reduceAdd,An hla0,or_true,Ao hla0,hf6,b,c,d,g,f,hf31,j,hf42,l,D]
      have hgt:=Option.some.inj h;subst hgt
      first | refine Br t rfl O.pre ev ⟨?_,(by first | rfl | exact congrArg (fun z=>St.mk z Rw L) (Ao hla0).symm | (simp +decide only [go_sem,Nat.reduceAdd,An hla0,or_true,Ao hla0,hf6,b,c,d,g,f,hf31,j,hf42,l,D];done))⟩ | refine Ci t rfl O.pre ev ⟨?_,(by first | rfl | exact congrArg (fun z=>St.mk z Rw L) (Ao hla0).symm | (simp +decide only [go_sem,Nat.reduceAdd,An hla0,or_true,Ao hla0,hf6,b,c,d,g,f,hf31,j,hf42,l,D];done))⟩
      first | rfl | (simp +decide only [go_sem,Nat.reduceAdd,An hla0,or_true,Ao hla0,hf6,b,c,d,g,f,hf31,j,hf42,l,D];done) | (simp +decide only [go_sem,Nat.reduceAdd,Vl.cs,Ty.cs,An hla0,or_true,Ao hla0,hf6,b,c,d,g,f,hf31,j,hf42,l,D];done)
     replace h:=AX h D
     apply Ap;intro K50 bn
     apply Ar 1 [0,4,8,10,11,15,113]
     rw [Aq];simp +decide only [go_sem,Nat.reduceAdd,An hla0,or_true,Ao hla0,hf6,b,c,d,g,f,hf31,j,hf42,l,D]
     (repeat' apply Ae)<;>first | refine bn _ _ ?_ | exact cl
     clear bn
     refine AL (decide ((ah.1.length:Int)=(((y3.1.drop 1).length:Int)))) ev (by first | (simp +decide only [go_sem,Nat.reduceAdd,An hla0,or_true,Ao hla0,hf6,b,c,d,g,f,hf31,j,hf42,l,D];done) | (simp +decide only [go_sem,Nat.reduceAdd,An hla0,or_true,Ao hla0,hf6,b,c,d,g,f,hf31,j,hf42,l,D];rfl)) (fun F=>?_) (fun F=>?_)
     ·replace h:=AW h F
      apply Ap;intro K52 bo
      apply Gt OJ [6] [4,5] kr (fun s=>∃ (X:As) (rows:Ax) (c0:List AV),s=⟨B++([c0,.val (.string ad.1)::(ad.2.cs),Am U.1.1::(.val (.string U.1.2.1)::(Am U.1.2.2.1::((U.1.2.2.2.1.cs)++([.list (U.1.2.2.2.2.map BZ) .none]))))]++X),rows,L⟩) 2 (B.length+3)
      ·simp +decide only [go_sem,Nat.reduceAdd]
      ·rintro s ⟨X,rows,c0,rfl⟩
       refine ⟨1,?_⟩
       rw [Aq];simp +decide only [go_sem,Nat.reduceAdd,Dw,An hla0,or_true,Ao hla0,hf6,b,c,d,g,f,hf31,j,hf42,l,D,F]
       (repeat' apply Ae)<;>first | rfl | exact cl
      ·exact gd (tg (a:=(6,[4,5]))) (Ae hf42 (Ae hf31 (Ae f (Ae c (Ae b (Ae hf6 (Ae (Ao hla0) (Ae or_true (Ae (An hla0) hs)))))))))
      simp +decide only [go_sem,Nat.reduceAdd,An hla0,or_true,Ao hla0,hf6,b,c,d,g,f,hf31,j,hf42,l,D,F]
      (repeat' apply Ae)<;>first | refine bo _ _ ?_ | exact cl
      clear bo
      apply AN;simp +decide only [go_sem,Nat.reduceAdd,An hla0,or_true,Ao hla0,hf6,b,c,d,g,f,hf31,j,hf42,l,D,F]
      have hgt:=Option.some.inj h;subst hgt
      first | refine Br t rfl O.pre ev ⟨?_,(by first | rfl | exact congrArg (fun z=>St.mk z Rw L) (Ao hla0).symm | (simp +decide only [go_sem,Nat.reduceAdd,An hla0,or_true,Ao hla0,hf6,b,c,d,g,f,hf31,j,hf42,l,D,F];done))⟩ | refine Ci t rfl O.pre ev ⟨?_,(by first | rfl | exact congrArg (fun z=>St.mk z Rw L) (Ao hla0).symm | (simp +decide only [go_sem,Nat.reduceAdd,An hla0,or_true,Ao hla0,hf6,b,c,d,g,f,hf31,j,hf42,l,D,F];done))⟩
      first | rfl | (simp +decide only [go_sem,Nat.reduceAdd,An hla0,or_true,Ao hla0,hf6,b,c,d,g,f,hf31,j,hf42,l,D,F];done) | (simp +decide only [go_sem,Nat.reduceAdd,Vl.cs,Ty.cs,An hla0,or_true,Ao hla0,hf6,b,c,d,g,f,hf31,j,hf42,l,D,F];done)
     replace h:=AX h F
     apply Ap;intro K53 cb
     apply Ar 1 [0,4,8,10,11,125]
     rw [Aq];simp +decide only [go_sem,Nat.reduceAdd,An hla0,or_true,Ao hla0,hf6,b,c,d,g,f,hf31,j,hf42,l,D,F]
     (repeat' apply Ae)<;>first | refine cb _ _ ?_ | exact cl
     clear cb
     refine AL ((!(decide (ad.2.op=2)))||(U.2&&(decide (U.1.2.2.1=3)))) ev (by first | (simp +decide only [go_sem,Nat.reduceAdd,An hla0,or_true,Ao hla0,hf6,b,c,d,g,f,hf31,j,hf42,l,D,F];done) | (simp +decide only [go_sem,Nat.reduceAdd,An hla0,or_true,Ao hla0,hf6,b,c,d,g,f,hf31,j,hf42,l,D,F];rfl)) (fun K=>?_) (fun K=>?_)
     ·replace h:=AW h K
      apply Ap;intro K55 bl
      apply Ar 1 [4]
      rw [Aq];simp +decide only [go_sem,Nat.reduceAdd,An hla0,or_true,Ao hla0,hf6,b,c,d,g,f,hf31,j,hf42,l,D,F,K,Ty.cs_eqs a0.mid]
      (repeat' apply Ae)<;>first | refine bl _ _ ?_ | exact cl
      clear bl
      apply Ap;intro K56 cf
      apply Ar 1 [4,5]
      rw [Aq];simp +decide only [go_sem,Nat.reduceAdd,An hla0,or_true,Ao hla0,hf6,b,c,d,g,f,hf31,j,hf42,l,D,F,K,Ty.cs_eqs a0.mid]
      (repeat' apply Ae)<;>first | refine cf _ _ ?_ | exact cl
      clear cf
      apply AN;simp +decide only [go_sem,Nat.reduceAdd,An hla0,or_true,Ao hla0,hf6,b,c,d,g,f,hf31,j,hf42,l,D,F,K,Ty.cs_eqs a0.mid]
      have hgt:=Option.some.inj h;subst hgt
      first | refine Br (A1 t ev) N9 O.pre ev ⟨?_,(by first | rfl | exact congrArg (fun z=>St.mk z Rw L) (Ao hla0).symm | (simp +decide only [go_sem,Nat.reduceAdd,An hla0,or_true,Ao hla0,hf6,b,c,d,g,f,hf31,j,hf42,l,D,F,K,Ty.cs_eqs a0.mid];done))⟩ | refine Ci (A1 t ev) N9 O.pre ev ⟨?_,(by first | rfl | exact congrArg (fun z=>St.mk z Rw L) (Ao hla0).symm | (simp +decide only [go_sem,Nat.reduceAdd,An hla0,or_true,Ao hla0,hf6,b,c,d,g,f,hf31,j,hf42,l,D,F,K,Ty.cs_eqs a0.mid];done))⟩
      first | rfl | (simp +decide only [go_sem,Nat.reduceAdd,An hla0,or_true,Ao hla0,hf6,b,c,d,g,f,hf31,j,hf42,l,D,F,K,Ty.cs_eqs a0.mid];done) | (simp +decide only [go_sem,Nat.reduceAdd,Vl.cs,Ty.cs,An hla0,or_true,Ao hla0,hf6,b,c,d,g,f,hf31,j,hf42,l,D,F,K,Ty.cs_eqs a0.mid];done)
     replace h:=AX h K
     refine sk [4,8,10,11] hs am ?_
     clear am
     apply Ap;intro K57 bw
     obtain ⟨dy,h⟩:=Av h
     obtain ⟨d7,cr,h⟩:=bind_some h
     apply Pl OJ 9 2 1 [4,5] kr
     rw [Aq];simp +decide only [go_sem,Nat.reduceAdd,An hla0,or_true,Ao hla0,hf6,b,c,d,g,f,hf31,j,hf42,l,D,F,K]
     (repeat' apply Ae)<;>first | refine Az _ (Qe w0 hP n _ _ _ ad.2.text ((y3.1.drop 1).drop ah.1.length) _ cr) (by first | rfl | (simp +decide only [go_sem,Nat.reduceAdd,An hla0,or_true,Ao hla0,hf6,b,c,d,g,f,hf31,j,hf42,l,D,F,K];done) | (simp +decide only [go_sem,Nat.reduceAdd,Vl.cs,Ty.cs,An hla0,or_true,Ao hla0,hf6,b,c,d,g,f,hf31,j,hf42,l,D,F,K];done)) ?_ | exact cl
     rw [Aq];simp +decide only [go_sem,Nat.reduceAdd,An hla0,or_true,Ao hla0,hf6,b,c,d,g,f,hf31,j,hf42,l,D,F,K]
     (repeat' with_reducible apply Ae)<;>first | (rw [Aq];simp +decide only [go_sem,Nat.reduceAdd,An hla0,or_true,Ao hla0,hf6,b,c,d,g,f,hf31,j,hf42,l,D,F,K]) | exact cl
     (repeat' apply Ae)<;>first | refine bw _ _ ?_ | exact cl
     clear bw
     apply AN;simp +decide only [go_sem,Nat.reduceAdd,An hla0,or_true,Ao hla0,hf6,b,c,d,g,f,hf31,j,hf42,l,D,F,K]
     have hgt:=Option.some.inj h;subst hgt
     first | refine Br t rfl O.pre ev ⟨?_,(by first | rfl | exact congrArg (fun z=>St.mk z Rw L) (Ao hla0).symm | (simp +decide only [go_sem,Nat.reduceAdd,An hla0,or_true,Ao hla0,hf6,b,c,d,g,f,hf31,j,hf42,l,D,F,K];done))⟩ | refine Ci t rfl O.pre ev ⟨?_,(by first | rfl | exact congrArg (fun z=>St.mk z Rw L) (Ao hla0).symm | (simp +decide only [go_sem,Nat.reduceAdd,An hla0,or_true,Ao hla0,hf6,b,c,d,g,f,hf31,j,hf42,l,D,F,K];done))⟩
     first | rfl | (simp +decide only [go_sem,Nat.reduceAdd,An hla0,or_true,Ao hla0,hf6,b,c,d,g,f,hf31,j,hf42,l,D,F,K];done) | (simp +decide only [go_sem,Nat.reduceAdd,Vl.cs,Ty.cs,An hla0,or_true,Ao hla0,hf6,b,c,d,g,f,hf31,j,hf42,l,D,F,K];done)
    ·replace h:=AX h hf42
     apply Ar 2 [0,4,8,10,11,13,15,85]
     rw [Aq];simp +decide only [go_sem,Nat.reduceAdd,An hla0,or_true,Ao hla0,hf6,b,c,d,g,f,hf31,j,hf42]
     (repeat' apply Ae)<;>first | refine Dq ?_ | exact cl
     rw [Aq];simp +decide only [go_sem,Nat.reduceAdd,An hla0,or_true,Ao hla0,hf6,b,c,d,g,f,hf31,j,hf42]
     (repeat' apply Ae)<;>first | refine ar _ _ ?_ | exact cl
     clear ar
     refine AL false ev (by simp +decide only [go_sem,Nat.reduceAdd,An hla0,or_true,Ao hla0,hf6,b,c,d,g,f,hf31,j,hf42]) (fun hb60=>by cases hb60) (fun hb60=>?_)
     apply Ap;intro K61 bm
     apply Ar 1 [0,4,8,10,11,13,15,97]
     rw [Aq];simp +decide only [go_sem,Nat.reduceAdd,An hla0,or_true,Ao hla0,hf6,b,c,d,g,f,hf31,j,hf42]
     (repeat' apply Ae)<;>first | refine bm _ _ ?_ | exact cl
     clear bm
     refine AL ((decide ((ah.1.length:Int)=(((y3.1.drop 1).length:Int))))&&(U.2&&(decide (U.1.2.2.1=3)))) ev (by first | (simp +decide only [go_sem,Nat.reduceAdd,An hla0,or_true,Ao hla0,hf6,b,c,d,g,f,hf31,j,hf42];done) | (simp +decide only [go_sem,Nat.reduceAdd,An hla0,or_true,Ao hla0,hf6,b,c,d,g,f,hf31,j,hf42];rfl)) (fun C=>?_) (fun C=>?_)
     ·replace h:=AW h C
      apply Ap;intro K63 b6
      apply Ar 1 [4,5]
      rw [Aq];simp +decide only [go_sem,Nat.reduceAdd,An hla0,or_true,Ao hla0,hf6,b,c,d,g,f,hf31,j,hf42,C]
      (repeat' apply Ae)<;>first | refine b6 _ _ ?_ | exact cl
      clear b6
      apply AN;simp +decide only [go_sem,Nat.reduceAdd,An hla0,or_true,Ao hla0,hf6,b,c,d,g,f,hf31,j,hf42,C]
      have hgt:=Option.some.inj h;subst hgt
      first | refine Br t rfl O.pre ev ⟨?_,(by first | rfl | exact congrArg (fun z=>St.mk z Rw L) (Ao hla0).symm | (simp +decide only [go_sem,Nat.reduceAdd,An hla0,or_true,Ao hla0,hf6,b,c,d,g,f,hf31,j,hf42,C];done))⟩ | refine Ci t rfl O.pre ev ⟨?_,(by first | rfl | exact congrArg (fun z=>St.mk z Rw L) (Ao hla0).symm | (simp +decide only [go_sem,Nat.reduceAdd,An hla0,or_true,Ao hla0,hf6,b,c,d,g,f,hf31,j,hf42,C];done))⟩
      first | rfl | (simp +decide only [go_sem,Nat.reduceAdd,An hla0,or_true,Ao hla0,hf6,b,c,d,g,f,hf31,j,hf42,C];done) | (simp +decide only [go_sem,Nat.reduceAdd,Vl.cs,Ty.cs,An hla0,or_true,Ao hla0,hf6,b,c,d,g,f,hf31,j,hf42,C];done)
     replace h:=AX h C
     apply Ap;intro K64 b0
     apply Ar 1 [0,4,8,10,11,15,113]
     rw [Aq];simp +decide only [go_sem,Nat.reduceAdd,An hla0,or_true,Ao hla0,hf6,b,c,d,g,f,hf31,j,hf42,C]
     (repeat' apply Ae)<;>first | refine b0 _ _ ?_ | exact cl
     clear b0
     refine AL (decide ((ah.1.length:Int)=(((y3.1.drop 1).length:Int)))) ev (by first | (simp +decide only [go_sem,Nat.reduceAdd,An hla0,or_true,Ao hla0,hf6,b,c,d,g,f,hf31,j,hf42,C];done) | (simp +decide only [go_sem,Nat.reduceAdd,An hla0,or_true,Ao hla0,hf6,b,c,d,g,f,hf31,j,hf42,C];rfl)) (fun G=>?_) (fun G=>?_)
     ·replace h:=AW h G
      apply Ap;intro K66 b4
      apply Gt OJ [6] [4,5] kr (fun s=>∃ (X:As) (rows:Ax) (c0:List AV),s=⟨B++([c0,.val (.string ad.1)::(ad.2.cs),Am U.1.1::(.val (.string U.1.2.1)::(Am U.1.2.2.1::((U.1.2.2.2.1.cs)++([.list (U.1.2.2.2.2.map BZ) .none]))))]++X),rows,L⟩) 2 (B.length+3)
      ·simp +decide only [go_sem,Nat.reduceAdd]
      ·rintro s ⟨X,rows,c0,rfl⟩
       refine ⟨1,?_⟩
       rw [Aq];simp +decide only [go_sem,Nat.reduceAdd,Dw,An hla0,or_true,Ao hla0,hf6,b,c,d,g,f,hf31,j,hf42,C,G]
       (repeat' apply Ae)<;>first | rfl | exact cl
      ·exact gd (tg (a:=(6,[4,5]))) (Ae hf42 (Ae hf31 (Ae f (Ae c (Ae b (Ae hf6 (Ae (Ao hla0) (Ae or_true (Ae (An hla0) hs)))))))))
      simp +decide only [go_sem,Nat.reduceAdd,An hla0,or_true,Ao hla0,hf6,b,c,d,g,f,hf31,j,hf42,C,G]
      (repeat' apply Ae)<;>first | refine b4 _ _ ?_ | exact cl
      clear b4
      apply AN;simp +decide only [go_sem,Nat.reduceAdd,An hla0,or_true,Ao hla0,hf6,b,c,d,g,f,hf31,j,hf42,C,G]
      have hgt:=Option.some.inj h;subst hgt
      first | refine Br t rfl O.pre ev ⟨?_,(by first | rfl | exact congrArg (fun z=>St.mk z Rw L) (Ao hla0).symm | (simp +decide only [go_sem,Nat.reduceAdd,An hla0,or_true,Ao hla0,hf6,b,c,d,g,f,hf31,j,hf42,C,G];done))⟩ | refine Ci t rfl O.pre ev ⟨?_,(by first | rfl | exact congrArg (fun z=>St.mk z Rw L) (Ao hla0).symm | (simp +decide only [go_sem,Nat.reduceAdd,An hla0,or_true,Ao hla0,hf6,b,c,d,g,f,hf31,j,hf42,C,G];done))⟩
      first | rfl | (simp +decide only [go_sem,Nat.reduceAdd,An hla0,or_true,Ao hla0,hf6,b,c,d,g,f,hf31,j,hf42,C,G];done) | (simp +decide only [go_sem,Nat.reduceAdd,Vl.cs,Ty.cs,An hla0,or_true,Ao hla0,hf6,b,c,d,g,f,hf31,j,hf42,C,G];done)
     replace h:=AX h G
     apply Ap;intro K67 ce
     apply Ar 1 [0,4,8,10,11,125]
     rw [Aq];simp +decide only [go_sem,Nat.reduceAdd,An hla0,or_true,Ao hla0,hf6,b,c,d,g,f,hf31,j,hf42,C,G]
     (repeat' apply Ae)<;>first | refine ce _ _ ?_ | exact cl
     clear ce
     refine AL ((!(decide (ad.2.op=2)))||(U.2&&(decide (U.1.2.2.1=3)))) ev (by first | (simp +decide only [go_sem,Nat.reduceAdd,An hla0,or_true,Ao hla0,hf6,b,c,d,g,f,hf31,j,hf42,C,G];done) | (simp +decide only [go_sem,Nat.reduceAdd,An hla0,or_true,Ao hla0,hf6,b,c,d,g,f,hf31,j,hf42,C,G];rfl)) (fun N=>?_) (fun N=>?_)
     ·replace h:=AW h N
      apply Ap;intro K69 bu
      apply Ar 1 [4]
      rw [Aq];simp +decide only [go_sem,Nat.reduceAdd,An hla0,or_true,Ao hla0,hf6,b,c,d,g,f,hf31,j,hf42,C,G,N,Ty.cs_eqs a0.mid]
      (repeat' apply Ae)<;>first | refine bu _ _ ?_ | exact cl
      clear bu
      apply Ap;intro K70 b9
      apply Ar 1 [4,5]
      rw [Aq];simp +decide only [go_sem,Nat.reduceAdd,An hla0,or_true,Ao hla0,hf6,b,c,d,g,f,hf31,j,hf42,C,G,N,Ty.cs_eqs a0.mid]
      (repeat' apply Ae)<;>first | refine b9 _ _ ?_ | exact cl
      clear b9
      apply AN;simp +decide only [go_sem,Nat.reduceAdd,An hla0,or_true,Ao hla0,hf6,b,c,d,g,f,hf31,j,hf42,C,G,N,Ty.cs_eqs a0.mid]
      have hgt:=Option.some.inj h;subst hgt
      first | refine Br (A1 t ev) N9 O.pre ev ⟨?_,(by first | rfl | exact congrArg (fun z=>St.mk z Rw L) (Ao hla0).symm | (simp +decide only [go_sem,Nat.reduceAdd,An hla0,or_true,Ao hla0,hf6,b,c,d,g,f,hf31,j,hf42,C,G,N,Ty.cs_eqs a0.mid];done))⟩ | refine Ci (A1 t ev) N9 O.pre ev ⟨?_,(by first | rfl | exact congrArg (fun z=>St.mk z Rw L) (Ao hla0).symm | (simp +decide only [go_sem,Nat.reduceAdd,An hla0,or_true,Ao hla0,hf6,b,c,d,g,f,hf31,j,hf42,C,G,N,Ty.cs_eqs a0.mid];done))⟩
      first | rfl | (simp +decide only [go_sem,Nat.reduceAdd,An hla0,or_true,Ao hla0,hf6,b,c,d,g,f,hf31,j,hf42,C,G,N,Ty.cs_eqs a0.mid];done) | (simp +decide only [go_sem,Nat.reduceAdd,Vl.cs,Ty.cs,An hla0,or_true,Ao hla0,hf6,b,c,d,g,f,hf31,j,hf42,C,G,N,Ty.cs_eqs a0.mid];done)
     replace h:=AX h N
     refine sk [4,8,10,11] hs am ?_
     clear am
     apply Ap;intro K71 b8
     obtain ⟨d1,h⟩:=Av h
     obtain ⟨d8,cz,h⟩:=bind_some h
     apply Pl OJ 9 2 1 [4,5] kr
     rw [Aq];simp +decide only [go_sem,Nat.reduceAdd,An hla0,or_true,Ao hla0,hf6,b,c,d,g,f,hf31,j,hf42,C,G,N]
     (repeat' apply Ae)<;>first | refine Az _ (Qe w0 hP n _ _ _ ad.2.text ((y3.1.drop 1).drop ah.1.length) _ cz) (by first | rfl | (simp +decide only [go_sem,Nat.reduceAdd,An hla0,or_true,Ao hla0,hf6,b,c,d,g,f,hf31,j,hf42,C,G,N];done) | (simp +decide only [go_sem,Nat.reduceAdd,Vl.cs,Ty.cs,An hla0,or_true,Ao hla0,hf6,b,c,d,g,f,hf31,j,hf42,C,G,N];done)) ?_ | exact cl
     rw [Aq];simp +decide only [go_sem,Nat.reduceAdd,An hla0,or_true,Ao hla0,hf6,b,c,d,g,f,hf31,j,hf42,C,G,N]
     (repeat' with_reducible apply Ae)<;>first | (rw [Aq];simp +decide only [go_sem,Nat.reduceAdd,An hla0,or_true,Ao hla0,hf6,b,c,d,g,f,hf31,j,hf42,C,G,N]) | exact cl
     (repeat' apply Ae)<;>first | refine b8 _ _ ?_ | exact cl
     clear b8
     apply AN;simp +decide only [go_sem,Nat.reduceAdd,An hla0,or_true,Ao hla0,hf6,b,c,d,g,f,hf31,j,hf42,C,G,N]
     have hgt:=Option.some.inj h;subst hgt
     first | refine Br t rfl O.pre ev ⟨?_,(by first | rfl | exact congrArg (fun z=>St.mk z Rw L) (Ao hla0).symm | (simp +decide only [go_sem,Nat.reduceAdd,An hla0,or_true,Ao hla0,hf6,b,c,d,g,f,hf31,j,hf42,C,G,N];done))⟩ | refine Ci t rfl O.pre ev ⟨?_,(by first | rfl | exact congrArg (fun z=>St.mk z Rw L) (Ao hla0).symm | (simp +decide only [go_sem,Nat.reduceAdd,An hla0,or_true,Ao hla0,hf6,b,c,d,g,f,hf31,j,hf42,C,G,N];done))⟩
     first | rfl | (simp +decide only [go_sem,Nat.reduceAdd,An hla0,or_true,Ao hla0,hf6,b,c,d,g,f,hf31,j,hf42,C,G,N];done) | (simp +decide only [go_sem,Nat.reduceAdd,Vl.cs,Ty.cs,An hla0,or_true,Ao hla0,hf6,b,c,d,g,f,hf31,j,hf42,C,G,N];done)
  ·clear h;rintro e st ⟨Xk17,Rk17,rfl,rfl,O,h⟩
   rw [Dh] at h
   refine td hN av au t O ?_
   refine AA (fun e st=>Ck e st B Rw L [(0,true,.box la0 0),(4,true,.box B.length 0)] [[Am 0,Am 0,.val (.string (⟨#[]⟩:ByteArray)),.list ([]) .full,.list ([]) .full]] [] (Bg n a0  = some r)) ?_ ?_
   ·intro K76 aj
    apply Ap;intro K77 cg
    apply Ar 1 [0,4,8,16]
    rw [Aq];simp +decide only [go_sem,Nat.reduceAdd,An hla0,or_true,Ao hla0,hf6,b,c,d]
    (repeat' apply Ae)<;>first | refine cg _ _ ?_ | exact cl
    clear cg
    apply Au
    refine AC (fun m e st=>∃ (E:Int),Ck e st B Rw L [(0,true,.box la0 0),(4,true,.box B.length 0),(8,true,.list ((y3.1.drop 1).map AO) .none),(16,true,Am E)] [[Am 0,Am 0,.val (.string (⟨#[]⟩:ByteArray)),.list ([]) .full,.list ([]) .full]] [] (AU n a0 y3 m E=some r)) n ⟨1,([]),Rk17,by first | rfl | (simp +decide only [go_sem,Nat.reduceAdd,An hla0,or_true,Ao hla0,hf6,b,c,d];done),by first | rfl | (simp +decide only [go_sem,Nat.reduceAdd,An hla0,or_true,Ao hla0,hf6,b,c,d];done),O,h⟩ ?_
    rintro ml78 e st ⟨E,Xl78,Rl78,rfl,rfl,O,h⟩ Ul78 Vl78
    cases ml78 with
    | zero=>cases h
    | succ ml78 =>
    rw [AU] at h
    refine td hN av au t O ?_
    apply Ap;intro K79 br
    apply Ap;intro K80 bk
    apply Ar 1 [0,4,8,16,150]
    rw [Aq];simp +decide only [go_sem,Nat.reduceAdd,An hla0,or_true,Ao hla0,hf6,b,c,d]
    (repeat' apply Ae)<;>first | refine bk _ _ ?_ | exact cl
    clear bk
    refine AL (decide (E≤(((y3.1.drop 1).length:Int)))) ev (by first | (simp +decide only [go_sem,Nat.reduceAdd,An hla0,or_true,Ao hla0,hf6,b,c,d];done) | (simp +decide only [go_sem,Nat.reduceAdd,An hla0,or_true,Ao hla0,hf6,b,c,d];rfl)) (fun i=>?_) (fun i=>?_)
    rotate_left
    ·replace h:=AX h i
     refine sx [0,4] hs aj ?_
     exact ⟨([]),Rl78,by first | rfl | (simp +decide only [go_sem,Nat.reduceAdd,An hla0,or_true,Ao hla0,hf6,b,c,d,i];done),by first | rfl | (simp +decide only [go_sem,Nat.reduceAdd,An hla0,or_true,Ao hla0,hf6,b,c,d,i];done),O,h⟩
    replace h:=AW h i
    refine sk [0,4,8,16] hs br ?_
    clear br
    apply Ap;intro K82 af
    apply Au
    apply Ap;intro K83 bg
    obtain ⟨d4,h⟩:=Av h
    obtain ⟨k,c4,h⟩:=bind_some h
    apply Gt OJ [11,12] [0,4,8,16,17,18] kr (fun s=>∃ (X:As) (rows:Ax),s=⟨B++([[Am 0,Am 0,.val (.string (⟨#[]⟩:ByteArray)),.list ([]) .full,.list ([]) .full]]++X),rows,L⟩) 3 (B.length+1)
    ·simp +decide only [go_sem,Nat.reduceAdd]
    ·rintro s ⟨X,rows,rfl⟩
     refine ⟨2,?_⟩
     rw [Aq];simp +decide only [go_sem,Nat.reduceAdd,Dw,An hla0,or_true,Ao hla0,hf6,b,c,d,i]
     (repeat' apply Ae)<;>first | refine Az _ (WW w0 n _ _ _ a0.mid ((y3.1.drop 1).take E.toNat) _ c4) (by first | rfl | (simp +decide only [go_sem,Nat.reduceAdd,An hla0,or_true,Ao hla0,hf6,b,c,d,i];done) | (simp +decide only [go_sem,Nat.reduceAdd,Vl.cs,Ty.cs,An hla0,or_true,Ao hla0,hf6,b,c,d,i];done)) ?_ | exact cl
     rw [Aq];simp +decide only [go_sem,Nat.reduceAdd,An hla0,or_true,Ao hla0,hf6,b,c,d,i]
     (repeat' apply Ae)<;>first | rfl | exact cl
    ·exact gd (tg (a:=(11,12,[0,4,8,16,17,18]))) (Ae c (Ae b (Ae hf6 (Ae (Ao hla0) (Ae or_true (Ae (An hla0) hs))))))
    simp +decide only [go_sem,Nat.reduceAdd,An hla0,or_true,Ao hla0,hf6,b,c,d,i]
    (repeat' apply Ae)<;>first | refine bg _ _ ?_ | exact cl
    clear bg
    apply Ap;intro K86 aq
    apply Ap;intro K87 ag
    rcases Bool.eq_false_or_eq_true (!k.2) with hf88 | hf88
    ·replace h:=AW h hf88
     apply Ar 2 [0,4,8,16,17,178]
     rw [Aq];simp +decide only [go_sem,Nat.reduceAdd,An hla0,or_true,Ao hla0,hf6,b,c,d,i,hf88]
     (repeat' apply Ae)<;>first | refine Dq ?_ | exact cl
     rw [Aq];simp +decide only [go_sem,Nat.reduceAdd,An hla0,or_true,Ao hla0,hf6,b,c,d,i,hf88]
     (repeat' apply Ae)<;>first | refine ag _ _ ?_ | exact cl
     clear ag
     refine AL true ev (by simp +decide only [go_sem,Nat.reduceAdd,An hla0,or_true,Ao hla0,hf6,b,c,d,i,hf88]) (fun hb89=>?_) (fun hb89=>by cases hb89)
     refine sx [0,4] hs aj ?_
     exact ⟨([Am k.1.1::(.val (.string k.1.2.1)::(Am k.1.2.2.1::((k.1.2.2.2.1.cs)++([.list (k.1.2.2.2.2.map BZ) .none]))))]),Rl78,by first | rfl | (simp +decide only [go_sem,Nat.reduceAdd,An hla0,or_true,Ao hla0,hf6,b,c,d,i,hf88];done),by first | rfl | (simp +decide only [go_sem,Nat.reduceAdd,An hla0,or_true,Ao hla0,hf6,b,c,d,i,hf88];done),O,h⟩
    ·replace h:=AX h hf88
     rcases Bool.eq_false_or_eq_true (decide (k.1.2.2.1=2)) with hf90 | hf90
     ·replace h:=AW h hf90
      obtain ⟨d2,h⟩:=Av h
      obtain ⟨de,cq,h⟩:=bind_some h
      apply Ar 2 [0,4,8,16,17,178]
      rw [Aq];simp +decide only [go_sem,Nat.reduceAdd,An hla0,or_true,Ao hla0,hf6,b,c,d,i,hf88,hf90]
      (repeat' apply Ae)<;>first | refine Az _ (Gp w0 hE hM hP n _ _ _ la0 a0 (by simp +decide only [go_sem,Nat.reduceAdd,An hla0,or_true,Ao hla0,hf6,b,c,d,i,hf88,hf90]) ((y3.1.drop 1).take E.toNat) _ cq) (by first | rfl | (simp +decide only [go_sem,Nat.reduceAdd,An hla0,or_true,Ao hla0,hf6,b,c,d,i,hf88,hf90];done) | (simp +decide only [go_sem,Nat.reduceAdd,Vl.cs,Ty.cs,An hla0,or_true,Ao hla0,hf6,b,c,d,i,hf88,hf90];done)) ?_ | exact cl
      rw [Aq];simp +decide only [go_sem,Nat.reduceAdd,An hla0,or_true,Ao hla0,hf6,b,c,d,i,hf88,hf90]
      (repeat' apply Ae)<;>first | refine ag _ _ ?_ | exact cl
      clear ag
      refine AL (!de) ev (by first | (simp +decide only [go_sem,Nat.reduceAdd,An hla0,or_true,Ao hla0,hf6,b,c,d,i,hf88,hf90];done) | (simp +decide only [go_sem,Nat.reduceAdd,An hla0,or_true,Ao hla0,hf6,b,c,d,i,hf88,hf90];rfl)) (fun q=>?_) (fun q=>?_)
      ·replace h:=AW h q
       refine sx [0,4] hs aj ?_
       exact ⟨([Am k.1.1::(.val (.string k.1.2.1)::(Am k.1.2.2.1::((k.1.2.2.2.1.cs)++([.list (k.1.2.2.2.2.map BZ) .none]))))]),Rl78,by first | rfl | (simp +decide only [go_sem,Nat.reduceAdd,An hla0,or_true,Ao hla0,hf6,b,c,d,i,hf88,hf90,q];done),by first | rfl | (simp +decide only [go_sem,Nat.reduceAdd,An hla0,or_true,Ao hla0,hf6,b,c,d,i,hf88,hf90,q];done),O,h⟩
      replace h:=AX h q
      refine sk [0,4,8,16,17] hs aq ?_
      clear aq
      apply Ap;intro K94 b5
      apply Ap;intro K95 ao
      rcases Bool.eq_false_or_eq_true (!(decide (k.1.2.2.1=3))) with hf96 | hf96
      ·replace h:=AW h hf96
       apply Ar 2 [0,4,8,16,17,188]
       rw [Aq];simp +decide only [go_sem,Nat.reduceAdd,An hla0,or_true,Ao hla0,hf6,b,c,d,i,hf88,hf90,q,hf96]
       (repeat' apply Ae)<;>first | refine Dq ?_ | exact cl
       rw [Aq];simp +decide only [go_sem,Nat.reduceAdd,An hla0,or_true,Ao hla0,hf6,b,c,d,i,hf88,hf90,q,hf96]
       (repeat' apply Ae)<;>first | refine ao _ _ ?_ | exact cl
       clear ao
       refine AL true ev (by simp +decide only [go_sem,Nat.reduceAdd,An hla0,or_true,Ao hla0,hf6,b,c,d,i,hf88,hf90,q,hf96]) (fun hb97=>?_) (fun hb97=>by cases hb97)
       refine sx [0,4,8,16] hs af ?_
       clear af
       obtain ⟨d5,h⟩:=Av h
       apply Ar 1 [0,4,8,16]
       rw [Aq];simp +decide only [go_sem,Nat.reduceAdd,An hla0,or_true,Ao hla0,hf6,b,c,d,i,hf88,hf90,q,hf96]
       (repeat' apply Ae)<;>first | refine Vl78 ml78 _ _ (Nat.lt_succ_self ml78) ⟨(E+1),([Am k.1.1::(.val (.string k.1.2.1)::(Am k.1.2.2.1::((k.1.2.2.2.1.cs)++([.list (k.1.2.2.2.2.map BZ) .none]))))]),Rl78,by first | rfl | (simp +decide only [go_sem,Nat.reduceAdd,An hla0,or_true,Ao hla0,hf6,b,c,d,i,hf88,hf90,q,hf96];done),by first | rfl | (simp +decide only [go_sem,Nat.reduceAdd,An hla0,or_true,Ao hla0,hf6,b,c,d,i,hf88,hf90,q,hf96];done),O,h⟩ | exact cl
      ·replace h:=AX h hf96
       obtain ⟨dz,h⟩:=Av h
       obtain ⟨cv,ci,h⟩:=bind_some h
       apply Ar 2 [0,4,8,16,17,188]
       rw [Aq];simp +decide only [go_sem,Nat.reduceAdd,An hla0,or_true,Ao hla0,hf6,b,c,d,i,hf88,hf90,q,hf96]
       (repeat' apply Ae)<;>first | refine Az _ (Gp w0 hE hM hP n _ _ _ la0 a0 (by simp +decide only [go_sem,Nat.reduceAdd,An hla0,or_true,Ao hla0,hf6,b,c,d,i,hf88,hf90,q,hf96]) ((y3.1.drop 1).take E.toNat) _ ci) (by first | rfl | (simp +decide only [go_sem,Nat.reduceAdd,An hla0,or_true,Ao hla0,hf6,b,c,d,i,hf88,hf90,q,hf96];done) | (simp +decide only [go_sem,Nat.reduceAdd,Vl.cs,Ty.cs,An hla0,or_true,Ao hla0,hf6,b,c,d,i,hf88,hf90,q,hf96];done)) ?_ | exact cl
       rw [Aq];simp +decide only [go_sem,Nat.reduceAdd,An hla0,or_true,Ao hla0,hf6,b,c,d,i,hf88,hf90,q,hf96]
       (repeat' apply Ae)<;>first | refine ao _ _ ?_ | exact cl
       clear ao
       refine AL (cv) ev (by first | (simp +decide only [go_sem,Nat.reduceAdd,An hla0,or_true,Ao hla0,hf6,b,c,d,i,hf88,hf90,q,hf96];done) | (simp +decide only [go_sem,Nat.reduceAdd,An hla0,or_true,Ao hla0,hf6,b,c,d,i,hf88,hf90,q,hf96];rfl)) (fun w=>?_) (fun w=>?_)
       ·replace h:=AW h w
        refine sx [0,4,8,16] hs af ?_
        clear af
        obtain ⟨ds,h⟩:=Av h
        apply Ar 1 [0,4,8,16]
        rw [Aq];simp +decide only [go_sem,Nat.reduceAdd,An hla0,or_true,Ao hla0,hf6,b,c,d,i,hf88,hf90,q,hf96,w]
        (repeat' apply Ae)<;>first | refine Vl78 ml78 _ _ (Nat.lt_succ_self ml78) ⟨(E+1),([Am k.1.1::(.val (.string k.1.2.1)::(Am k.1.2.2.1::((k.1.2.2.2.1.cs)++([.list (k.1.2.2.2.2.map BZ) .none]))))]),Rl78,by first | rfl | (simp +decide only [go_sem,Nat.reduceAdd,An hla0,or_true,Ao hla0,hf6,b,c,d,i,hf88,hf90,q,hf96,w];done),by first | rfl | (simp +decide only [go_sem,Nat.reduceAdd,An hla0,or_true,Ao hla0,hf6,b,c,d,i,hf88,hf90,q,hf96,w];done),O,h⟩ | exact cl
       replace h:=AX h w
       refine sk [0,4,8,16,17] hs b5 ?_
       clear b5
       apply Ap;intro K103 bb
       obtain ⟨cd,c9,c8,o,h⟩:=ix BZ h
       have v:(k.1.2.2.2.2.map BZ).getD 0 .junk=_:=o
       apply Ar 1 [0,4,8,16,17,19]
       rw [Aq];simp +decide only [go_sem,Nat.reduceAdd,An hla0,or_true,Ao hla0,hf6,b,c,d,i,hf88,hf90,q,hf96,w,o,v]
       (repeat' apply Ae)<;>first | refine bb _ _ ?_ | exact cl
       clear bb
       refine AA (fun e st=>∃ (Z:Vl) (ab:List AV),Ck e st B Rw L [(4,true,.box B.length 0),(19,true,.box (B.length+2) 0)] [[Am 0,Am 0,.val (.string (⟨#[]⟩:ByteArray)),.list ([]) .full,.list ([]) .full],Am k.1.1::(.val (.string k.1.2.1)::(Am k.1.2.2.1::((k.1.2.2.2.1.cs)++([.list (k.1.2.2.2.2.map BZ) .none])))),ab] [] (ab.map AV.pubCell=Z.cs∧CU n a0 Z=some r)) ?_ ?_
       ·intro K107 a8
        apply Ap;intro K108 aw
        apply Ar 1 [0,4,8,16,17,19,196]
        rw [Aq];simp +decide only [go_sem,Nat.reduceAdd,An hla0,or_true,Ao hla0,hf6,b,c,d,i,hf88,hf90,q,hf96,w,o,v]
        (repeat' apply Ae)<;>first | refine aw _ _ ?_ | exact cl
        clear aw
        refine AL (decide (E<(((y3.1.drop 1).length:Int)))) ev (by first | (simp +decide only [go_sem,Nat.reduceAdd,An hla0,or_true,Ao hla0,hf6,b,c,d,i,hf88,hf90,q,hf96,w,o,v];done) | (simp +decide only [go_sem,Nat.reduceAdd,An hla0,or_true,Ao hla0,hf6,b,c,d,i,hf88,hf90,q,hf96,w,o,v];rfl)) (fun H=>?_) (fun H=>?_)
        ·replace h:=AW h H
         apply Ap;intro K110 a6
         obtain ⟨dm,h⟩:=Av h
         obtain ⟨a3,cj,h⟩:=bind_some h
         apply Gt OJ [11] [0,4,7,19] kr (fun s=>∃ (X:As) (rows:Ax) (c2:List AV),s=⟨B++([[Am 0,Am 0,.val (.string (⟨#[]⟩:ByteArray)),.list ([]) .full,.list ([]) .full],Am k.1.1::(.val (.string k.1.2.1)::(Am k.1.2.2.1::((k.1.2.2.2.1.cs)++([.list (k.1.2.2.2.2.map BZ) .none])))),c2]++X),rows,L⟩) 2 (B.length+3)
         ·simp +decide only [go_sem,Nat.reduceAdd]
         ·rintro s ⟨X,rows,c2,rfl⟩
          refine ⟨2,?_⟩
          rw [Aq];simp +decide only [go_sem,Nat.reduceAdd,Dw,An hla0,or_true,Ao hla0,hf6,b,c,d,i,hf88,hf90,q,hf96,w,o,v,H]
          (repeat' apply Ae)<;>first | refine Az _ (Ux w0 hP n _ _ _ cd ((y3.1.drop 1).drop E.toNat) _ cj) (by first | rfl | (simp +decide only [go_sem,Nat.reduceAdd,An hla0,or_true,Ao hla0,hf6,b,c,d,i,hf88,hf90,q,hf96,w,o,v,H];done) | (simp +decide only [go_sem,Nat.reduceAdd,Vl.cs,Ty.cs,An hla0,or_true,Ao hla0,hf6,b,c,d,i,hf88,hf90,q,hf96,w,o,v,H];done)) ?_ | exact cl
          rw [Aq];simp +decide only [go_sem,Nat.reduceAdd,An hla0,or_true,Ao hla0,hf6,b,c,d,i,hf88,hf90,q,hf96,w,o,v,H]
          (repeat' apply Ae)<;>first | rfl | exact cl
         ·exact gd (tg (a:=(11,[0,4,7,19]))) (Ae v (Ae o (Ae hf96 (Ae hf90 (Ae hf88 (Ae c (Ae b (Ae hf6 (Ae (Ao hla0) (Ae or_true (Ae (An hla0) hs)))))))))))
         simp +decide only [go_sem,Nat.reduceAdd,An hla0,or_true,Ao hla0,hf6,b,c,d,i,hf88,hf90,q,hf96,w,o,v,H]
         (repeat' apply Ae)<;>first | refine a6 _ _ ?_ | exact cl
         clear a6
         apply Ap;intro K113 a4
         apply Ar 1 [0,4,19,209]
         rw [Aq];simp +decide only [go_sem,Nat.reduceAdd,An hla0,or_true,Ao hla0,hf6,b,c,d,i,hf88,hf90,q,hf96,w,o,v,H]
         (repeat' apply Ae)<;>first | refine a4 _ _ ?_ | exact cl
         clear a4
         refine AL (!(decide (a3.2=0))) ev (by first | (simp +decide only [go_sem,Nat.reduceAdd,An hla0,or_true,Ao hla0,hf6,b,c,d,i,hf88,hf90,q,hf96,w,o,v,H];done) | (simp +decide only [go_sem,Nat.reduceAdd,An hla0,or_true,Ao hla0,hf6,b,c,d,i,hf88,hf90,q,hf96,w,o,v,H];rfl)) (fun V=>?_) (fun V=>?_)
         ·replace h:=AW h V
          refine sx [0,4] hs aj ?_
          exact ⟨([Am k.1.1::(.val (.string k.1.2.1)::(Am k.1.2.2.1::((k.1.2.2.2.1.cs)++([.list (k.1.2.2.2.2.map BZ) .none])))),a3.1.cs]),Rl78,by first | rfl | (simp +decide only [go_sem,Nat.reduceAdd,An hla0,or_true,Ao hla0,hf6,b,c,d,i,hf88,hf90,q,hf96,w,o,v,H,V];done),by first | rfl | (simp +decide only [go_sem,Nat.reduceAdd,An hla0,or_true,Ao hla0,hf6,b,c,d,i,hf88,hf90,q,hf96,w,o,v,H,V];done),O,h⟩
         replace h:=AX h V
         refine sk [4,19] hs a8 ?_
         exact ⟨a3.1,_,([]),Rl78,by first | rfl | (simp +decide only [go_sem,Nat.reduceAdd,An hla0,or_true,Ao hla0,hf6,b,c,d,i,hf88,hf90,q,hf96,w,o,v,H,V];done),by first | rfl | (simp +decide only [go_sem,Nat.reduceAdd,An hla0,or_true,Ao hla0,hf6,b,c,d,i,hf88,hf90,q,hf96,w,o,v,H,V];done),O,by first | rfl | (simp +decide only [go_sem,Nat.reduceAdd,An hla0,or_true,Ao hla0,hf6,b,c,d,i,hf88,hf90,q,hf96,w,o,v,H,V];done),h⟩
        replace h:=AX h H
        refine sk [4,19] hs a8 ?_
        exact ⟨cd,_,([]),Rl78,by first | rfl | (simp +decide only [go_sem,Nat.reduceAdd,An hla0,or_true,Ao hla0,hf6,b,c,d,i,hf88,hf90,q,hf96,w,o,v,H];done),by first | rfl | (simp +decide only [go_sem,Nat.reduceAdd,An hla0,or_true,Ao hla0,hf6,b,c,d,i,hf88,hf90,q,hf96,w,o,v,H];done),O,by first | rfl | (simp +decide only [go_sem,Nat.reduceAdd,An hla0,or_true,Ao hla0,hf6,b,c,d,i,hf88,hf90,q,hf96,w,o,v,H];done),h⟩
       ·clear h;rintro e st ⟨Z,ab,Xk106,Rk106,rfl,rfl,O,cn,h⟩
        rw [CU] at h
        refine Ba (B.length+2) (by first | rfl | (simp only [CG,BK,BJ,Bl];rfl)) cn ?_;simp +decide only [go_sem,Nat.reduceAdd]
        show Em _ _ _ _ _ _ _ _ [(4,true,.box B.length 0),(19,true,.box (B.length+2) 0)] ⟨B++([[Am 0,Am 0,.val (.string (⟨#[]⟩:ByteArray)),.list ([]) .full,.list ([]) .full],Am k.1.1::(.val (.string k.1.2.1)::(Am k.1.2.2.1::((k.1.2.2.2.1.cs)++([.list (k.1.2.2.2.2.map BZ) .none])))),Z.cs]++Xk106),Rk106,L⟩
        refine td hN av au t O ?_
        apply Ap;intro K115 bd
        apply Ar 1 [4,5]
        rw [Aq];simp +decide only [go_sem,Nat.reduceAdd,An hla0,or_true,Ao hla0,hf6,b,c,d,i,hf88,hf90,q,hf96,w,o,v]
        (repeat' apply Ae)<;>first | refine bd _ _ ?_ | exact cl
        clear bd
        apply AN;simp +decide only [go_sem,Nat.reduceAdd,An hla0,or_true,Ao hla0,hf6,b,c,d,i,hf88,hf90,q,hf96,w,o,v]
        have hgt:=Option.some.inj h;subst hgt
        first | refine Br t rfl O.pre ev ⟨?_,(by first | rfl | exact congrArg (fun z=>St.mk z Rw L) (Ao hla0).symm | (simp +decide only [go_sem,Nat.reduceAdd,An hla0,or_true,Ao hla0,hf6,b,c,d,i,hf88,hf90,q,hf96,w,o,v];done))⟩ | refine Ci t rfl O.pre ev ⟨?_,(by first | rfl | exact congrArg (fun z=>St.mk z Rw L) (Ao hla0).symm | (simp +decide only [go_sem,Nat.reduceAdd,An hla0,or_true,Ao hla0,hf6,b,c,d,i,hf88,hf90,q,hf96,w,o,v];done))⟩
        first | rfl | (simp +decide only [go_sem,Nat.reduceAdd,An hla0,or_true,Ao hla0,hf6,b,c,d,i,hf88,hf90,q,hf96,w,o,v];done) | (simp +decide only [go_sem,Nat.reduceAdd,Vl.cs,Ty.cs,An hla0,or_true,Ao hla0,hf6,b,c,d,i,hf88,hf90,q,hf96,w,o,v];done)
     ·replace h:=AX h hf90
      apply Ar 2 [0,4,8,16,17,178]
      rw [Aq];simp +decide only [go_sem,Nat.reduceAdd,An hla0,or_true,Ao hla0,hf6,b,c,d,i,hf88,hf90]
      (repeat' apply Ae)<;>first | refine Dq ?_ | exact cl
      rw [Aq];simp +decide only [go_sem,Nat.reduceAdd,An hla0,or_true,Ao hla0,hf6,b,c,d,i,hf88,hf90]
      (repeat' apply Ae)<;>first | refine ag _ _ ?_ | exact cl
      clear ag
      refine AL false ev (by simp +decide only [go_sem,Nat.reduceAdd,An hla0,or_true,Ao hla0,hf6,b,c,d,i,hf88,hf90]) (fun hb116=>by cases hb116) (fun hb116=>?_)
      refine sk [0,4,8,16,17] hs aq ?_
      clear aq
      apply Ap;intro K117 ba
      apply Ap;intro K118 ai
      rcases Bool.eq_false_or_eq_true (!(decide (k.1.2.2.1=3))) with hf119 | hf119
      ·replace h:=AW h hf119
       apply Ar 2 [0,4,8,16,17,188]
       rw [Aq];simp +decide only [go_sem,Nat.reduceAdd,An hla0,or_true,Ao hla0,hf6,b,c,d,i,hf88,hf90,hf119]
       (repeat' apply Ae)<;>first | refine Dq ?_ | exact cl
       rw [Aq];simp +decide only [go_sem,Nat.reduceAdd,An hla0,or_true,Ao hla0,hf6,b,c,d,i,hf88,hf90,hf119]
       (repeat' apply Ae)<;>first | refine ai _ _ ?_ | exact cl
       clear ai
       refine AL true ev (by simp +decide only [go_sem,Nat.reduceAdd,An hla0,or_true,Ao hla0,hf6,b,c,d,i,hf88,hf90,hf119]) (fun hb120=>?_) (fun hb120=>by cases hb120)
       refine sx [0,4,8,16] hs af ?_
       clear af
       obtain ⟨dq,h⟩:=Av h
       apply Ar 1 [0,4,8,16]
       rw [Aq];simp +decide only [go_sem,Nat.reduceAdd,An hla0,or_true,Ao hla0,hf6,b,c,d,i,hf88,hf90,hf119]
       (repeat' apply Ae)<;>first | refine Vl78 ml78 _ _ (Nat.lt_succ_self ml78) ⟨(E+1),([Am k.1.1::(.val (.string k.1.2.1)::(Am k.1.2.2.1::((k.1.2.2.2.1.cs)++([.list (k.1.2.2.2.2.map BZ) .none]))))]),Rl78,by first | rfl | (simp +decide only [go_sem,Nat.reduceAdd,An hla0,or_true,Ao hla0,hf6,b,c,d,i,hf88,hf90,hf119];done),by first | rfl | (simp +decide only [go_sem,Nat.reduceAdd,An hla0,or_true,Ao hla0,hf6,b,c,d,i,hf88,hf90,hf119];done),O,h⟩ | exact cl
      ·replace h:=AX h hf119
       obtain ⟨di,h⟩:=Av h
       obtain ⟨ct,ch,h⟩:=bind_some h
       apply Ar 2 [0,4,8,16,17,188]
       rw [Aq];simp +decide only [go_sem,Nat.reduceAdd,An hla0,or_true,Ao hla0,hf6,b,c,d,i,hf88,hf90,hf119]
       (repeat' apply Ae)<;>first | refine Az _ (Gp w0 hE hM hP n _ _ _ la0 a0 (by simp +decide only [go_sem,Nat.reduceAdd,An hla0,or_true,Ao hla0,hf6,b,c,d,i,hf88,hf90,hf119]) ((y3.1.drop 1).take E.toNat) _ ch) (by first | rfl | (simp +decide only [go_sem,Nat.reduceAdd,An hla0,or_true,Ao hla0,hf6,b,c,d,i,hf88,hf90,hf119];done) | (simp +decide only [go_sem,Nat.reduceAdd,Vl.cs,Ty.cs,An hla0,or_true,Ao hla0,hf6,b,c,d,i,hf88,hf90,hf119];done)) ?_ | exact cl
       rw [Aq];simp +decide only [go_sem,Nat.reduceAdd,An hla0,or_true,Ao hla0,hf6,b,c,d,i,hf88,hf90,hf119]
       (repeat' apply Ae)<;>first | refine ai _ _ ?_ | exact cl
       clear ai
       refine AL (ct) ev (by first | (simp +decide only [go_sem,Nat.reduceAdd,An hla0,or_true,Ao hla0,hf6,b,c,d,i,hf88,hf90,hf119];done) | (simp +decide only [go_sem,Nat.reduceAdd,An hla0,or_true,Ao hla0,hf6,b,c,d,i,hf88,hf90,hf119];rfl)) (fun y=>?_) (fun y=>?_)
       ·replace h:=AW h y
        refine sx [0,4,8,16] hs af ?_
        clear af
        obtain ⟨du,h⟩:=Av h
        apply Ar 1 [0,4,8,16]
        rw [Aq];simp +decide only [go_sem,Nat.reduceAdd,An hla0,or_true,Ao hla0,hf6,b,c,d,i,hf88,hf90,hf119,y]
        (repeat' apply Ae)<;>first | refine Vl78 ml78 _ _ (Nat.lt_succ_self ml78) ⟨(E+1),([Am k.1.1::(.val (.string k.1.2.1)::(Am k.1.2.2.1::((k.1.2.2.2.1.cs)++([.list (k.1.2.2.2.2.map BZ) .none]))))]),Rl78,by first | rfl | (simp +decide only [go_sem,Nat.reduceAdd,An hla0,or_true,Ao hla0,hf6,b,c,d,i,hf88,hf90,hf119,y];done),by first | rfl | (simp +decide only [go_sem,Nat.reduceAdd,An hla0,or_true,Ao hla0,hf6,b,c,d,i,hf88,hf90,hf119,y];done),O,h⟩ | exact cl
       replace h:=AX h y
       refine sk [0,4,8,16,17] hs ba ?_
       clear ba
       apply Ap;intro K126 a7
       obtain ⟨cc,da,dc,p,h⟩:=ix BZ h
       have u:(k.1.2.2.2.2.map BZ).getD 0 .junk=_:=p
       apply Ar 1 [0,4,8,16,17,19]
       rw [Aq];simp +decide only [go_sem,Nat.reduceAdd,An hla0,or_true,Ao hla0,hf6,b,c,d,i,hf88,hf90,hf119,y,p,u]
       (repeat' apply Ae)<;>first | refine a7 _ _ ?_ | exact cl
       clear a7
       refine AA (fun e st=>∃ (aa:Vl) (ae:List AV),Ck e st B Rw L [(4,true,.box B.length 0),(19,true,.box (B.length+2) 0)] [[Am 0,Am 0,.val (.string (⟨#[]⟩:ByteArray)),.list ([]) .full,.list ([]) .full],Am k.1.1::(.val (.string k.1.2.1)::(Am k.1.2.2.1::((k.1.2.2.2.1.cs)++([.list (k.1.2.2.2.2.map BZ) .none])))),ae] [] (ae.map AV.pubCell=aa.cs∧CS n a0 aa=some r)) ?_ ?_
       ·intro K130 ay
        apply Ap;intro K131 a9
        apply Ar 1 [0,4,8,16,17,19,196]
        rw [Aq];simp +decide only [go_sem,Nat.reduceAdd,An hla0,or_true,Ao hla0,hf6,b,c,d,i,hf88,hf90,hf119,y,p,u]
        (repeat' apply Ae)<;>first | refine a9 _ _ ?_ | exact cl
        clear a9
        refine AL (decide (E<(((y3.1.drop 1).length:Int)))) ev (by first | (simp +decide only [go_sem,Nat.reduceAdd,An hla0,or_true,Ao hla0,hf6,b,c,d,i,hf88,hf90,hf119,y,p,u];done) | (simp +decide only [go_sem,Nat.reduceAdd,An hla0,or_true,Ao hla0,hf6,b,c,d,i,hf88,hf90,hf119,y,p,u];rfl)) (fun J=>?_) (fun J=>?_)
        ·replace h:=AW h J
         apply Ap;intro K133 az
         obtain ⟨dh,h⟩:=Av h
         obtain ⟨a2,ck,h⟩:=bind_some h
         apply Gt OJ [11] [0,4,7,19] kr (fun s=>∃ (X:As) (rows:Ax) (c2:List AV),s=⟨B++([[Am 0,Am 0,.val (.string (⟨#[]⟩:ByteArray)),.list ([]) .full,.list ([]) .full],Am k.1.1::(.val (.string k.1.2.1)::(Am k.1.2.2.1::((k.1.2.2.2.1.cs)++([.list (k.1.2.2.2.2.map BZ) .none])))),c2]++X),rows,L⟩) 2 (B.length+3)
         ·simp +decide only [go_sem,Nat.reduceAdd]
         ·rintro s ⟨X,rows,c2,rfl⟩
          refine ⟨2,?_⟩
          rw [Aq];simp +decide only [go_sem,Nat.reduceAdd,Dw,An hla0,or_true,Ao hla0,hf6,b,c,d,i,hf88,hf90,hf119,y,p,u,J]
          (repeat' apply Ae)<;>first | refine Az _ (Ux w0 hP n _ _ _ cc ((y3.1.drop 1).drop E.toNat) _ ck) (by first | rfl | (simp +decide only [go_sem,Nat.reduceAdd,An hla0,or_true,Ao hla0,hf6,b,c,d,i,hf88,hf90,hf119,y,p,u,J];done) | (simp +decide only [go_sem,Nat.reduceAdd,Vl.cs,Ty.cs,An hla0,or_true,Ao hla0,hf6,b,c,d,i,hf88,hf90,hf119,y,p,u,J];done)) ?_ | exact cl
          rw [Aq];simp +decide only [go_sem,Nat.reduceAdd,An hla0,or_true,Ao hla0,hf6,b,c,d,i,hf88,hf90,hf119,y,p,u,J]
          (repeat' apply Ae)<;>first | rfl | exact cl
         ·exact gd (tg (a:=(11,[0,4,7,19]))) (Ae u (Ae p (Ae hf119 (Ae hf90 (Ae hf88 (Ae c (Ae b (Ae hf6 (Ae (Ao hla0) (Ae or_true (Ae (An hla0) hs)))))))))))
         simp +decide only [go_sem,Nat.reduceAdd,An hla0,or_true,Ao hla0,hf6,b,c,d,i,hf88,hf90,hf119,y,p,u,J]
         (repeat' apply Ae)<;>first | refine az _ _ ?_ | exact cl
         clear az
         apply Ap;intro K136 be
         apply Ar 1 [0,4,19,209]
         rw [Aq];simp +decide only [go_sem,Nat.reduceAdd,An hla0,or_true,Ao hla0,hf6,b,c,d,i,hf88,hf90,hf119,y,p,u,J]
         (repeat' apply Ae)<;>first | refine be _ _ ?_ | exact cl
         clear be
         refine AL (!(decide (a2.2=0))) ev (by first | (simp +decide only [go_sem,Nat.reduceAdd,An hla0,or_true,Ao hla0,hf6,b,c,d,i,hf88,hf90,hf119,y,p,u,J];done) | (simp +decide only [go_sem,Nat.reduceAdd,An hla0,or_true,Ao hla0,hf6,b,c,d,i,hf88,hf90,hf119,y,p,u,J];rfl)) (fun Y=>?_) (fun Y=>?_)
         ·replace h:=AW h Y
          refine sx [0,4] hs aj ?_
          exact ⟨([Am k.1.1::(.val (.string k.1.2.1)::(Am k.1.2.2.1::((k.1.2.2.2.1.cs)++([.list (k.1.2.2.2.2.map BZ) .none])))),a2.1.cs]),Rl78,by first | rfl | (simp +decide only [go_sem,Nat.reduceAdd,An hla0,or_true,Ao hla0,hf6,b,c,d,i,hf88,hf90,hf119,y,p,u,J,Y];done),by first | rfl | (simp +decide only [go_sem,Nat.reduceAdd,An hla0,or_true,Ao hla0,hf6,b,c,d,i,hf88,hf90,hf119,y,p,u,J,Y];done),O,h⟩
         replace h:=AX h Y
         refine sk [4,19] hs ay ?_
         exact ⟨a2.1,_,([]),Rl78,by first | rfl | (simp +decide only [go_sem,Nat.reduceAdd,An hla0,or_true,Ao hla0,hf6,b,c,d,i,hf88,hf90,hf119,y,p,u,J,Y];done),by first | rfl | (simp +decide only [go_sem,Nat.reduceAdd,An hla0,or_true,Ao hla0,hf6,b,c,d,i,hf88,hf90,hf119,y,p,u,J,Y];done),O,by first | rfl | (simp +decide only [go_sem,Nat.reduceAdd,An hla0,or_true,Ao hla0,hf6,b,c,d,i,hf88,hf90,hf119,y,p,u,J,Y];done),h⟩
        replace h:=AX h J
        refine sk [4,19] hs ay ?_
        exact ⟨cc,_,([]),Rl78,by first | rfl | (simp +decide only [go_sem,Nat.reduceAdd,An hla0,or_true,Ao hla0,hf6,b,c,d,i,hf88,hf90,hf119,y,p,u,J];done),by first | rfl | (simp +decide only [go_sem,Nat.reduceAdd,An hla0,or_true,Ao hla0,hf6,b,c,d,i,hf88,hf90,hf119,y,p,u,J];done),O,by first | rfl | (simp +decide only [go_sem,Nat.reduceAdd,An hla0,or_true,Ao hla0,hf6,b,c,d,i,hf88,hf90,hf119,y,p,u,J];done),h⟩
       ·clear h;rintro e st ⟨aa,ae,Xk129,Rk129,rfl,rfl,O,cn,h⟩
        rw [CS] at h
        refine Ba (B.length+2) (by first | rfl | (simp only [CG,BK,BJ,Bl];rfl)) cn ?_;simp +decide only [go_sem,Nat.reduceAdd]
        show Em _ _ _ _ _ _ _ _ [(4,true,.box B.length 0),(19,true,.box (B.length+2) 0)] ⟨B++([[Am 0,Am 0,.val (.string (⟨#[]⟩:ByteArray)),.list ([]) .full,.list ([]) .full],Am k.1.1::(.val (.string k.1.2.1)::(Am k.1.2.2.1::((k.1.2.2.2.1.cs)++([.list (k.1.2.2.2.2.map BZ) .none])))),aa.cs]++Xk129),Rk129,L⟩
        refine td hN av au t O ?_
        apply Ap;intro K138 a5
        apply Ar 1 [4,5]
        rw [Aq];simp +decide only [go_sem,Nat.reduceAdd,An hla0,or_true,Ao hla0,hf6,b,c,d,i,hf88,hf90,hf119,y,p,u]
        (repeat' apply Ae)<;>first | refine a5 _ _ ?_ | exact cl
        clear a5
        apply AN;simp +decide only [go_sem,Nat.reduceAdd,An hla0,or_true,Ao hla0,hf6,b,c,d,i,hf88,hf90,hf119,y,p,u]
        have hgt:=Option.some.inj h;subst hgt
        first | refine Br t rfl O.pre ev ⟨?_,(by first | rfl | exact congrArg (fun z=>St.mk z Rw L) (Ao hla0).symm | (simp +decide only [go_sem,Nat.reduceAdd,An hla0,or_true,Ao hla0,hf6,b,c,d,i,hf88,hf90,hf119,y,p,u];done))⟩ | refine Ci t rfl O.pre ev ⟨?_,(by first | rfl | exact congrArg (fun z=>St.mk z Rw L) (Ao hla0).symm | (simp +decide only [go_sem,Nat.reduceAdd,An hla0,or_true,Ao hla0,hf6,b,c,d,i,hf88,hf90,hf119,y,p,u];done))⟩
        first | rfl | (simp +decide only [go_sem,Nat.reduceAdd,An hla0,or_true,Ao hla0,hf6,b,c,d,i,hf88,hf90,hf119,y,p,u];done) | (simp +decide only [go_sem,Nat.reduceAdd,Vl.cs,Ty.cs,An hla0,or_true,Ao hla0,hf6,b,c,d,i,hf88,hf90,hf119,y,p,u];done)
   ·clear h;rintro e st ⟨Xk75,Rk75,rfl,rfl,O,h⟩
    rw [Bg] at h
    refine td hN av au t O ?_
    apply Ap;intro K139 ax
    apply Ar 1 [4]
    rw [Aq];simp +decide only [go_sem,Nat.reduceAdd,An hla0,or_true,Ao hla0,hf6,b,c,d,Ty.cs_eqs a0.mid]
    (repeat' apply Ae)<;>first | refine ax _ _ ?_ | exact cl
    clear ax
    apply Ap;intro K140 bc
    apply Ar 1 [4,5]
    rw [Aq];simp +decide only [go_sem,Nat.reduceAdd,An hla0,or_true,Ao hla0,hf6,b,c,d,Ty.cs_eqs a0.mid]
    (repeat' apply Ae)<;>first | refine bc _ _ ?_ | exact cl
    clear bc
    apply AN;simp +decide only [go_sem,Nat.reduceAdd,An hla0,or_true,Ao hla0,hf6,b,c,d,Ty.cs_eqs a0.mid]
    have hgt:=Option.some.inj h;subst hgt
    first | refine Br (A1 t ev) N9 O.pre ev ⟨?_,(by first | rfl | exact congrArg (fun z=>St.mk z Rw L) (Ao hla0).symm | (simp +decide only [go_sem,Nat.reduceAdd,An hla0,or_true,Ao hla0,hf6,b,c,d,Ty.cs_eqs a0.mid];done))⟩ | refine Ci (A1 t ev) N9 O.pre ev ⟨?_,(by first | rfl | exact congrArg (fun z=>St.mk z Rw L) (Ao hla0).symm | (simp +decide only [go_sem,Nat.reduceAdd,An hla0,or_true,Ao hla0,hf6,b,c,d,Ty.cs_eqs a0.mid];done))⟩
    first | rfl | (simp +decide only [go_sem,Nat.reduceAdd,An hla0,or_true,Ao hla0,hf6,b,c,d,Ty.cs_eqs a0.mid];done) | (simp +decide only [go_sem,Nat.reduceAdd,Vl.cs,Ty.cs,An hla0,or_true,Ao hla0,hf6,b,c,d,Ty.cs_eqs a0.mid];done)
def DU (rec:Cpm→Ex→Option (Ex × Cpm)) (n:Nat)  (b0_k18:Ex) (pla0_k18:Cpm):Option (Ex × Cpm) :=
 some ((b0_k18,pla0_k18))
def FH (rec:Cpm→Ex→Option (Ex × Cpm)) (n:Nat) (g:Ex) (b:List Ex) (pla0_k28:Cpm):Option (Ex × Cpm) :=
 some ((Ex.mk g.op g.int g.text g.value b,pla0_k28))
def Bi (rec:Cpm→Ex→Option (Ex × Cpm)) (n:Nat) (q:Ex):Nat→(List Ex)→Int→Cpm→Option (Ex × Cpm)
 | 0,_,_,_=>none
 | m+1,g,b,pla0_l31 =>
  if decide (b<(q.args.length:Int)) then
   (B6 q.args b).bind fun y =>
   (rec pla0_l31 y).bind fun h =>
   if (g.length+1)*80≤140737488355328∧g.length+1≤4611686018427387904 then
    if Bj (b+1) then
     (Bi rec n q m) (g++([h.1])) (b+1) h.2
    else none
   else none
  else
   FH rec n q g pla0_l31
def BA (rec:Cpm→Ex→Option (Ex × Cpm)) (n:Nat) (q:Cpm) (h:Ex) (g:Bool):Option (Ex × Cpm) :=
 if g then
  (Bc n q h.text).bind fun b =>
  if decide (b.1.op=2) then
   DU rec n (Ex.mk h.op h.int b.1.text h.value h.args) b.2.2
  else
   if (decide (h.op=22))&&b.2.1 then
    some ((Ex.mk 1 0 (⟨#[]⟩:ByteArray) ([Vl.mk 1 1 0 (⟨#[]⟩:ByteArray) ([]) ([])]) ([]),b.2.2))
   else
    DU rec n h (Cpm.mk b.2.2.first b.2.2.mid false)
 else
  Bi rec n h n ([]) 0 q
def Ez (rec:Cpm→Ex→Option (Ex × Cpm)) (n:Nat) (g:Cpm) (b:Ex):Option (Ex × Cpm) :=
 if decide (b.op=2) then
  (Bc n g b.text).bind fun h =>
  some ((h.1,h.2.2))
 else
  if decide (b.op=22) then
   BA rec n g b true
  else
   BA rec n g b (decide (b.op=26))
def Bh:Nat→Cpm→Ex→Option (Ex × Cpm)
 | 0,_,_=>none
 | n+1,b,g=>Ez (Bh n) n b g
def Gx (w0:World) (F:Cpm→Ex→Option (Ex × Cpm)):Prop:=∀ (B:As) (Rw:Ax) (L:Aw) (la0:Nat) (b:Cpm) (hla0:B[la0]? = some (.list (b.first.map AP) .none::((b.mid.cs)++([.val (.bool b.ok)])))) (g:Ex) (r:Ex × Cpm),F b g=some r→ACalls Tryz.prog w0 80 [.box la0 0,.agg (g.cs)] ⟨B,Rw,L⟩ fun x st=>x = .agg (r.1.cs)∧st=⟨(B.set la0 (.list (r.2.first.map AP) .none::((r.2.mid.cs)++([.val (.bool r.2.ok)])))),Rw,L⟩
theorem L9 (w0:World) (hE:Jl w0) (hM:Jh w0) (hP:Pow10 w0) (rec:Cpm→Ex→Option (Ex × Cpm)) (ih:Gx w0 rec) (n:Nat):Gx w0 (Ez rec n):=by
 intro B Rw L E a0 b a1 r h
 rw [Ez] at h
 refine hd [.cell 4 65] Tryz.func80 Tryz.ntmps80 fun M0 W0 Q G H c hu o hs=>?_
 simp only [AB]
 have af:=(Ak.1 b).1
 have hs:=Ae (An b) hs
 have hs:=Ae (Ao b) hs
 refine rg [0,3,4] hs ?_
 apply Ap;intro K2 ad
 refine rg [0,3,4,12] hs ?_
 apply Au
 refine rg [0,3,4,12,13] hs ?_
 refine Cj h hs ?_ ?_<;>intro hs h
 ·have i:=hs.1
  obtain ⟨y7,aj,h⟩:=bind_some h
  refine rc 2 [4,5] hs ?_;intro K6 Y
  refine Ey _ (HG w0 hE hM hP n _ _ _ E a0 (ef hs) a1.text _ aj) (hv hs) ?_;rintro _ _ ⟨rfl,rfl⟩
  refine ne hs Y ?_
  clear Y
  refine rg [4] hs ?_
  apply AN;simp +decide only [go_sem,Nat.reduceAdd,An b,Ao b,i]
  have hgt:=Option.some.inj h;subst hgt
  first | refine Br (A1 c ev) N9 o.pre ev ⟨?_,(by first | rfl | exact congrArg (fun z=>St.mk z Rw L) (Ao b).symm | (simp +decide only [go_sem,Nat.reduceAdd,An b,Ao b,i];done))⟩ | refine Ci (A1 c ev) N9 o.pre ev ⟨?_,(by first | rfl | exact congrArg (fun z=>St.mk z Rw L) (Ao b).symm | (simp +decide only [go_sem,Nat.reduceAdd,An b,Ao b,i];done))⟩
  first | rfl | (simp +decide only [go_sem,Nat.reduceAdd,An b,Ao b,i];done) | (simp +decide only [go_sem,Nat.reduceAdd,Vl.cs,Ty.cs,An b,Ao b,i];done)
 have i:=hs.1
 refine AA (fun e st=>∃ (t:Bool),Ck e st B Rw L [(0,true,.box E 0),(3,true,.box B.length 0),(4,true,.box (B.length+1) 0),(23,true,.val (.bool t))] [a1.cs,[Am 0,Am 0,.val (.string (⟨#[]⟩:ByteArray)),.list ([]) .full,.list ([]) .full]] [] (BA rec n a0 a1 t=some r)) ?_ ?_
 ·intro K11 ae
  exact go (tg (a:=([0,3,4,12,23],([0,3,4,23],()),[0,3,4,23],()))) h hs Q G H c o trivial (q1 ae)
 ·clear h;rintro e st ⟨t,Xk10,Rk10,rfl,rfl,o,h⟩
  rw [BA] at h
  refine td Q G H c o ?_
  refine Cj h hs ?_ ?_<;>intro hs h
  ·have f:=hs.1
   obtain ⟨F,Z,h⟩:=bind_some h
   refine rc 2 [0,3,4,7,8] hs ?_;intro K15 N
   refine Ey _ (HG w0 hE hM hP n _ _ _ E a0 (ef hs) a1.text _ Z) (hv hs) ?_;rintro _ _ ⟨rfl,rfl⟩
   refine ne hs N ?_
   clear N
   refine AA (fun e st=>∃ (q:Ex) (d:Cpm) (v:List AV) (Xk18:As) (Rk18:Ax),e=[(3,true,.box B.length 0),(4,true,.box (B.length+1) 0)]∧st=⟨(B.set E (.list (d.first.map AP) .none::((d.mid.cs)++([.val (.bool d.ok)]))))++([v,[Am 0,Am 0,.val (.string (⟨#[]⟩:ByteArray)),.list ([]) .full,.list ([]) .full],F.1.cs]++Xk18),Rk18,L⟩∧Owns Rw Rk18 []∧v.map AV.pubCell=q.cs∧DU rec n q d=some r) ?_ ?_
   ·intro K19 K
    apply Au
    refine rg [0,3,4,7,8,36] hs ?_
    refine Cj h hs ?_ ?_<;>intro hs h
    ·have D:=hs.1
     have hs:=Ae (Ex.cs_eqs a1) hs
     refine rl [3,4] hs K ?_
     exact ⟨(Ex.mk a1.op a1.int F.1.text a1.value a1.args),F.2.2,([Am a1.op,Am a1.int,.val (.string F.1.text),.list (a1.value.map BZ) .none,.list (a1.args.map NE) .none]),([]),Rk10,ef (cm hs),ef (cm hs),o,ef (cm hs),h⟩
    have D:=hs.1
    refine rg [0,3,4,43] hs ?_
    refine Cj h hs ?_ ?_<;>intro hs h
    ·have C:=hs.1
     refine rg [4] hs ?_
     apply AN;simp +decide only [go_sem,Nat.reduceAdd,An b,Ao b,i,f,D,C]
     have hgt:=Option.some.inj h;subst hgt
     first | refine Br (A1 c ev) N9 o.pre ev ⟨?_,(by first | rfl | exact congrArg (fun z=>St.mk z Rw L) (Ao b).symm | (simp +decide only [go_sem,Nat.reduceAdd,An b,Ao b,i,f,D,C];done))⟩ | refine Ci (A1 c ev) N9 o.pre ev ⟨?_,(by first | rfl | exact congrArg (fun z=>St.mk z Rw L) (Ao b).symm | (simp +decide only [go_sem,Nat.reduceAdd,An b,Ao b,i,f,D,C];done))⟩
     first | rfl | (simp +decide only [go_sem,Nat.reduceAdd,An b,Ao b,i,f,D,C];done) | (simp +decide only [go_sem,Nat.reduceAdd,Vl.cs,Ty.cs,An b,Ao b,i,f,D,C];done)
    have C:=hs.1
    have hs:=Ae (Ty.cs_eqs F.2.2.mid) hs
    refine rl [3,4] hs K ?_
    exact ⟨a1,(Cpm.mk F.2.2.first F.2.2.mid false),a1.cs,([]),Rk10,ef (cm hs),ef (cm hs),o,ef (cm hs),h⟩
   ·clear h;rintro e st ⟨q,d,v,Xk18,Rk18,rfl,rfl,o,ah,h⟩
    rw [DU] at h
    refine Ba B.length (by first | rfl | (simp only [CG,BK,BJ,Bl];rfl)) ah ?_;simp +decide only [go_sem,Nat.reduceAdd]
    show Em _ _ _ _ _ _ _ _ [(3,true,.box B.length 0),(4,true,.box (B.length+1) 0)] ⟨(B.set E (.list (d.first.map AP) .none::((d.mid.cs)++([.val (.bool d.ok)]))))++([q.cs,[Am 0,Am 0,.val (.string (⟨#[]⟩:ByteArray)),.list ([]) .full,.list ([]) .full],F.1.cs]++Xk18),Rk18,L⟩
    refine A4 Q G H N9 (A1 c ev) o ow ow ?_
    refine rg [4] hs ?_
    apply AN;simp +decide only [go_sem,Nat.reduceAdd,An b,Ao b,i,f]
    have hgt:=Option.some.inj h;subst hgt
    first | refine Br (A1 c ev) N9 o.pre ev ⟨?_,(by first | rfl | exact congrArg (fun z=>St.mk z Rw L) (Ao b).symm | (simp +decide only [go_sem,Nat.reduceAdd,An b,Ao b,i,f];done))⟩ | refine Ci (A1 c ev) N9 o.pre ev ⟨?_,(by first | rfl | exact congrArg (fun z=>St.mk z Rw L) (Ao b).symm | (simp +decide only [go_sem,Nat.reduceAdd,An b,Ao b,i,f];done))⟩
    first | rfl | (simp +decide only [go_sem,Nat.reduceAdd,An b,Ao b,i,f];done) | (simp +decide only [go_sem,Nat.reduceAdd,Vl.cs,Ty.cs,An b,Ao b,i,f];done)
  have f:=hs.1
  refine sk [0,3,4] hs ad ?_
  clear ad
  refine rg [0,3,4,9] hs ?_
  refine AA (fun e st=>∃ (p:List Ex) (j:Cpm) (u:Ev.Own) (Xk28:As) (Rk28:Ax),e=[(3,true,.box B.length 0),(4,true,.box (B.length+1) 0),(9,true,.list (p.map NE) u)]∧st=⟨(B.set E (.list (j.first.map AP) .none::((j.mid.cs)++([.val (.bool j.ok)]))))++([a1.cs,[Am 0,Am 0,.val (.string (⟨#[]⟩:ByteArray)),.list ([]) .full,.list ([]) .full]]++Xk28),Rk28,L⟩∧Owns Rw Rk28 [(5,p.length,u)]∧FH rec n a1 p j=some r) ?_ ?_
  ·intro K29 V
   refine rg [0,3,4,9,10] hs ?_
   apply Au
   refine AC (fun m e st=>∃ (k:List Ex) (w:Int) (g:Cpm) (x:Ev.Own) (Xl31:As) (Rl31:Ax),e=[(0,true,.box E 0),(3,true,.box B.length 0),(4,true,.box (B.length+1) 0),(9,true,.list (k.map NE) x),(10,true,Am w)]∧st=⟨(B.set E (.list (g.first.map AP) .none::((g.mid.cs)++([.val (.bool g.ok)]))))++([a1.cs,[Am 0,Am 0,.val (.string (⟨#[]⟩:ByteArray)),.list ([]) .full,.list ([]) .full]]++Xl31),Rl31,L⟩∧Owns Rw Rl31 [(5,k.length,x)]∧Bi rec n a1 m k w g=some r) n ⟨([]),0,a0,.full,([]),Rk10,ef hs,ef hs,Owns.of_eq ((o).full 5 0) E0,h⟩ ?_
   rintro ml31 e st ⟨k,w,g,x,Xl31,Rl31,rfl,rfl,o,h⟩ Ul31 Vl31
   cases ml31 with
   | zero=>cases h
   | succ ml31 =>
   rw [Bi] at h
   have hU:=o.unders
   simp only [List.mem_cons,List.not_mem_nil,or_false,forall_eq_or_imp,forall_eq] at hU
   refine A4 Q G H N9 (A1 c ev) o ow ow ?_
   apply Ap;intro K32 J
   refine rg [0,3,4,9,10,58] hs ?_
   refine Cj h hs ?_ ?_<;>intro hs h
   rotate_left
   ·exact go (tg (a:=([3,4,9],()))) h hs Q G H c o trivial (q1 V)
   refine sk [0,3,4,9,10] hs J ?_
   clear J
   apply Ap;intro K35 aa
   apply Au
   obtain ⟨ai,am,ak,U,h⟩:=ix NE h
   obtain ⟨ap,ab,h⟩:=bind_some h
   obtain ⟨O,h⟩:=Av h
   obtain ⟨ao,ag,o,l⟩:=o.append (P:=Tryz.prog) XM (by rw [RE];rfl) (by decide) 1 O.1 O.2
   replace l:=fun (ys:List AV) B L o2=>l (k.map NE) ys B L o2 E0
   replace l:=fun (y:AV) B L o2=>l [y] B L o2 E0 ev
   try simp only [List.mem_singleton,List.mem_cons,List.not_mem_nil,or_false,forall_eq_or_imp,forall_eq,List.map_append,List.map_cons,List.map_nil,Ge,Gi,F3,ES,EY,F7,Dn,D5,F2,CN,CM,Ej,D7,Ef,F4,Ee,FZ] at l
   have hs:=Ae U hs
   have hs:=Ae l hs
   refine rk 2 [0,3,4,9,10] hs ?_
   refine Ey _ (ih _ _ _ E g (ef hs) ai _ ab) (hv hs) ?_;rintro _ _ ⟨rfl,rfl⟩
   exact go (tg (a:=([0,3,4,9,10],()))) h hs Q G H c o trivial (q2 aa (fun e s=>Vl31 ml31 e s (Nat.lt_succ_self _)))
  ·clear h;rintro e st ⟨p,j,u,Xk28,Rk28,rfl,rfl,o,h⟩
   rw [FH] at h
   have hU:=o.unders
   simp only [List.mem_cons,List.not_mem_nil,or_false,forall_eq_or_imp,forall_eq] at hU
   refine A4 Q G H N9 (A1 c ev) o ow ow ?_
   have hs:=Ae (Ex.cs_eqs a1) hs
   refine rg [3,4] hs ?_
   refine rg [4] hs ?_
   apply AN;simp +decide only [go_sem,Nat.reduceAdd,An b,Ao b,i,f,Ex.cs_eqs a1]
   have hgt:=Option.some.inj h;subst hgt
   first | refine Br (A1 c ev) N9 o.pre ev ⟨?_,(by first | rfl | exact congrArg (fun z=>St.mk z Rw L) (Ao b).symm | (simp +decide only [go_sem,Nat.reduceAdd,An b,Ao b,i,f,Ex.cs_eqs a1];done))⟩ | refine Ci (A1 c ev) N9 o.pre ev ⟨?_,(by first | rfl | exact congrArg (fun z=>St.mk z Rw L) (Ao b).symm | (simp +decide only [go_sem,Nat.reduceAdd,An b,Ao b,i,f,Ex.cs_eqs a1];done))⟩
   first | rfl | (simp +decide only [go_sem,Nat.reduceAdd,An b,Ao b,i,f,Ex.cs_eqs a1];done) | (simp +decide only [go_sem,Nat.reduceAdd,Vl.cs,Ty.cs,An b,Ao b,i,f,Ex.cs_eqs a1];done)
theorem F9 (w0:World) (hE:Jl w0) (hM:Jh w0) (hP:Pow10 w0):∀ n:Nat,Gx w0 (Bh n)
 | 0=>fun _ _ _ _ _ _ _ _ h=>(nomatch h)
 | n+1=>L9 w0 hE hM hP (Bh n) (F9 w0 hE hM hP n) n
def NU (n:Nat)  : Option Int :=
 some (0)
def Gq (n:Nat) (q:List (ByteArray × Ex)):Nat→Int→Option Int
 | 0,_=>none
 | m+1,b =>
  if decide (b<(q.length:Int)) then
   (B6 q b).bind fun h =>
   (GK n h.2).bind fun g =>
   if !(decide (g=0)) then
    some (g)
   else
    if Bj (b+1) then
     (Gq n q m) (b+1)
    else none
  else
   NU n 
def I4 (n:Nat) (b:List (ByteArray × Ex)):Option Int :=
 Gq n b n 0
theorem N8 (w0:World) (hE:Jl w0) (hM:Jh w0) (hP:Pow10 w0) (hT:Lib.Utf8Tabs 2 3 w0) (n:Nat) (B:As) (Rw:Ax) (L:Aw) (a0:List (ByteArray × Ex)) (r:Int) (h:I4 n a0=some r) :
  ACalls Tryz.prog w0 79 [.agg ([.list (a0.map AP) .none])] ⟨B,Rw,L⟩ fun x st=>x=Am r∧st=⟨B,Rw,L⟩:=by
 rw [I4] at h
 refine hd [.tmp 2] Tryz.func79 Tryz.ntmps79 fun M0 W0 v g k b D d hs=>?_
 simp only [AB]
 refine rg [1] hs ?_
 refine AA (fun e st=>Ck e st B Rw L [] [[.list (a0.map AP) .none]] [] (NU n  = some r)) ?_ ?_
 ·intro K4 z
  refine rg [7,8,9] hs ?_
  apply Au
  refine AC (fun m e st=>∃ (c:Int),Ck e st B Rw L [(7,true,.list (a0.map AP) .none),(8,true,Am (a0.length:Int)),(9,true,Am c)] [[.list (a0.map AP) .none]] [] (Gq n a0 m c=some r)) n ⟨0,([]),Rw,ef hs,ef hs,d,h⟩ ?_
  rintro ml6 e st ⟨c,Xl6,Rl6,rfl,rfl,d,h⟩ Ul6 Vl6
  cases ml6 with
  | zero=>cases h
  | succ ml6 =>
  rw [Gq] at h
  refine td v g k b d ?_
  refine rg [7,8,9,10] hs ?_
  apply Ap;intro K8 t
  refine Cj h hs ?_ ?_<;>intro hs h
  rotate_left
  ·refine sx [] hs z ?_
   exact ⟨([]),Rl6,ef hs,ef hs,d,h⟩
  refine sk [7,8,9] hs t ?_
  clear t
  apply Ap;intro K10 q
  apply Au
  obtain ⟨y,o,h⟩:=bind_some h
  obtain ⟨w,u,i⟩:=Bt o
  have j:=Bv (f:=AP) i
  have hs:=Ae j hs
  refine rg [4,7,8,9] hs ?_
  obtain ⟨C,p,h⟩:=bind_some h
  refine rc 2 [5,7,8,9] hs ?_;intro K13 l
  refine Az _ (MZ w0 hE hM hP hT n _ _ _ y.2 _ p) (hv hs) ?_
  exact go (tg (a:=([5,7,8,9,17],([2],()),[7,8,9],[7,8,9],()))) h hs v g k b d trivial (q3 l q (fun e s=>Vl6 ml6 e s (Nat.lt_succ_self _)))
 ·clear h;rintro e st ⟨Xk3,Rk3,rfl,rfl,d,h⟩
  rw [NU] at h
  refine td v g k b d ?_
  refine rg [2] hs ?_
  exact rt h hs b d
def Kq (n:Nat) (g:Ty):Option Int :=
 (JO n g).bind fun b =>
 if !(decide (b=0)) then
  some (b)
 else
  if !(decide (g.kind=9)) then
   some (11)
  else
   some (0)
theorem XO (w0:World) (hT:Lib.Utf8Tabs 2 3 w0) (n:Nat) (B:As) (Rw:Ax) (L:Aw) (a0:Ty) (r:Int) (h:Kq n a0=some r) :
  ACalls Tryz.prog w0 65 [.agg (a0.cs)] ⟨B,Rw,L⟩ fun x st=>x=Am r∧st=⟨B,Rw,L⟩:=by
 rw [Kq] at h
 refine hd [.tmp 2] Tryz.func65 Tryz.ntmps65 fun M0 W0 e d c b g f hs=>?_
 simp only [AB]
 exact go (tg (a:=([1],[1,3],[1,3,7],([2],()),[1],[11],([2],()),[],[2],()))) h hs e d c b f (q1 (Qz w0 hT n)) trivial
end Go.Proofs.YtmcnjijeocmkgaaGreatDoor
