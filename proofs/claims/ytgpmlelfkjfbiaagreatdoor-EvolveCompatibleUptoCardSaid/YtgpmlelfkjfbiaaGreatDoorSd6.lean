/-
  Part 6 of the proof: rules and walks that the claim's last text uses.
-/
import Derived.Lib.ItoaLen
import Derived.Test.YtgpmlelfkjfbiaaGreatDoorSd5
set_option linter.unusedSimpArgs false
set_option linter.unusedVariables false
set_option maxRecDepth 100000
set_option maxHeartbeats 4000000
namespace Go.Proofs.YtgpmlelfkjfbiaaGreatDoor
open Go Go.RowKit Go.Ev
def CB (n:Nat) (q:List (ByteArray × Vl)) (y:ByteArray) (s:(ByteArray × Vl)→ByteArray→Option Int) (b:Int):Option (Int × Bool) :=
 if decide (b<(q.length:Int)) then
  (Cb q b).bind fun h =>
  (s h y).bind fun g =>
  some ((b,decide (g=0)))
 else
  some ((b,false))
def AZ (n:Nat) (q:List (ByteArray × Vl)) (h:ByteArray) (s:(ByteArray × Vl)→ByteArray→Option Int):Nat→Int→Int→Option (Int × Bool)
 | 0,_,_=>none
 | m+1,g,b =>
  if decide (g<b) then
   if BR (g+b) then
    if 0≤(g+b)∧(g+b)≤18446744073709551615 then
     if 0≤(g+b) then
      if BR ((g+b) / 2) then
       (Cb q ((g+b) / 2)).bind fun x18 =>
       (s x18 h).bind fun y =>
       if decide (y<0) then
        if BR (((g+b) / 2)+1) then
         (AZ n q h s m) (((g+b) / 2)+1) b
        else none
       else
        (AZ n q h s m) g ((g+b) / 2)
      else none
     else none
    else none
   else none
  else
   CB n q h s g
def CU (n:Nat) (b:List (ByteArray × Vl)) (g:ByteArray) (h:(ByteArray × Vl)→ByteArray→Option Int):Option (Int × Bool) :=
 AZ n b g h n 0 (b.length:Int)
theorem JE (w0:World) (n:Nat) (B:List (List AV)) (Rw:List RowA) (L:List LoopA) (oa0:VO) (a0:List (ByteArray × Vl)) (hVa0:VP Rw oa0 7 (a0.flatMap fun x=>(BI x).cells)) (a1:ByteArray) (fa2:FuncId) (ca2:List AV) (a2:(ByteArray × Vl)→ByteArray→Option Int) (ha2:∀ (x0:ByteArray × Vl) (x1:ByteArray) r,a2 x0 x1=some r→∀ B' rows,B <+: B'→Rw <+: rows→ACalls Tryz.prog w0 fa2 ([.agg (.val (.string x0.1)::(x0.2.cs)),.val (.string x1)]++ca2) ⟨B',rows,L⟩ fun v s=>v = .val (.int .i64 r)∧s=⟨B',rows,L⟩) (r:Int × Bool) (h:CU n a0 a1 a2=some r) :
  ACalls Tryz.prog w0 139 [LF oa0 a0.length,.val (.string a1),.clo fa2 ca2] ⟨B,Rw,L⟩ fun x st=>x = .tup [.val (.int .i64 r.1),.val (.bool r.2)]∧st=⟨B,Rw,L⟩:=by
 rw [CU] at h
 refine hd [.tmp 6,.tmp 7] Tryz.func139 Tryz.ntmps139 fun M0 W0 hN Q E d hu c hs=>?_
 simp only [Am]
 have j:=B6 (hu (.clo fa2 ca2) (by simp))
 refine rg [0,1,2] hs ?_
 apply Aa;intro K2 J
 have G:=(hVa0.up c).lenV (by decide:0<7) (Jv (f:=BI) (sz:=7) (fun _=>by simp +decide only [go_sem]) a0) Tryz.prog 44
 simp +decide only [go_sem] at G
 have hs:=And.intro G hs
 refine rl [0,1,2,8] hs J ?_
 clear J
 refine rg [0,1,2,8,9,10] hs ?_
 refine Ak (fun e st=>∃ (g:Int),Ck e st B Rw L [(0,true,LF oa0 a0.length),(1,true,.val (.string a1)),(2,true,.clo fa2 ca2),(8,true,.val (.int .i64 (a0.length:Int))),(9,true,.val (.int .i64 g))] [] [] (CB n a0 a1 a2 g=some r)) ?_ ?_
 ·intro K7 ae
  apply Ad
  refine Ap (fun m e st=>∃ (b:Int) (a:Int),Ck e st B Rw L [(0,true,LF oa0 a0.length),(1,true,.val (.string a1)),(2,true,.clo fa2 ca2),(8,true,.val (.int .i64 (a0.length:Int))),(9,true,.val (.int .i64 b)),(10,true,.val (.int .i64 a))] [] [] (AZ n a0 a1 a2 m b a=some r)) n ⟨0,(a0.length:Int),([]),Rw,ef hs,ef hs,c,h⟩ ?_
  rintro ml8 e st ⟨b,a,Xl8,Rl8,rfl,rfl,c,h⟩ Ul8 Vl8
  cases ml8 with
  | zero=>cases h
  | succ ml8 =>
  rw [AZ] at h
  have i:=(hVa0.up c).under;(try simp only [Qs] at i)
  refine AH hN Q E rfl d c (Jm j c) (Jm j c) ?_
  apply Aa;intro K9 N
  refine rg [0,1,2,8,9,10,17] hs ?_
  refine Av h hs (fun hs h=>?_) (fun hs h=>?_)
  rotate_left
  ·refine sx [0,1,2,8,9] hs ae ?_
   exact ⟨b,([]),Rl8,ef hs,ef hs,c,h⟩
  refine sk [0,1,2,8,9,10] hs N ?_
  clear N
  apply Ad
  obtain ⟨aq,h⟩:=Ac h
  obtain ⟨ao,h⟩:=Ac h
  obtain ⟨am,h⟩:=Ac h
  obtain ⟨ai,h⟩:=Ac h
  refine rg [0,1,2,8,9,10,11] hs ?_
  apply Aa;intro K17 D
  obtain ⟨aa,F,h⟩:=bind_some h
  obtain ⟨V,Z,o⟩:=Ao F
  obtain ⟨aj,af,hqx18,ab,q⟩:=(hVa0.up c).row (by rw [(Jv (f:=BI) (sz:=7) (fun _=>by simp +decide only [go_sem]) _)];exact Nat.mul_pos (by omega) (by decide))
  subst hqx18
  have w:=Zc (f:=BI) (sz:=7) (fun _=>by simp +decide only [go_sem]) o
  have p:=Hu (f:=fun x=>(BI x).cells) 7 (fun _=>by simp +decide only [go_sem]) o
  have u:=Jv (f:=BI) (sz:=7) (fun _=>by simp +decide only [go_sem]) a0
  simp only [Fp,FA,FH,FB,FC,E1,D6,DY,Fj,CO,CH,D7,D3,D5,JL] at w p q u
  obtain ⟨ar,H,h⟩:=bind_some h
  have hs:=And.intro w hs
  have hs:=And.intro p hs
  have hs:=And.intro q hs
  have hs:=And.intro u hs
  refine rk 2 [0,1,2,8,9,10,11,31] hs ?_
  refine FY _ (ha2 aa a1 _ H _ _ px c.pre) (hv hs) ?_
  refine ne hs D ?_
  clear D
  refine Av h hs (fun hs h=>?_) (fun hs h=>?_)
  ·obtain ⟨ap,h⟩:=Ac h
   refine rl [0,1,2,8,9,10] hs (fun e s=>Vl8 ml8 e s (Nat.lt_succ_self _)) ?_
   exact ⟨(((b+a) / 2)+1),a,([]),Rl8,ef hs,ef hs,c,h⟩
  refine rl [0,1,2,8,9,10] hs (fun e s=>Vl8 ml8 e s (Nat.lt_succ_self _)) ?_
  exact ⟨b,((b+a) / 2),([]),Rl8,ef hs,ef hs,c,h⟩
 ·clear h;rintro e st ⟨g,Xk6,Rk6,rfl,rfl,c,h⟩
  rw [CB] at h
  have i:=(hVa0.up c).under;(try simp only [Qs] at i)
  refine AH hN Q E rfl d c (Jm j c) (Jm j c) ?_
  apply Aa;intro K24 k
  rcases Bool.eq_false_or_eq_true (decide (g<(a0.length:Int))) with hf25 | hf25
  ·replace h:=AO h hf25
   obtain ⟨ad,K,h⟩:=bind_some h
   obtain ⟨ah,ag,t⟩:=Ao K
   obtain ⟨ak,Y,hqx26,U,l⟩:=(hVa0.up c).row (by rw [(Jv (f:=BI) (sz:=7) (fun _=>by simp +decide only [go_sem]) _)];exact Nat.mul_pos (by omega) (by decide))
   subst hqx26
   have z:=Zc (f:=BI) (sz:=7) (fun _=>by simp +decide only [go_sem]) t
   have C:=Hu (f:=fun x=>(BI x).cells) 7 (fun _=>by simp +decide only [go_sem]) t
   have y:=Jv (f:=BI) (sz:=7) (fun _=>by simp +decide only [go_sem]) a0
   simp only [Fp,FA,FH,FB,FC,E1,D6,DY,Fj,CO,CH,D7,D3,D5,JL] at z C l y
   obtain ⟨au,O,h⟩:=bind_some h
   have hs:=And.intro hf25 hs
   have hs:=And.intro z hs
   have hs:=And.intro C hs
   have hs:=And.intro l hs
   have hs:=And.intro y hs
   refine rk 2 [6,7] hs ?_
   refine FY _ (ha2 ad a1 _ O _ _ px c.pre) (hv hs) ?_
   refine ne hs k ?_
   clear k
   exact rt h hs d c
  ·replace h:=AN h hf25
   have hs:=And.intro hf25 hs
   refine rk 2 [6,7] hs ?_
   refine As ?_
   refine ne hs k ?_
   clear k
   exact rt h hs d c
def DF (rec:Ty→Vl→Option Vl) (n:Nat) (g:Int→(List (ByteArray × Vl))→Option Vl) (b:Int) (b3_k28_5:List (ByteArray × Vl)):Option Vl :=
 if BR (b+1) then
  g (b+1) b3_k28_5
 else none
def I3 (rec:Ty→Vl→Option Vl) (n:Nat) (b:Vl) (b3_k20_5:List (ByteArray × Vl)):Option Vl :=
 some (Vl.mk b.kind b.int b.scale b.text b.list b3_k20_5)
def Bi (rec:Ty→Vl→Option Vl) (n:Nat) (s:Ty) (q:Vl):Nat→Int→(List (ByteArray × Vl))→Option Vl
 | 0,_,_=>none
 | m+1,b,b3_l23_5 =>
  if decide (b<(s.fields.length:Int)) then
   (Cb s.fields b).bind fun g =>
   if (!(decide (g.2.2.1=3)))||(!(decide ((g.2.2.2.2.length:Int)=1))) then
    DF rec n (Bi rec n s q m) b b3_l23_5
   else
    (CU n b3_l23_5 g.2.1 (fun (x0:ByteArray × Vl) (x1:ByteArray)=>some (Fo x0 x1))).bind fun h =>
    if !h.2 then
     (Cb g.2.2.2.2 0).bind fun y =>
     if (0≤h.1∧h.1≤(b3_l23_5.length:Int))∧(b3_l23_5.length+1)*104≤140737488355328∧b3_l23_5.length+1≤4611686018427387904 then
      DF rec n (Bi rec n s q m) b (L9 b3_l23_5 h.1 ((g.2.1,y)))
     else none
    else
     DF rec n (Bi rec n s q m) b b3_l23_5
  else
   I3 rec n q b3_l23_5
def II (rec:Ty→Vl→Option Vl) (n:Nat) (h:Ty) (b:Vl):Option Vl :=
 if !(decide (b.kind=h.kind)) then
  some (b)
 else
  (Hr n b).bind fun y7 =>
  if !y7 then
   some (b)
  else
   if decide (h.kind=9) then
    (J0 n h b (fun (s:Ty) (q:Vl)=>rec s q)).bind fun g =>
    Bi rec n h g n 0 g.fields
   else
    (KZ n h b (fun (s:Ty) (q:Vl)=>rec s q)).bind fun y =>
    some (y)
def CN:Nat→Ty→Vl→Option Vl
 | 0,_,_=>none
 | n+1,g,b=>II (CN n) n g b
def Kt (w0:World) (F:Ty→Vl→Option Vl):Prop:=∀ (B:List (List AV)) (Rw:List RowA) (L:List LoopA) (g:Ty) (b:Vl) (r:Vl),F g b=some r→ACalls Tryz.prog w0 82 [.agg (g.cs),.agg (b.cs)] ⟨B,Rw,L⟩ fun x st=>x = .agg (r.cs)∧st=⟨B,Rw,L⟩
theorem Qe (w0:World) (hT:Lib.Utf8Tabs 0 1 w0) (rec:Ty→Vl→Option Vl) (ih:Kt w0 rec) (n:Nat):Kt w0 (II rec n):=by
 intro B Rw L a0 a1 r h
 rw [II] at h
 refine hd [.cell 4 46] Tryz.func82 Tryz.ntmps82 fun M0 W0 hN U K l hu p hs=>?_
 simp only [Am]
 refine rg [2,3,4] hs ?_
 apply Aa;intro K2 af
 apply Aa;intro K3 z
 rcases Bool.eq_false_or_eq_true (!(decide (a1.kind=a0.kind))) with hf4 | hf4
 ·replace h:=AO h hf4
  have hs:=And.intro hf4 hs
  refine rk 2 [2,3,4,19] hs ?_
  refine As ?_
  refine ne hs z ?_
  clear z
  refine AP true ev (ef hs) (fun hb5=>?_) (fun hb5=>by cases hb5)
  refine rg [4] hs ?_
  exact rt h hs l p
 ·replace h:=AN h hf4
  obtain ⟨y7,au,h⟩:=bind_some h
  have hs:=And.intro hf4 hs
  refine rk 2 [2,3,4,19] hs ?_
  refine Ab _ (Po w0 hT n _ _ _ a1 _ au) (hv hs) ?_
  refine ne hs z ?_
  clear z
  refine Av h hs (fun hs h=>?_) (fun hs h=>?_)
  ·have aa:=hs.1
   refine rg [4] hs ?_
   exact rt h hs l p
  have aa:=hs.1
  refine sk [2,3,4] hs af ?_
  clear af
  apply Aa;intro K10 q
  rcases Bool.eq_false_or_eq_true (decide (a0.kind=9)) with hf11 | hf11
  ·replace h:=AO h hf11
   obtain ⟨j,V,h⟩:=bind_some h
   have hs:=And.intro hf11 hs
   refine rk 2 [2,4,5] hs ?_
   refine Bo _ (Vo w0 n _ _ _ a0 a1 82 [] (fun (x0:Ty) (x1:Vl)=>rec x0 x1) (fun x0 x1 r hx B' w ah Z=>by exact ih _ _ _ x0 x1 _ hx) _ V) (hv hs) ?_;rintro _ _ ⟨am,Rv15,rfl,rfl,y⟩
   have p:=p.callV y
   refine ne hs q ?_
   clear q
   apply Aa;intro K16 D
   refine rg [2,4,5,26] hs ?_
   refine AP false ev (ef hs) (fun hb18=>by cases hb18) (fun hb18=>?_)
   refine sk [2,4,5] hs D ?_
   clear D
   refine Ak (fun e st=>∃ (k:List (ByteArray × Vl)) (o:VO) (Xk20:List (List AV)) (Rk20:List RowA),e=[(4,true,.box (B.length+2) 0),(5,true,.box (B.length+3) 0)]∧st=⟨B++([a0.cs,a1.cs,[.val (.int .i64 0),.val (.int .i64 0),.val (.int .i64 0),.val (.string ((⟨#[]⟩:ByteArray))),.list ([]) .full,.list ([]) .full],[.val (.int .i64 j.kind),.val (.int .i64 j.int),.val (.int .i64 j.scale),.val (.string j.text),.list (j.list.map A1) .none,LF o k.length]]++Xk20),Rk20,L⟩∧Owns Rw Rk20 [] .none [(o,7,k.flatMap fun x=>(BI x).cells)]∧I3 rec n j k=some r) ?_ ?_
   ·intro K21 Y
    refine rg [4,5,29,30,31] hs ?_
    apply Ad
    refine Ap (fun m e st=>∃ (d:Int) (a:List (ByteArray × Vl)) (b:VO) (Xl23:List (List AV)) (Rl23:List RowA),e=[(4,true,.box (B.length+2) 0),(5,true,.box (B.length+3) 0),(29,true,.list (a0.fields.map Cd) .none),(30,true,.val (.int .i64 (a0.fields.length:Int))),(31,true,.val (.int .i64 d))]∧st=⟨B++([a0.cs,a1.cs,[.val (.int .i64 0),.val (.int .i64 0),.val (.int .i64 0),.val (.string ((⟨#[]⟩:ByteArray))),.list ([]) .full,.list ([]) .full],[.val (.int .i64 j.kind),.val (.int .i64 j.int),.val (.int .i64 j.scale),.val (.string j.text),.list (j.list.map A1) .none,LF b a.length]]++Xl23),Rl23,L⟩∧Owns Rw Rl23 [] .none [(b,7,a.flatMap fun x=>(BI x).cells)]∧Bi rec n a0 j m d a=some r) n ⟨0,j.fields,am,([]),Rv15,ef hs,ef hs,Owns.eqV (p) fn_,h⟩ ?_
    rintro ml23 e st ⟨d,a,b,Xl23,Rl23,rfl,rfl,p,h⟩ Ul23 Vl23
    cases ml23 with
    | zero=>cases h
    | succ ml23 =>
    rw [Bi] at h
    have t:=p.underV
    simp only [List.mem_cons,List.not_mem_nil,or_false,forall_eq_or_imp,forall_eq] at t
    refine AH hN U K rfl l p ow ow ?_ (vu @PH)
    refine rg [4,5,29,30,31,32] hs ?_
    apply Aa;intro K25 G
    refine Av h hs (fun hs h=>?_) (fun hs h=>?_)
    rotate_left
    ·refine sx [4,5] hs Y ?_
     exact ⟨a,b,([]),Rl23,ef hs,ef hs,Owns.eqV (p) fn_,h⟩
    refine sk [4,5,29,30,31] hs G ?_
    clear G
    refine Ak (fun e st=>∃ (c:List (ByteArray × Vl)) (i:VO) (Xk28:List (List AV)) (Rk28:List RowA),e=[(4,true,.box (B.length+2) 0),(5,true,.box (B.length+3) 0),(29,true,.list (a0.fields.map Cd) .none),(30,true,.val (.int .i64 (a0.fields.length:Int))),(31,true,.val (.int .i64 d))]∧st=⟨B++([a0.cs,a1.cs,[.val (.int .i64 0),.val (.int .i64 0),.val (.int .i64 0),.val (.string ((⟨#[]⟩:ByteArray))),.list ([]) .full,.list ([]) .full],[.val (.int .i64 j.kind),.val (.int .i64 j.int),.val (.int .i64 j.scale),.val (.string j.text),.list (j.list.map A1) .none,LF i c.length]]++Xk28),Rk28,L⟩∧Owns Rw Rk28 [] .none [(i,7,c.flatMap fun x=>(BI x).cells)]∧DF rec n (Bi rec n a0 j ml23) d c=some r) ?_ ?_
    ·intro K29 u
     apply Ad
     obtain ⟨g,ag,h⟩:=bind_some h
     obtain ⟨aq,ar,J⟩:=Ao ag
     have Q:=Aq (f:=Cd) J
     have hs:=And.intro Q hs
     refine rg [4,5,7,29,30,31] hs ?_
     apply Aa;intro K32 F
     refine rg [4,5,7,29,30,31,43] hs ?_
     refine Av h hs (fun hs h=>?_) (fun hs h=>?_)
     ·refine sx [4,5,29,30,31] hs u ?_
      exact ⟨a,b,([.val (.int .i64 g.1)::(.val (.string g.2.1)::(.val (.int .i64 g.2.2.1)::((g.2.2.2.1.cs)++([.list (g.2.2.2.2.map A1) .none]))))]),Rl23,ef hs,ef hs,Owns.eqV (p) fn_,h⟩
     refine sk [4,5,7,29,30,31] hs F ?_
     clear F
     apply Aa;intro K35 E
     obtain ⟨aj,hy36,h⟩:=bind_some h
     refine Yj 0 (by decide) ?_
     refine rk 2 [4,5,7,8,9,29,30,31] hs ?_
     refine ZdF [false,true,true] _ (JE w0 n _ _ _ b a p.vp g.2.1 140 [] (fun (x0:ByteArray × Vl) (x1:ByteArray)=>some (Fo x0 x1)) (fun x0 x1 r hx B' w ah Z=>by cases hx;exact P2 w0 _ _ _ x0 x1) _ hy36) (hv hs) ?_
     refine ne hs E ?_
     clear E
     refine rg [4,5,7,8,29,30,31,53] hs ?_
     refine Av h hs (fun hs h=>?_) (fun hs h=>?_)
     ·obtain ⟨ad,ap,ao,v,h⟩:=ix A1 h
      have N:(g.2.2.2.2.map A1).getD 0 .junk=_:=v
      obtain ⟨ai,h⟩:=Ac h
      obtain ⟨ab,H,C,p,O⟩:=ZD w0 p aj.1 ai ((g.2.1,ad))
      refine Yj 0 (by decide) ?_
      have hs:=And.intro v hs
      have hs:=And.intro N hs
      refine dj 11 1 2 [4,5,29,30,31] hs Gm ?_
      refine ZbO [false,true,true] _ (O _ _ _) (hv hs) ?_;rintro _ _ ⟨rfl,rfl⟩
      refine ne hs u ?_
      exact ⟨(L9 a aj.1 ((g.2.1,ad))),((.row ab H)),([.val (.int .i64 g.1)::(.val (.string g.2.1)::(.val (.int .i64 g.2.2.1)::((g.2.2.2.1.cs)++([.list (g.2.2.2.2.map A1) .none]))))]),C,ef hs,ef hs,Owns.eqV (p) fn_,h⟩
     refine sk [4,5,29,30,31] hs u ?_
     exact ⟨a,b,([.val (.int .i64 g.1)::(.val (.string g.2.1)::(.val (.int .i64 g.2.2.1)::((g.2.2.2.1.cs)++([.list (g.2.2.2.2.map A1) .none]))))]),Rl23,ef hs,ef hs,Owns.eqV (p) fn_,h⟩
    ·clear h;rintro e st ⟨c,i,Xk28,Rk28,rfl,rfl,p,h⟩
     rw [DF] at h
     have t:=p.underV
     simp only [List.mem_cons,List.not_mem_nil,or_false,forall_eq_or_imp,forall_eq] at t
     refine AH hN U K rfl l p ow ow ?_ (vu @PH)
     obtain ⟨aw,h⟩:=Ac h
     refine rl [4,5,29,30,31] hs (fun e s=>Vl23 ml23 e s (Nat.lt_succ_self _)) ?_
     exact ⟨(d+1),c,i,([]),Rk28,ef hs,ef hs,Owns.eqV (p) fn_,h⟩
   ·clear h;rintro e st ⟨k,o,Xk20,Rk20,rfl,rfl,p,h⟩
    rw [I3] at h
    have t:=p.underV
    simp only [List.mem_cons,List.not_mem_nil,or_false,forall_eq_or_imp,forall_eq] at t
    refine AH hN U K rfl l p ow ow ?_ (vu @PH)
    refine rg [4] hs ?_
    refine Yy (B.length+2) 5 (by first | rfl | (simp only [HL,Gs];rfl) | (simp +decide only [go_sem,Nat.reduceAdd,hf4,aa,hf11])) (by first | rfl | (simp only [ZfH,List.length_set];rfl)) p true (.inl rfl) (by decide) ((Jv (f:=BI) (sz:=7) (fun _=>by simp +decide only [go_sem]) _)) (ZfD (f:=BI) 7 (fun _=>rfl) (fun _=>by simp +decide only [go_sem]) _) (fun ak p=>?_)
    simp +decide only [go_sem,Nat.reduceAdd,List.set_cons_zero,List.set_cons_succ]
    exact rt h hs l p
  ·replace h:=AN h hf11
   obtain ⟨ax,ae,h⟩:=bind_some h
   have hs:=And.intro hf11 hs
   refine rk 2 [2,4,5] hs ?_
   refine Ab _ (WU w0 n _ _ _ a0 a1 82 [] (fun (x0:Ty) (x1:Vl)=>rec x0 x1) (fun x0 x1 r hx B' w ah Z=>by exact ih _ _ _ x0 x1 _ hx) _ ae) (hv hs) ?_
   refine ne hs q ?_
   clear q
   apply Aa;intro K49 av
   refine rg [2,4,5,26] hs ?_
   refine AP true ev (ef hs) (fun hb51=>?_) (fun hb51=>by cases hb51)
   refine rg [4] hs ?_
   exact rt h hs l p
theorem NI (w0:World) (hT:Lib.Utf8Tabs 0 1 w0):∀ n:Nat,Kt w0 (CN n)
 | 0=>fun _ _ _ _ _ _ h=>(nomatch h)
 | n+1=>Qe w0 hT (CN n) (NI w0 hT n) n
end Go.Proofs.YtgpmlelfkjfbiaaGreatDoor
namespace Go.Ev
open Go Go.RowKit
theorem Qv {i j:Nat} (h:i≠j):∀ (B:List (List AV)) (a b:List AV),(B.set i a).set j b=(B.set j b).set i a:=fun B a b=>List.set_comm _ _ h
theorem Jz (i:Nat):∀ (B:List (List AV)) (a b:List AV),(B.set i a).set i b=B.set i b:=fun B a b=>List.set_set a
theorem Ls {B:List (List AV)} {l:Nat} {cs:List AV} (h:B[l]? = some cs) (i j:Nat):∀ (X:List (List AV)) (a b c:List AV),((B.set i a).set j b++X).set l c=((B.set i a).set j b).set l c++X:=fun X a b c=>List.set_append_left _ _ (by rw [List.length_set,List.length_set];exact (List.getElem?_eq_some_iff.1 h).1)
theorem Xx {B:List (List AV)} {l j:Nat} {cs:List AV} (h:B[l]? = some cs) (hne:j≠l) :
  (∀ a b X R L o,Dt ⟨(B.set l a).set j b++X,R,L⟩ (.box l o)=true)∧(∀ a b R L o,Dt ⟨(B.set l a).set j b,R,L⟩ (.box l o)=true)∧(∀ a b X R L o,Bc ⟨(B.set l a).set j b++X,R,L⟩ (.box l o)=a)∧(∀ a b R L o,Bc ⟨(B.set l a).set j b,R,L⟩ (.box l o)=a) ∧
  (∀ a b X,((B.set l a).set j b++X)[l]? = some a)∧(∀ a b,((B.set l a).set j b)[l]? = some a)∧(∀ a b X,((B.set l a).set j b++X).getD l []=a)∧(∀ a b,((B.set l a).set j b).getD l []=a):=by
 have c:∀ a,(B.set l a)[l]? = some a:=fun a=>List.getElem?_set_self (List.getElem?_eq_some_iff.1 h).1
 exact ⟨fun a b X R L o=>(CS (c a) hne).1 X R L o b,fun a b R L o=>(CS (c a) hne).2.1 R L o b,fun a b X R L o=>(CS (c a) hne).2.2.1 X R L o b,fun a b R L o=>(CS (c a) hne).2.2.2.1 R L o b,
  fun a b X=>(CS (c a) hne).2.2.2.2.1 X b,fun a b=>(CS (c a) hne).2.2.2.2.2.1 b,fun a b X=>(CS (c a) hne).2.2.2.2.2.2.1 X b,fun a b=>(CS (c a) hne).2.2.2.2.2.2.2 b⟩
theorem Tf {B:List (List AV)} {l i:Nat} {cs:List AV} (h:B[l]? = some cs) (hne:i≠l) :
  (∀ a b X R L o,Dt ⟨(B.set i a).set l b++X,R,L⟩ (.box l o)=true)∧(∀ a b R L o,Dt ⟨(B.set i a).set l b,R,L⟩ (.box l o)=true)∧(∀ a b X R L o,Bc ⟨(B.set i a).set l b++X,R,L⟩ (.box l o)=b)∧(∀ a b R L o,Bc ⟨(B.set i a).set l b,R,L⟩ (.box l o)=b) ∧
  (∀ a b X,((B.set i a).set l b++X)[l]? = some b)∧(∀ a b,((B.set i a).set l b)[l]? = some b)∧(∀ a b X,((B.set i a).set l b++X).getD l []=b)∧(∀ a b,((B.set i a).set l b).getD l []=b):=by
 have c:∀ a b,((B.set i a).set l b)[l]? = some b:=fun a b=>List.getElem?_set_self (by rw [List.length_set];exact (List.getElem?_eq_some_iff.1 h).1)
 exact ⟨fun a b X R L o=>(Af (c a b)).1 X R L o,fun a b R L o=>(Af (c a b)).2.1 R L o,fun a b X R L o=>(Af (c a b)).2.2.1 X R L o,fun a b R L o=>(Af (c a b)).2.2.2.1 R L o,
  fun a b X=>(Af (c a b)).2.2.2.2.1 X,c,fun a b X=>(Af (c a b)).2.2.2.2.2.2.1 X,fun a b=>(Af (c a b)).2.2.2.2.2.2.2.1⟩
theorem X9 (B:List (List AV)) (i j:Nat) (c d:List AV):((B.set i c).set j d).length=B.length:=by simp only [List.length_set]
@[go_sem] theorem Zid (B X:List (List AV)) (R:List RowA) (L:List LoopA) (i j k o:Nat) (c d:List AV):Dt ⟨(B.set i c).set j d++X,R,L⟩ (.box (B.length+k) o)=decide (k<X.length):=by have h:=Zbv ((B.set i c).set j d) X R L k o;rwa [X9] at h
@[go_sem] theorem ZgQ (B X:List (List AV)) (R:List RowA) (L:List LoopA) (i j o:Nat) (c d:List AV):Dt ⟨(B.set i c).set j d++X,R,L⟩ (.box B.length o)=decide (0<X.length):=by have h:=ZR ((B.set i c).set j d) X R L o;rwa [X9] at h
@[go_sem] theorem Zcr (B X:List (List AV)) (i j k:Nat) (c d:List AV):((B.set i c).set j d++X).getD (B.length+k) []=X.getD k []:=by have h:=Wb (B.set i c) X j k d;rwa [List.length_set] at h
@[go_sem] theorem ZbC (B X:List (List AV)) (i j:Nat) (c d:List AV):((B.set i c).set j d++X).getD B.length []=X.getD 0 []:=by have h:=TZ (B.set i c) X j d;rwa [List.length_set] at h
@[go_sem] theorem Zge (B X:List (List AV)) (R:List RowA) (L:List LoopA) (i j k o:Nat) (c d:List AV):Bc ⟨(B.set i c).set j d++X,R,L⟩ (.box (B.length+k) o)=X.getD k []:=Zcr B X i j k c d
@[go_sem] theorem ZfT (B X:List (List AV)) (R:List RowA) (L:List LoopA) (i j o:Nat) (c d:List AV):Bc ⟨(B.set i c).set j d++X,R,L⟩ (.box B.length o)=X.getD 0 []:=ZbC B X i j c d
@[go_sem] theorem ZkS (B X:List (List AV)) (i j k:Nat) (c d x:List AV):((B.set i c).set j d++X).set (B.length+k) x=(B.set i c).set j d++X.set k x:=by have h:=Zcy (B.set i c) X j k d x;rwa [List.length_set] at h
@[go_sem] theorem ZjZ (B X:List (List AV)) (i j:Nat) (c d x:List AV):((B.set i c).set j d++X).set B.length x=(B.set i c).set j d++X.set 0 x:=by have h:=Zbg (B.set i c) X j d x;rwa [List.length_set] at h
@[go_sem] theorem ZkQ (B X:List (List AV)) (i j k:Nat) (c d:List AV):((B.set i c).set j d++X)[B.length+k]? = X[k]? := by have h:=HG (B.set i c) X j k d;rwa [List.length_set] at h
@[go_sem] theorem Zkb (B X:List (List AV)) (i j:Nat) (c d:List AV):((B.set i c).set j d++X)[B.length]? = X[0]? := by have h:=Gx (B.set i c) X j d;rwa [List.length_set] at h
theorem Zfd {P:Program} {w0:World} {n:Nat} {M0:Mem} {W0:World} {ro:Option Nat} {c:Code} {Q:AQ} {e:Env} {B B' X:List (List AV)} {R:List RowA} {L:List LoopA} (h:B'=B) (k:Gq P w0 n M0 W0 ro c Q e ⟨B'++X,R,L⟩):Gq P w0 n M0 W0 ro c Q e ⟨B++X,R,L⟩:=h▸k
theorem Ii {P:Program} {w0:World} {st:St} {d:Bool} {fv:AV} {args:List AV} {k:AV→St→Prop} (h:k (.val (.bool false)) st):Lh P w0 false d fv args st k := .inl ⟨.val (.bool false),fun q=>(nomatch q),h⟩
end Go.Ev
namespace Go.Proofs.YtgpmlelfkjfbiaaGreatDoor
open Go Go.RowKit Go.Ev
def Nu (g:ByteArray × Int) (b:Bool):Option (Bool × Bool) :=
 some ((false,false))
theorem Vi (w0:World) (B:List (List AV)) (Rw:List RowA) (L:List LoopA) (a0:ByteArray × Int) (la1:Nat) (a1:Bool) (hla1:B[la1]? = some ([.val (.bool a1)])) (r:Bool × Bool) (h:Nu a0 a1=some r) :
  ACalls Tryz.prog w0 92 [.agg (.val (.string a0.1)::([.val (.int .i64 a0.2)])),.box la1 0] ⟨B,Rw,L⟩ fun x st=>x = .val (.bool r.1)∧st=⟨(B.set la1 [.val (.bool r.2)]),Rw,L⟩:=by
 rw [Nu] at h
 refine hd [.tmp 3] Tryz.func92 Tryz.ntmps92 fun M0 W0 f e d a g c hs=>?_
 simp only [Am]
 have b:=(List.getElem?_eq_some_iff.1 hla1).1
 have hs:=And.intro (Af hla1) hs
 refine rg [1] hs ?_
 refine rg [] hs ?_
 refine rg [3] hs ?_
 apply AW;simp +decide only [go_sem,Nat.reduceAdd,Af hla1]
 have hgt:=Option.some.inj h;subst hgt
 first | refine DC (Ah a ev) HI c.pre ev ⟨?_,rfl⟩ | refine E6 (Ah a ev) HI c.pre ev ⟨?_,rfl⟩
 first | rfl | (simp +decide only [go_sem,Nat.reduceAdd,Af hla1];done) | (simp +decide only [go_sem,Nat.reduceAdd,Vl.cs,Ty.cs,Af hla1];done)
def A9 (a0_done:Bool) (x0_ok:Bool) (g:ByteArray) (h:Int):Option (Bool × Bool) :=
 if !a0_done then
  (Nu ((g,h)) x0_ok).bind fun b =>
  if !b.1 then
   some ((true,b.2))
  else
   some ((a0_done,b.2))
 else
  some ((a0_done,x0_ok))
theorem BW (w0:World) (B:List (List AV)) (Rw:List RowA) (L:List LoopA) (lx0_ok:Nat) (la0:Nat) (a0_done:Bool) (hla0:B[la0]? = some ([.clo 92 [.box lx0_ok 0],.val (.bool a0_done)])) (x0_ok:Bool) (hlx0_ok:B[lx0_ok]? = some ([.val (.bool x0_ok)])) (hne_lx0_ok_la0:lx0_ok≠la0) (a1:ByteArray) (a2:Int) (r:Bool × Bool) (h:A9 a0_done x0_ok a1 a2=some r) :
  ACalls Tryz.prog w0 155 [.box la0 0,.val (.string a1),.val (.int .i64 a2)] ⟨B,Rw,L⟩ fun x st=>x = .tup []∧st=⟨((B.set la0 ([.clo 92 [.box lx0_ok 0],.val (.bool r.1)])).set lx0_ok [.val (.bool r.2)]),Rw,L⟩:=by
 rw [A9] at h
 refine hd [] Tryz.func155 Tryz.ntmps155 fun M0 W0 l k j a n f hs=>?_
 simp only [Am]
 have g:=(List.getElem?_eq_some_iff.1 hla0).1
 have e:=(List.getElem?_eq_some_iff.1 hlx0_ok).1
 have b:=And.intro (Af hla0) (And.intro (Af hlx0_ok) (And.intro (CS hla0 hne_lx0_ok_la0) (And.intro (CS hlx0_ok (Ne.symm hne_lx0_ok_la0)) (And.intro (Qv hne_lx0_ok_la0) (And.intro (LH hla0 lx0_ok) (And.intro (LH hlx0_ok la0) (And.intro (Ls hla0 la0 lx0_ok) (And.intro (Ls hlx0_ok la0 lx0_ok) (And.intro (Jz lx0_ok) (And.intro (Jz la0) (And.intro (Xx hla0 hne_lx0_ok_la0) (Tf hlx0_ok (Ne.symm hne_lx0_ok_la0)))))))))))))
 apply Aa;intro K1 d
 rcases Bool.eq_false_or_eq_true (!a0_done) with hf2 | hf2
 ·replace h:=AO h hf2
  obtain ⟨m,i,h⟩:=bind_some h
  have hs:=And.intro b hs
  have hs:=And.intro hf2 hs
  refine rk 2 [0,21] hs ?_
  refine Bo _ (Vi w0 _ _ _ ((a1,a2)) lx0_ok x0_ok (ef hs) _ i) (hv hs) ?_;rintro _ _ ⟨rfl,rfl⟩
  refine ne hs d ?_
  clear d
  refine Av h hs (fun hs h=>?_) (fun hs h=>?_)
  ·have c:=hs.1
   apply Ag 1 []
   rw [Ae];simp +decide only [go_sem,Nat.reduceAdd,b,hf2,c]
   (repeat' with_reducible apply And.intro)<;>first | exact cl | skip
   have hgt:=Option.some.inj h;subst hgt
   first | refine DC (Ah (Ah a ow) ow) HI f.pre ev ⟨?_,by first | rfl | (simp only [Ai hla0,Ai hlx0_ok];done)⟩ | refine E6 (Ah (Ah a ow) ow) HI f.pre ev ⟨?_,by first | rfl | (simp only [Ai hla0,Ai hlx0_ok];done)⟩
   first | rfl | (simp +decide only [go_sem,Nat.reduceAdd,b,hf2,c];done) | (simp +decide only [go_sem,Nat.reduceAdd,Vl.cs,Ty.cs,b,hf2,c];done)
  have c:=hs.1
  refine DO (Do [] _) ?_ (Ba _ _)
  apply Bd;simp +decide only [go_sem,Nat.reduceAdd]
  (repeat' with_reducible apply And.intro)<;>first | exact cl | skip
  have hgt:=Option.some.inj h;subst hgt
  first | refine DC (Ah a ow) HI f.pre ev ⟨?_,by first | rfl | (simp only [Ai hla0,Ai hlx0_ok];done)⟩ | refine E6 (Ah a ow) HI f.pre ev ⟨?_,by first | rfl | (simp only [Ai hla0,Ai hlx0_ok];done)⟩
  first | rfl | (simp +decide only [go_sem,Nat.reduceAdd,b,hf2,c];done) | (simp +decide only [go_sem,Nat.reduceAdd,Vl.cs,Ty.cs,b,hf2,c];done)
 ·replace h:=AN h hf2
  have hs:=And.intro b hs
  have hs:=And.intro hf2 hs
  refine rk 2 [0,21] hs ?_
  refine As ?_
  refine ne hs d ?_
  clear d
  refine AP false ev (ef hs) (fun hb5=>by cases hb5) (fun hb5=>?_)
  refine DO (Do [] _) ?_ (Ba _ _)
  apply Bd;simp +decide only [go_sem,Nat.reduceAdd]
  (repeat' with_reducible apply And.intro)<;>first | exact cl | skip
  have hgt:=Option.some.inj h;subst hgt
  first | refine DC a rfl f.pre ev ⟨?_,by first | rfl | (simp only [Ai hla0,Ai hlx0_ok];done)⟩ | refine E6 a rfl f.pre ev ⟨?_,by first | rfl | (simp only [Ai hla0,Ai hlx0_ok];done)⟩
  first | rfl | (simp +decide only [go_sem,Nat.reduceAdd,b,hf2];done) | (simp +decide only [go_sem,Nat.reduceAdd,Vl.cs,Ty.cs,b,hf2];done)
def Bl (a0_done:Bool) (x0_ok:Bool) (b:Ty) (q:ByteArray) (g:Int):Option (Bool × Bool) :=
 if (decide (g<b.min))||(decide (b.max<g)) then
  (A9 a0_done x0_ok q 2).bind fun h =>
  some ((h.1,h.2))
 else
  some ((a0_done,x0_ok))
theorem EC (w0:World) (B:List (List AV)) (Rw:List RowA) (L:List LoopA) (lx0_ok:Nat) (la0:Nat) (a0_done:Bool) (hla0:B[la0]? = some ([.clo 92 [.box lx0_ok 0],.val (.bool a0_done)])) (x0_ok:Bool) (hlx0_ok:B[lx0_ok]? = some ([.val (.bool x0_ok)])) (hne_lx0_ok_la0:lx0_ok≠la0) (a1:Ty) (a2:ByteArray) (a3:Int) (r:Bool × Bool) (h:Bl a0_done x0_ok a1 a2 a3=some r) :
  ACalls Tryz.prog w0 156 [.box la0 0,.agg (a1.cs),.val (.string a2),.val (.int .i64 a3)] ⟨B,Rw,L⟩ fun x st=>x = .tup []∧st=⟨((B.set la0 ([.clo 92 [.box lx0_ok 0],.val (.bool r.1)])).set lx0_ok [.val (.bool r.2)]),Rw,L⟩:=by
 rw [Bl] at h
 refine hd [] Tryz.func156 Tryz.ntmps156 fun M0 W0 k j i a m e hs=>?_
 simp only [Am]
 have f:=(List.getElem?_eq_some_iff.1 hla0).1
 have d:=(List.getElem?_eq_some_iff.1 hlx0_ok).1
 have c:=And.intro (Af hla0) (And.intro (Af hlx0_ok) (And.intro (CS hla0 hne_lx0_ok_la0) (And.intro (CS hlx0_ok (Ne.symm hne_lx0_ok_la0)) (And.intro (Qv hne_lx0_ok_la0) (And.intro (LH hla0 lx0_ok) (And.intro (LH hlx0_ok la0) (And.intro (Ls hla0 la0 lx0_ok) (And.intro (Ls hlx0_ok la0 lx0_ok) (And.intro (Jz lx0_ok) (And.intro (Jz la0) (And.intro (Xx hla0 hne_lx0_ok_la0) (Tf hlx0_ok (Ne.symm hne_lx0_ok_la0)))))))))))))
 have hs:=And.intro c hs
 refine rg [0,2,3,5] hs ?_
 refine rg [0,2,17] hs ?_
 refine Av h hs (fun hs h=>?_) (fun hs h=>?_)
 ·have b:=hs.1
  obtain ⟨l,g,h⟩:=bind_some h
  apply Ag 2 []
  rw [Ae];simp +decide only [go_sem,Nat.reduceAdd,c,b]
  (repeat' apply And.intro)<;>first | (refine Bo _ (BW w0 _ _ _ lx0_ok la0 a0_done (ef hs) x0_ok (ef hs) nq a2 2 _ g) (hv hs) ?_;rintro _ _ ⟨rfl,rfl⟩) | exact cl
  rw [Ae];simp +decide only [go_sem,Nat.reduceAdd,c,b]
  (repeat' with_reducible apply And.intro)<;>first | exact cl | skip
  have hgt:=Option.some.inj h;subst hgt
  first | refine DC (Ah (Ah a ow) ow) HI e.pre ev ⟨?_,by first | rfl | (simp only [Ai hla0,Ai hlx0_ok];done)⟩ | refine E6 (Ah (Ah a ow) ow) HI e.pre ev ⟨?_,by first | rfl | (simp only [Ai hla0,Ai hlx0_ok];done)⟩
  first | rfl | (simp +decide only [go_sem,Nat.reduceAdd,c,b];done) | (simp +decide only [go_sem,Nat.reduceAdd,Vl.cs,Ty.cs,c,b];done)
 have b:=hs.1
 refine DO (Do [] _) ?_ (Ba _ _)
 apply Bd;simp +decide only [go_sem,Nat.reduceAdd]
 (repeat' with_reducible apply And.intro)<;>first | exact cl | skip
 have hgt:=Option.some.inj h;subst hgt
 first | refine DC a rfl e.pre ev ⟨?_,by first | rfl | (simp only [Ai hla0,Ai hlx0_ok];done)⟩ | refine E6 a rfl e.pre ev ⟨?_,by first | rfl | (simp only [Ai hla0,Ai hlx0_ok];done)⟩
 first | rfl | (simp +decide only [go_sem,Nat.reduceAdd,c,b];done) | (simp +decide only [go_sem,Nat.reduceAdd,Vl.cs,Ty.cs,c,b];done)
def GW (b:ByteArray) (g:ByteArray):Option ByteArray :=
 if Dz b ((⟨#[]⟩:ByteArray)) then
  some (g)
 else
  if b.size+((⟨#[46]⟩:ByteArray)).size≤9223372036854775807 then
   if (b++((⟨#[46]⟩:ByteArray))).size+g.size≤9223372036854775807 then
    some ((b++((⟨#[46]⟩:ByteArray)))++g)
   else none
  else none
theorem Nh (w0:World) (B:List (List AV)) (Rw:List RowA) (L:List LoopA) (a0:ByteArray) (a1:ByteArray) (r:ByteArray) (h:GW a0 a1=some r) :
  ACalls Tryz.prog w0 202 [.val (.string a0),.val (.string a1)] ⟨B,Rw,L⟩ fun x st=>x = .val (.string r)∧st=⟨B,Rw,L⟩:=by
 rw [GW] at h
 refine hd [.tmp 4] Tryz.func202 Tryz.ntmps202 fun M0 W0 k j i a l g hs=>?_
 simp only [Am]
 refine rg [0,1] hs ?_
 apply Aa;intro K2 c
 refine rg [0,1,6] hs ?_
 refine Av h hs (fun hs h=>?_) (fun hs h=>?_)
 ·refine rg [4] hs ?_
  exact rt h hs a g
 refine sk [0,1] hs c ?_
 clear c
 obtain ⟨e,h⟩:=Ac h
 have b:=e
 try simp +decide only [go_sem] at b
 obtain ⟨f,h⟩:=Ac h
 have d:=f
 try simp +decide only [go_sem] at d
 refine rg [4] hs ?_
 exact rt h hs a g
def BA (rec:Bool→Bool→Ty→Vl→ByteArray→Option (Bool × Bool)) (n:Nat) (g:Int→Bool→Bool→Option (Bool × Bool)) (b:Int) (pla0_k11_1:Bool) (plx0_ok_k11:Bool):Option (Bool × Bool) :=
 if BR (b+1) then
  g (b+1) pla0_k11_1 plx0_ok_k11
 else none
def CC (rec:Bool→Bool→Ty→Vl→ByteArray→Option (Bool × Bool)) (n:Nat) (g:Int→Bool→Bool→Option (Bool × Bool)) (b:Int) (pla0_k32_1:Bool) (plx0_ok_k32:Bool):Option (Bool × Bool) :=
 if BR (b+1) then
  g (b+1) pla0_k32_1 plx0_ok_k32
 else none
def Be (rec:Bool→Bool→Ty→Vl→ByteArray→Option (Bool × Bool)) (n:Nat) (a1:Ty) (q:Vl) (y:ByteArray):Nat→Int→Bool→Bool→Option (Bool × Bool)
 | 0,_,_,_=>none
 | m+1,b,pla0_l27_1,plx0_ok_l27 =>
  if decide (b<(q.fields.length:Int)) then
   (Cb q.fields b).bind fun h =>
   (CV n a1 h.1).bind fun y37 =>
   if !y37.2 then
    (GW y h.1).bind fun s =>
    (A9 pla0_l27_1 plx0_ok_l27 s 6).bind fun g =>
    CC rec n (Be rec n a1 q y m) b g.1 g.2
   else
    CC rec n (Be rec n a1 q y m) b pla0_l27_1 plx0_ok_l27
  else
   some ((pla0_l27_1,plx0_ok_l27))
def EV (rec:Bool→Bool→Ty→Vl→ByteArray→Option (Bool × Bool)) (n:Nat) (b:Ty) (h:Vl) (g:ByteArray) (pla0_k3_1:Bool) (plx0_ok_k3:Bool):Option (Bool × Bool) :=
 Be rec n b h g n 0 pla0_k3_1 plx0_ok_k3
def A7 (rec:Bool→Bool→Ty→Vl→ByteArray→Option (Bool × Bool)) (n:Nat) (h:Ty) (a2:Vl) (q:ByteArray):Nat→Int→Bool→Bool→Option (Bool × Bool)
 | 0,_,_,_=>none
 | m+1,b,pla0_l6_1,plx0_ok_l6 =>
  if decide (b<(h.fields.length:Int)) then
   (Cb h.fields b).bind fun g =>
   (Ht n a2 g.2.1).bind fun s =>
   if s.2 then
    (GW q g.2.1).bind fun y19 =>
    (rec pla0_l6_1 plx0_ok_l6 g.2.2.2.1 s.1 y19).bind fun y =>
    BA rec n (A7 rec n h a2 q m) b y.1 y.2
   else
    if !(decide (g.2.2.1=2)) then
     (GW q g.2.1).bind fun y23 =>
     (A9 pla0_l6_1 plx0_ok_l6 y23 5).bind fun y24 =>
     BA rec n (A7 rec n h a2 q m) b y24.1 y24.2
    else
     BA rec n (A7 rec n h a2 q m) b pla0_l6_1 plx0_ok_l6
  else
   EV rec n h a2 q pla0_l6_1 plx0_ok_l6
def Hz (rec:Bool→Bool→Ty→Vl→ByteArray→Option (Bool × Bool)) (n:Nat) (a0_done:Bool) (x0_ok:Bool) (b:Ty) (h:Vl) (g:ByteArray):Option (Bool × Bool) :=
 A7 rec n b h g n 0 a0_done x0_ok
theorem N6 (w0:World) (rec:Bool→Bool→Ty→Vl→ByteArray→Option (Bool × Bool)) (ih:∀ (B:List (List AV)) (Rw:List RowA) (L:List LoopA) (lx0_ok:Nat) (la0:Nat) (a0_done:Bool) (hla0:B[la0]? = some ([.clo 92 [.box lx0_ok 0],.val (.bool a0_done)])) (x0_ok:Bool) (hlx0_ok:B[lx0_ok]? = some ([.val (.bool x0_ok)])) (hne_lx0_ok_la0:lx0_ok≠la0) (a1:Ty) (a2:Vl) (a3:ByteArray) (r:Bool × Bool) (h:rec a0_done x0_ok a1 a2 a3=some r),ACalls Tryz.prog w0 93 [.box la0 0,.agg (a1.cs),.agg (a2.cs),.val (.string a3)] ⟨B,Rw,L⟩ fun x st=>x = .tup []∧st=⟨((B.set la0 ([.clo 92 [.box lx0_ok 0],.val (.bool r.1)])).set lx0_ok [.val (.bool r.2)]),Rw,L⟩) (n:Nat) (B:List (List AV)) (Rw:List RowA) (L:List LoopA) (lx0_ok:Nat) (la0:Nat) (a0_done:Bool) (hla0:B[la0]? = some ([.clo 92 [.box lx0_ok 0],.val (.bool a0_done)])) (x0_ok:Bool) (hlx0_ok:B[lx0_ok]? = some ([.val (.bool x0_ok)])) (hne_lx0_ok_la0:lx0_ok≠la0) (a1:Ty) (a2:Vl) (a3:ByteArray) (r:Bool × Bool) (h:Hz rec n a0_done x0_ok a1 a2 a3=some r) :
  ACalls Tryz.prog w0 158 [.box la0 0,.agg (a1.cs),.agg (a2.cs),.val (.string a3)] ⟨B,Rw,L⟩ fun x st=>x = .tup []∧st=⟨((B.set la0 ([.clo 92 [.box lx0_ok 0],.val (.bool r.1)])).set lx0_ok [.val (.bool r.2)]),Rw,L⟩:=by
 rw [Hz] at h
 refine hd [] Tryz.func158 Tryz.ntmps158 fun M0 W0 hN O H w hu z hs=>?_
 simp only [Am]
 have ax:=(List.getElem?_eq_some_iff.1 hla0).1
 have aa:=(List.getElem?_eq_some_iff.1 hlx0_ok).1
 have C:=And.intro (Af hla0) (And.intro (Af hlx0_ok) (And.intro (CS hla0 hne_lx0_ok_la0) (And.intro (CS hlx0_ok (Ne.symm hne_lx0_ok_la0)) (And.intro (Qv hne_lx0_ok_la0) (And.intro (LH hla0 lx0_ok) (And.intro (LH hlx0_ok la0) (And.intro (Ls hla0 la0 lx0_ok) (And.intro (Ls hlx0_ok la0 lx0_ok) (And.intro (Jz lx0_ok) (And.intro (Jz la0) (And.intro (Xx hla0 hne_lx0_ok_la0) (Tf hlx0_ok (Ne.symm hne_lx0_ok_la0)))))))))))))
 have hs:=And.intro C hs
 refine rg [0,3,5,6] hs ?_
 refine Ak (fun e st=>∃ (t:Bool) (p:Bool) (Xk3:List (List AV)) (Rk3:List RowA),e=[(0,true,.box la0 0),(3,true,.val (.string a3)),(5,true,.box B.length 0),(6,true,.box (B.length+1) 0)]∧st=⟨((B.set la0 ([.clo 92 [.box lx0_ok 0],.val (.bool t)])).set lx0_ok ([.val (.bool p)]))++([a1.cs,a2.cs]++Xk3),Rk3,L⟩∧Owns Rw Rk3 []∧EV rec n a1 a2 a3 t p=some r) ?_ ?_
 ·intro K4 ay
  refine rg [0,3,5,6,17,18,19] hs ?_
  apply Ad
  refine Ap (fun m e st=>∃ (v:Int) (b:Bool) (a:Bool) (Xl6:List (List AV)) (Rl6:List RowA),e=[(0,true,.box la0 0),(3,true,.val (.string a3)),(5,true,.box B.length 0),(6,true,.box (B.length+1) 0),(17,true,.list (a1.fields.map Cd) .none),(18,true,.val (.int .i64 (a1.fields.length:Int))),(19,true,.val (.int .i64 v))]∧st=⟨((B.set la0 ([.clo 92 [.box lx0_ok 0],.val (.bool b)])).set lx0_ok ([.val (.bool a)]))++([a1.cs,a2.cs]++Xl6),Rl6,L⟩∧Owns Rw Rl6 []∧A7 rec n a1 a2 a3 m v b a=some r) n ⟨0,a0_done,x0_ok,([]),Rw,ef hs,ef hs,z,h⟩ ?_
  rintro ml6 e st ⟨v,b,a,Xl6,Rl6,rfl,rfl,z,h⟩ Ul6 Vl6
  cases ml6 with
  | zero=>cases h
  | succ ml6 =>
  rw [A7] at h
  refine AH hN O H HI (Ah (Ah w ow) ow) z ow ow ?_
  refine rg [0,3,5,6,17,18,19,20] hs ?_
  apply Aa;intro K8 aw
  refine Av h hs (fun hs h=>?_) (fun hs h=>?_)
  rotate_left
  ·have F:=hs.1
   refine sx [0,3,5,6] hs ay ?_
   exact ⟨b,a,([]),Rl6,ef hs,ef hs,z,h⟩
  have F:=hs.1
  refine sk [0,3,5,6,17,18,19] hs aw ?_
  clear aw
  refine Ak (fun e st=>∃ (o:Bool) (k:Bool) (Xk11:List (List AV)) (Rk11:List RowA),e=[(0,true,.box la0 0),(3,true,.val (.string a3)),(5,true,.box B.length 0),(6,true,.box (B.length+1) 0),(17,true,.list (a1.fields.map Cd) .none),(18,true,.val (.int .i64 (a1.fields.length:Int))),(19,true,.val (.int .i64 v))]∧st=⟨((B.set la0 ([.clo 92 [.box lx0_ok 0],.val (.bool o)])).set lx0_ok ([.val (.bool k)]))++([a1.cs,a2.cs]++Xk11),Rk11,L⟩∧Owns Rw Rk11 []∧BA rec n (A7 rec n a1 a2 a3 ml6) v o k=some r) ?_ ?_
  ·intro K12 J
   apply Ad
   obtain ⟨j,ap,h⟩:=bind_some h
   obtain ⟨a6,a4,ae⟩:=Ao ap
   have u:=Aq (f:=Cd) ae
   have hs:=And.intro u hs
   refine rg [0,3,5,6,9,17,18,19] hs ?_
   obtain ⟨N,af,h⟩:=bind_some h
   refine rc 2 [0,3,5,6,9,10,11,17,18,19] hs ?_;intro K15 U
   refine Ab _ (P5 w0 n _ _ _ a2 j.2.1 _ af) (hv hs) ?_
   refine ne hs U ?_
   clear U
   refine rg [0,3,5,6,9,10,17,18,19,30] hs ?_
   refine Av h hs (fun hs h=>?_) (fun hs h=>?_)
   ·have y:=hs.1
    obtain ⟨a0,ar,h⟩:=bind_some h
    obtain ⟨ah,aj,h⟩:=bind_some h
    apply GI Gm [8] [0,3,5,6,17,18,19] kr (fun s=>∃ (X:List (List AV)) (rows:List RowA) (Y:List AV) (E:List AV),s=⟨((B.set la0 Y).set lx0_ok E)++([a1.cs,a2.cs,.val (.int .i64 j.1)::(.val (.string j.2.1)::(.val (.int .i64 j.2.2.1)::((j.2.2.2.1.cs)++([.list (j.2.2.2.2.map A1) .none])))),N.1.cs]++X),rows,L⟩) 2 (B.length+4)
    ·simp +decide only [go_sem,Nat.reduceAdd]
    ·rintro s ⟨X,rows,Y,E,rfl⟩
     refine ⟨2,?_⟩
     rw [Ae];simp +decide only [go_sem,Nat.reduceAdd,DV,C,F,u,y]
     (repeat' apply And.intro)<;>first | refine Ab _ (Nh w0 _ _ _ a3 j.2.1 _ ar) (hv hs) ?_ | exact cl
     rw [Ae];simp +decide only [go_sem,Nat.reduceAdd,C,F,u,y]
     (repeat' apply And.intro)<;>first | rfl | exact cl
    ·refine Good.mk [8] kr ⟨[],_,_,_,by first | rfl | simp only [List.append_nil,List.nil_append]⟩ ?_ ?_
     ·intro h;exact absurd h (by decide)
     ·intro i hi;simp only [List.mem_cons,List.not_mem_nil,or_false] at hi
      subst hi
      ·apply BF rfl rfl ev
       ·simp +decide only [go_sem,Nat.reduceAdd,DK,C,F,u,y]
        (repeat' with_reducible apply And.intro)<;>first | exact Rb (ih _ _ _ lx0_ok la0 b (ef hs) a (ef hs) nq j.2.2.2.1 N.1 a0 _ aj) (hv hs) | rfl | exact cl
       ·simp +decide only [go_sem,Nat.reduceAdd,C,F,u,y]
        refine Good.mk [] kr ⟨[],_,_,_,by first | rfl | simp only [List.append_nil,List.nil_append]⟩ ?_ ?_
        ·intro _;apply B2 [0,3,5,6,17,18,19];first | (simp +decide only [go_sem,Nat.reduceAdd,C,F,u,y];done) | (simp +decide only [go_sem,Nat.reduceAdd,C,F,u,y];rfl)
        ·intro i hi;cases hi
    simp +decide only [go_sem,Nat.reduceAdd,C,F,u,y]
    (repeat' apply And.intro)<;>first | refine J _ _ ⟨ah.1,ah.2,([.val (.int .i64 j.1)::(.val (.string j.2.1)::(.val (.int .i64 j.2.2.1)::((j.2.2.2.1.cs)++([.list (j.2.2.2.2.map A1) .none])))),N.1.cs]),Rl6,ef hs,ef hs,z,h⟩ | exact cl
   have y:=hs.1
   refine rg [0,3,5,6,9,17,18,19,42] hs ?_
   refine Av h hs (fun hs h=>?_) (fun hs h=>?_)
   ·obtain ⟨a7,av,h⟩:=bind_some h
    obtain ⟨ai,ao,h⟩:=bind_some h
    refine rk 3 [0,3,5,6,17,18,19] hs ?_
    refine Ab _ (Nh w0 _ _ _ a3 j.2.1 _ av) (hv hs) ?_
    refine nc hs ?_
    refine Bo _ (BW w0 _ _ _ lx0_ok la0 b (ef hs) a (ef hs) nq a7 5 _ ao) (hv hs) ?_;rintro _ _ ⟨rfl,rfl⟩
    refine ne hs J ?_
    exact ⟨ai.1,ai.2,([.val (.int .i64 j.1)::(.val (.string j.2.1)::(.val (.int .i64 j.2.2.1)::((j.2.2.2.1.cs)++([.list (j.2.2.2.2.map A1) .none])))),N.1.cs]),Rl6,ef hs,ef hs,z,h⟩
   refine sk [0,3,5,6,17,18,19] hs J ?_
   exact ⟨b,a,([.val (.int .i64 j.1)::(.val (.string j.2.1)::(.val (.int .i64 j.2.2.1)::((j.2.2.2.1.cs)++([.list (j.2.2.2.2.map A1) .none])))),N.1.cs]),Rl6,ef hs,ef hs,z,h⟩
  ·clear h;rintro e st ⟨o,k,Xk11,Rk11,rfl,rfl,z,h⟩
   rw [BA] at h
   refine AH hN O H HI (Ah (Ah w ow) ow) z ow ow ?_
   obtain ⟨a9,h⟩:=Ac h
   refine rl [0,3,5,6,17,18,19] hs (fun e s=>Vl6 ml6 e s (Nat.lt_succ_self _)) ?_
   exact ⟨(v+1),o,k,([]),Rk11,ef hs,ef hs,z,h⟩
 ·clear h;rintro e st ⟨t,p,Xk3,Rk3,rfl,rfl,z,h⟩
  rw [EV] at h
  refine AH hN O H HI (Ah (Ah w ow) ow) z ow ow ?_
  refine rg [0,3,5,51,52,53] hs ?_
  apply Ad
  refine Ap (fun m e st=>∃ (q:Int) (d:Bool) (c:Bool) (Xl27:List (List AV)) (Rl27:List RowA),e=[(0,true,.box la0 0),(3,true,.val (.string a3)),(5,true,.box B.length 0),(51,true,.list (a2.fields.map BI) .none),(52,true,.val (.int .i64 (a2.fields.length:Int))),(53,true,.val (.int .i64 q))]∧st=⟨((B.set la0 ([.clo 92 [.box lx0_ok 0],.val (.bool d)])).set lx0_ok ([.val (.bool c)]))++([a1.cs,a2.cs]++Xl27),Rl27,L⟩∧Owns Rw Rl27 []∧Be rec n a1 a2 a3 m q d c=some r) n ⟨0,t,p,([]),Rk3,ef hs,ef hs,z,h⟩ ?_
  rintro ml27 e st ⟨q,d,c,Xl27,Rl27,rfl,rfl,z,h⟩ Ul27 Vl27
  cases ml27 with
  | zero=>cases h
  | succ ml27 =>
  rw [Be] at h
  refine AH hN O H HI (Ah (Ah w ow) ow) z ow ow ?_
  refine rg [0,3,5,51,52,53,54] hs ?_
  apply Aa;intro K29 Q
  refine Av h hs (fun hs h=>?_) (fun hs h=>?_)
  rotate_left
  ·have K:=hs.1
   refine DO (Do [] _) ?_ (Ba _ _)
   apply KE;simp +decide only [go_sem,Nat.reduceAdd]
   (repeat' with_reducible apply And.intro)<;>first | exact cl | skip
   have hgt:=Option.some.inj h;subst hgt
   first | refine DC (Ah (Ah w ow) ow) HI z.pre ev ⟨?_,by first | rfl | (simp only [Ai hla0,Ai hlx0_ok];done)⟩ | refine E6 (Ah (Ah w ow) ow) HI z.pre ev ⟨?_,by first | rfl | (simp only [Ai hla0,Ai hlx0_ok];done)⟩
   first | rfl | (simp +decide only [go_sem,Nat.reduceAdd,C,K];done) | (simp +decide only [go_sem,Nat.reduceAdd,Vl.cs,Ty.cs,C,K];done)
  have K:=hs.1
  refine sk [0,3,5,51,52,53] hs Q ?_
  clear Q
  refine Ak (fun e st=>∃ (l:Bool) (g:Bool) (Xk32:List (List AV)) (Rk32:List RowA),e=[(0,true,.box la0 0),(3,true,.val (.string a3)),(5,true,.box B.length 0),(51,true,.list (a2.fields.map BI) .none),(52,true,.val (.int .i64 (a2.fields.length:Int))),(53,true,.val (.int .i64 q))]∧st=⟨((B.set la0 ([.clo 92 [.box lx0_ok 0],.val (.bool l)])).set lx0_ok ([.val (.bool g)]))++([a1.cs,a2.cs]++Xk32),Rk32,L⟩∧Owns Rw Rk32 []∧CC rec n (Be rec n a1 a2 a3 ml27) q l g=some r) ?_ ?_
  ·intro K33 Z
   apply Ad
   obtain ⟨G,ag,h⟩:=bind_some h
   obtain ⟨a8,a5,ad⟩:=Ao ag
   have ab:=Aq (f:=BI) ad
   have hs:=And.intro ab hs
   refine rg [0,3,5,13,51,52,53] hs ?_
   obtain ⟨D,au,h⟩:=bind_some h
   refine rc 2 [0,3,5,13,15,51,52,53] hs ?_;intro K36 V
   refine Ab _ (FI w0 n _ _ _ a1 G.1 _ au) (hv hs) ?_
   refine ne hs V ?_
   clear V
   refine rg [0,3,5,13,51,52,53,65] hs ?_
   refine Av h hs (fun hs h=>?_) (fun hs h=>?_)
   ·obtain ⟨az,ak,h⟩:=bind_some h
    obtain ⟨am,aq,h⟩:=bind_some h
    refine rk 3 [0,3,5,51,52,53] hs ?_
    refine Ab _ (Nh w0 _ _ _ a3 G.1 _ ak) (hv hs) ?_
    refine nc hs ?_
    refine Bo _ (BW w0 _ _ _ lx0_ok la0 d (ef hs) c (ef hs) nq az 6 _ aq) (hv hs) ?_;rintro _ _ ⟨rfl,rfl⟩
    refine ne hs Z ?_
    exact ⟨am.1,am.2,([.val (.string G.1)::(G.2.cs),.val (.int .i64 D.1.1)::(.val (.string D.1.2.1)::(.val (.int .i64 D.1.2.2.1)::((D.1.2.2.2.1.cs)++([.list (D.1.2.2.2.2.map A1) .none]))))]),Rl27,ef hs,ef hs,z,h⟩
   refine sk [0,3,5,51,52,53] hs Z ?_
   exact ⟨d,c,([.val (.string G.1)::(G.2.cs),.val (.int .i64 D.1.1)::(.val (.string D.1.2.1)::(.val (.int .i64 D.1.2.2.1)::((D.1.2.2.2.1.cs)++([.list (D.1.2.2.2.2.map A1) .none]))))]),Rl27,ef hs,ef hs,z,h⟩
  ·clear h;rintro e st ⟨l,g,Xk32,Rk32,rfl,rfl,z,h⟩
   rw [CC] at h
   refine AH hN O H HI (Ah (Ah w ow) ow) z ow ow ?_
   obtain ⟨ba,h⟩:=Ac h
   refine rl [0,3,5,51,52,53] hs (fun e s=>Vl27 ml27 e s (Nat.lt_succ_self _)) ?_
   exact ⟨(q+1),l,g,([]),Rk32,ef hs,ef hs,z,h⟩
def Cf (rec:Bool→Bool→Ty→Vl→ByteArray→Option (Bool × Bool)) (n:Nat) (g:Int→Bool→Bool→Option (Bool × Bool)) (b:Int) (pla0_k53_1:Bool) (plx0_ok_k53:Bool):Option (Bool × Bool) :=
 if BR (b+1) then
  g (b+1) pla0_k53_1 plx0_ok_k53
 else none
def Bg (rec:Bool→Bool→Ty→Vl→ByteArray→Option (Bool × Bool)) (n:Nat) (y:Ty) (s:Vl) (g:ByteArray):Nat→Int→Bool→Bool→Option (Bool × Bool)
 | 0,_,_,_=>none
 | m+1,b,pla0_l48_1,plx0_ok_l48 =>
  if decide (b<(s.list.length:Int)) then
   (Cb s.list b).bind fun x56 =>
   if g.size+((⟨#[91]⟩:ByteArray)).size≤9223372036854775807 then
    if BR (b) then
     if (g++((⟨#[91]⟩:ByteArray))).size+((⟨(Lib.itoa b).toArray⟩:ByteArray)).size≤9223372036854775807 then
      if ((g++((⟨#[91]⟩:ByteArray)))++((⟨(Lib.itoa b).toArray⟩:ByteArray))).size+((⟨#[93]⟩:ByteArray)).size≤9223372036854775807 then
       if decide ((y.elem.length:Int)=1) then
        (Cb y.elem 0).bind fun x64 =>
        (rec pla0_l48_1 plx0_ok_l48 x64 x56 (((g++((⟨#[91]⟩:ByteArray)))++((⟨(Lib.itoa b).toArray⟩:ByteArray)))++((⟨#[93]⟩:ByteArray)))).bind fun q =>
        Cf rec n (Bg rec n y s g m) b q.1 q.2
       else
        (A9 pla0_l48_1 plx0_ok_l48 (((g++((⟨#[91]⟩:ByteArray)))++((⟨(Lib.itoa b).toArray⟩:ByteArray)))++((⟨#[93]⟩:ByteArray))) 1).bind fun h =>
        Cf rec n (Bg rec n y s g m) b h.1 h.2
      else none
     else none
    else none
   else none
  else
   some ((pla0_l48_1,plx0_ok_l48))
def Ce (rec:Bool→Bool→Ty→Vl→ByteArray→Option (Bool × Bool)) (n:Nat) (x0_ok:Bool) (a0_done:Bool) (g:Ty) (h:Vl) (q:ByteArray) (b:Bool):Option (Bool × Bool) :=
 if b then
  if (decide (g.kind=4))&&(decide (0<(g.words.length:Int))) then
   (Bm n g.words h.text).bind fun y39 =>
   if !y39 then
    (A9 a0_done x0_ok q 4).bind fun s =>
    some ((s.1,s.2))
   else
    some ((a0_done,x0_ok))
  else
   (Bl a0_done x0_ok g q (h.text.size:Int)).bind fun y42 =>
   some ((y42.1,y42.2))
 else
  if decide (g.kind=8) then
   (Bl a0_done x0_ok g q (h.list.length:Int)).bind fun y46 =>
   Bg rec n g h q n 0 y46.1 y46.2
  else
   if decide (g.kind=9) then
    (Hz rec n a0_done x0_ok g h q).bind fun y70 =>
    some ((y70.1,y70.2))
   else
    if decide (g.kind=10) then
     (CV n g h.text).bind fun y74 =>
     if y74.2 then
      (Cb h.list 0).bind fun x77 =>
      if q.size+((⟨#[63]⟩:ByteArray)).size≤9223372036854775807 then
       if (q++((⟨#[63]⟩:ByteArray))).size+h.text.size≤9223372036854775807 then
        (rec a0_done x0_ok y74.1.2.2.2.1 x77 ((q++((⟨#[63]⟩:ByteArray)))++h.text)).bind fun y =>
        some ((y.1,y.2))
       else none
      else none
     else
      (A9 a0_done x0_ok q 7).bind fun y81 =>
      some ((y81.1,y81.2))
    else
     some ((a0_done,x0_ok))
def BD (rec:Bool→Bool→Ty→Vl→ByteArray→Option (Bool × Bool)) (n:Nat) (x0_ok:Bool) (a0_done:Bool) (g:Ty) (s:Vl) (h:ByteArray) (b:Bool):Option (Bool × Bool) :=
 if b then
  (Bl a0_done x0_ok g h s.int).bind fun y =>
  some ((y.1,y.2))
 else
  if decide (g.kind=3) then
   if !(decide (s.scale=g.scale)) then
    (A9 a0_done x0_ok h 3).bind fun y28 =>
    some ((y28.1,y28.2))
   else
    (Bl a0_done x0_ok g h s.int).bind fun q =>
    some ((q.1,q.2))
  else
   if decide (g.kind=4) then
    Ce rec n x0_ok a0_done g s h true
   else
    Ce rec n x0_ok a0_done g s h (decide (g.kind=5))
def GN (rec:Bool→Bool→Ty→Vl→ByteArray→Option (Bool × Bool)) (n:Nat) (a0_done:Bool) (x0_ok:Bool) (b:Ty) (q:Vl) (h:ByteArray):Option (Bool × Bool) :=
 if a0_done then
  some ((a0_done,x0_ok))
 else
  if ((decide (b.kind<1))||(decide (10<b.kind)))||(!(decide (q.kind=b.kind))) then
   (A9 a0_done x0_ok h 1).bind fun y =>
   some ((y.1,y.2))
  else
   (Hr n q).bind fun s =>
   if !s then
    (A9 a0_done x0_ok h 8).bind fun g =>
    some ((g.1,g.2))
   else
    if decide (b.kind=2) then
     BD rec n x0_ok a0_done b q h true
    else
     if decide (b.kind=6) then
      BD rec n x0_ok a0_done b q h true
     else
      BD rec n x0_ok a0_done b q h (decide (b.kind=7))
def BX:Nat→Bool→Bool→Ty→Vl→ByteArray→Option (Bool × Bool)
 | 0,_,_,_,_,_=>none
 | n+1,a0_done,x0_ok,b,h,g=>GN (BX n) n a0_done x0_ok b h g
def Iw (w0:World) (F:Bool→Bool→Ty→Vl→ByteArray→Option (Bool × Bool)):Prop:=∀ (B:List (List AV)) (Rw:List RowA) (L:List LoopA) (lx0_ok:Nat) (la0:Nat) (a0_done:Bool) (hla0:B[la0]? = some ([.clo 92 [.box lx0_ok 0],.val (.bool a0_done)])) (x0_ok:Bool) (hlx0_ok:B[lx0_ok]? = some ([.val (.bool x0_ok)])) (hne_lx0_ok_la0:lx0_ok≠la0) (b:Ty) (h:Vl) (g:ByteArray) (r:Bool × Bool),F a0_done x0_ok b h g=some r→ACalls Tryz.prog w0 93 [.box la0 0,.agg (b.cs),.agg (h.cs),.val (.string g)] ⟨B,Rw,L⟩ fun x st=>x = .tup []∧st=⟨((B.set la0 ([.clo 92 [.box lx0_ok 0],.val (.bool r.1)])).set lx0_ok [.val (.bool r.2)]),Rw,L⟩
theorem N9 (w0:World) (hP:Pow10 w0) (hT:Lib.Utf8Tabs 0 1 w0) (rec:Bool→Bool→Ty→Vl→ByteArray→Option (Bool × Bool)) (ih:Iw w0 rec) (n:Nat):Iw w0 (GN rec n):=by
 intro B Rw L j C t q x a v a1 a2 a3 r h
 rw [GN] at h
 refine hd [] Tryz.func93 Tryz.ntmps93 fun M0 W0 hN aj ak g hu G hs=>?_
 simp only [Am]
 have b1:=(List.getElem?_eq_some_iff.1 q).1
 have a5:=(List.getElem?_eq_some_iff.1 a).1
 have l:=And.intro (Af q) (And.intro (Af a) (And.intro (CS q v) (And.intro (CS a (Ne.symm v)) (And.intro (Qv v) (And.intro (LH q j) (And.intro (LH a C) (And.intro (Ls q C j) (And.intro (Ls a C j) (And.intro (Jz j) (And.intro (Jz C) (And.intro (Xx q v) (Tf a (Ne.symm v)))))))))))))
 have hs:=And.intro l hs
 refine rg [0,3,5,6] hs ?_
 apply Aa;intro K2 bg
 apply Ad
 refine rg [0,3,5,6,13] hs ?_
 refine Av h hs (fun hs h=>?_) (fun hs h=>?_)
 ·have k:=hs.1
  apply AW;simp +decide only [go_sem,Nat.reduceAdd,l,k]
  have hgt:=Option.some.inj h;subst hgt
  first | refine DC g rfl G.pre ev ⟨?_,by first | rfl | (simp only [Ai q,Ai a];done)⟩ | refine E6 g rfl G.pre ev ⟨?_,by first | rfl | (simp only [Ai q,Ai a];done)⟩
  first | rfl | (simp +decide only [go_sem,Nat.reduceAdd,l,k];done) | (simp +decide only [go_sem,Nat.reduceAdd,Vl.cs,Ty.cs,l,k];done)
 have k:=hs.1
 refine rg [0,3,5,6,18] hs ?_
 refine Av h hs (fun hs h=>?_) (fun hs h=>?_)
 ·have p:=hs.1
  obtain ⟨y8,b2,h⟩:=bind_some h
  refine rc 2 [] hs ?_;intro K7 bv
  refine Bo _ (BW w0 _ _ _ j C t (ef hs) x (ef hs) nq a3 1 _ b2) (hv hs) ?_;rintro _ _ ⟨rfl,rfl⟩
  refine ne hs bv ?_
  clear bv
  apply AW;simp +decide only [go_sem,Nat.reduceAdd,l,k,p]
  have hgt:=Option.some.inj h;subst hgt
  first | refine DC (Ah (Ah g ow) ow) HI G.pre ev ⟨?_,by first | rfl | (simp only [Ai q,Ai a];done)⟩ | refine E6 (Ah (Ah g ow) ow) HI G.pre ev ⟨?_,by first | rfl | (simp only [Ai q,Ai a];done)⟩
  first | rfl | (simp +decide only [go_sem,Nat.reduceAdd,l,k,p];done) | (simp +decide only [go_sem,Nat.reduceAdd,Vl.cs,Ty.cs,l,k,p];done)
 have p:=hs.1
 obtain ⟨co,br,h⟩:=bind_some h
 refine rc 2 [0,3,5,6,37] hs ?_;intro K9 bx
 refine Ab _ (Po w0 hT n _ _ _ a2 _ br) (hv hs) ?_
 refine ne hs bx ?_
 clear bx
 refine Av h hs (fun hs h=>?_) (fun hs h=>?_)
 ·have b:=hs.1
  obtain ⟨cg,bn,h⟩:=bind_some h
  refine rc 2 [] hs ?_;intro K12 ax
  refine Bo _ (BW w0 _ _ _ j C t (ef hs) x (ef hs) nq a3 8 _ bn) (hv hs) ?_;rintro _ _ ⟨rfl,rfl⟩
  refine ne hs ax ?_
  clear ax
  apply AW;simp +decide only [go_sem,Nat.reduceAdd,l,k,p,b]
  have hgt:=Option.some.inj h;subst hgt
  first | refine DC (Ah (Ah g ow) ow) HI G.pre ev ⟨?_,by first | rfl | (simp only [Ai q,Ai a];done)⟩ | refine E6 (Ah (Ah g ow) ow) HI G.pre ev ⟨?_,by first | rfl | (simp only [Ai q,Ai a];done)⟩
  first | rfl | (simp +decide only [go_sem,Nat.reduceAdd,l,k,p,b];done) | (simp +decide only [go_sem,Nat.reduceAdd,Vl.cs,Ty.cs,l,k,p,b];done)
 have b:=hs.1
 refine sk [0,3,5,6] hs bg ?_
 clear bg
 refine rg [0,3,5,6,45] hs ?_
 apply Ad
 refine Ak (fun e st=>∃ (af:Bool),Ck e st B Rw L [(0,true,.box C 0),(3,true,.val (.string a3)),(5,true,.box B.length 0),(6,true,.box (B.length+1) 0),(45,true,.val (.int .i64 a1.kind)),(46,true,.val (.bool af))] [a1.cs,a2.cs] [] (BD rec n x t a1 a2 a3 af=some r)) ?_ ?_
 ·intro K17 ai
  refine rg [0,3,5,6,45,46] hs ?_
  refine Av h hs (fun hs h=>?_) (fun hs h=>?_)
  ·refine sk [0,3,5,6,45,46] hs ai ?_
   exact ⟨true,([]),Rw,ef hs,ef hs,G,h⟩
  refine rg [0,3,5,6,45,46] hs ?_
  refine Av h hs (fun hs h=>?_) (fun hs h=>?_)
  ·refine sk [0,3,5,6,45,46] hs ai ?_
   exact ⟨true,([]),Rw,ef hs,ef hs,G,h⟩
  refine rl [0,3,5,6,45,46] hs ai ?_
  exact ⟨(decide (a1.kind=7)),([]),Rw,ef hs,ef hs,G,h⟩
 ·clear h;rintro e st ⟨af,Xk16,Rk16,rfl,rfl,G,h⟩
  rw [BD] at h
  refine td hN aj ak g G ?_
  refine Av h hs (fun hs h=>?_) (fun hs h=>?_)
  ·have c:=hs.1
   obtain ⟨ci,bb,h⟩:=bind_some h
   apply Ag 2 []
   rw [Ae];simp +decide only [go_sem,Nat.reduceAdd,l,k,p,b,c]
   (repeat' apply And.intro)<;>first | (refine Bo _ (EC w0 _ _ _ j C t (ef hs) x (ef hs) nq a1 a3 a2.int _ bb) (hv hs) ?_;rintro _ _ ⟨rfl,rfl⟩) | exact cl
   rw [Ae];simp +decide only [go_sem,Nat.reduceAdd,l,k,p,b,c]
   (repeat' with_reducible apply And.intro)<;>first | exact cl | skip
   have hgt:=Option.some.inj h;subst hgt
   first | refine DC (Ah (Ah g ow) ow) HI G.pre ev ⟨?_,by first | rfl | (simp only [Ai q,Ai a];done)⟩ | refine E6 (Ah (Ah g ow) ow) HI G.pre ev ⟨?_,by first | rfl | (simp only [Ai q,Ai a];done)⟩
   first | rfl | (simp +decide only [go_sem,Nat.reduceAdd,l,k,p,b,c];done) | (simp +decide only [go_sem,Nat.reduceAdd,Vl.cs,Ty.cs,l,k,p,b,c];done)
  have c:=hs.1
  refine rg [0,3,5,6,45,56] hs ?_
  refine Av h hs (fun hs h=>?_) (fun hs h=>?_)
  ·have d:=hs.1
   refine rg [0,3,5,6,62] hs ?_
   refine Av h hs (fun hs h=>?_) (fun hs h=>?_)
   ·have Z:=hs.1
    obtain ⟨ch,bm,h⟩:=bind_some h
    apply Ag 2 []
    rw [Ae];simp +decide only [go_sem,Nat.reduceAdd,l,k,p,b,c,d,Z]
    (repeat' apply And.intro)<;>first | (refine Bo _ (BW w0 _ _ _ j C t (ef hs) x (ef hs) nq a3 3 _ bm) (hv hs) ?_;rintro _ _ ⟨rfl,rfl⟩) | exact cl
    rw [Ae];simp +decide only [go_sem,Nat.reduceAdd,l,k,p,b,c,d,Z]
    (repeat' with_reducible apply And.intro)<;>first | exact cl | skip
    have hgt:=Option.some.inj h;subst hgt
    first | refine DC (Ah (Ah g ow) ow) HI G.pre ev ⟨?_,by first | rfl | (simp only [Ai q,Ai a];done)⟩ | refine E6 (Ah (Ah g ow) ow) HI G.pre ev ⟨?_,by first | rfl | (simp only [Ai q,Ai a];done)⟩
    first | rfl | (simp +decide only [go_sem,Nat.reduceAdd,l,k,p,b,c,d,Z];done) | (simp +decide only [go_sem,Nat.reduceAdd,Vl.cs,Ty.cs,l,k,p,b,c,d,Z];done)
   have Z:=hs.1
   obtain ⟨ce,bk,h⟩:=bind_some h
   apply Ag 2 []
   rw [Ae];simp +decide only [go_sem,Nat.reduceAdd,l,k,p,b,c,d,Z]
   (repeat' apply And.intro)<;>first | (refine Bo _ (EC w0 _ _ _ j C t (ef hs) x (ef hs) nq a1 a3 a2.int _ bk) (hv hs) ?_;rintro _ _ ⟨rfl,rfl⟩) | exact cl
   rw [Ae];simp +decide only [go_sem,Nat.reduceAdd,l,k,p,b,c,d,Z]
   (repeat' with_reducible apply And.intro)<;>first | exact cl | skip
   have hgt:=Option.some.inj h;subst hgt
   first | refine DC (Ah (Ah g ow) ow) HI G.pre ev ⟨?_,by first | rfl | (simp only [Ai q,Ai a];done)⟩ | refine E6 (Ah (Ah g ow) ow) HI G.pre ev ⟨?_,by first | rfl | (simp only [Ai q,Ai a];done)⟩
   first | rfl | (simp +decide only [go_sem,Nat.reduceAdd,l,k,p,b,c,d,Z];done) | (simp +decide only [go_sem,Nat.reduceAdd,Vl.cs,Ty.cs,l,k,p,b,c,d,Z];done)
  have d:=hs.1
  refine Ak (fun e st=>∃ (ab:Bool),Ck e st B Rw L [(0,true,.box C 0),(3,true,.val (.string a3)),(5,true,.box B.length 0),(6,true,.box (B.length+1) 0),(45,true,.val (.int .i64 a1.kind)),(72,true,.val (.bool ab))] [a1.cs,a2.cs] [] (Ce rec n x t a1 a2 a3 ab=some r)) ?_ ?_
  ·intro K32 ap
   refine rg [0,3,5,6,45,72] hs ?_
   refine Av h hs (fun hs h=>?_) (fun hs h=>?_)
   ·refine sk [0,3,5,6,45,72] hs ap ?_
    exact ⟨true,([]),Rk16,ef hs,ef hs,G,h⟩
   refine rl [0,3,5,6,45,72] hs ap ?_
   exact ⟨(decide (a1.kind=5)),([]),Rk16,ef hs,ef hs,G,h⟩
  ·clear h;rintro e st ⟨ab,Xk31,Rk31,rfl,rfl,G,h⟩
   rw [Ce] at h
   refine td hN aj ak g G ?_
   refine Av h hs (fun hs h=>?_) (fun hs h=>?_)
   ·have o:=hs.1
    refine rg [0,3,5,6,83] hs ?_
    refine Av h hs (fun hs h=>?_) (fun hs h=>?_)
    ·have U:=hs.1
     obtain ⟨cf,ba,h⟩:=bind_some h
     refine rc 2 [0,3,89] hs ?_;intro K38 aq
     refine Ab _ (EH w0 n _ _ _ a1.words a2.text _ ba) (hv hs) ?_
     refine ne hs aq ?_
     clear aq
     refine Av h hs (fun hs h=>?_) (fun hs h=>?_)
     ·have ae:=hs.1
      obtain ⟨cc,a8,h⟩:=bind_some h
      apply Ag 2 []
      rw [Ae];simp +decide only [go_sem,Nat.reduceAdd,l,k,p,b,c,d,o,U,ae]
      (repeat' apply And.intro)<;>first | (refine Bo _ (BW w0 _ _ _ j C t (ef hs) x (ef hs) nq a3 4 _ a8) (hv hs) ?_;rintro _ _ ⟨rfl,rfl⟩) | exact cl
      rw [Ae];simp +decide only [go_sem,Nat.reduceAdd,l,k,p,b,c,d,o,U,ae]
      (repeat' with_reducible apply And.intro)<;>first | exact cl | skip
      have hgt:=Option.some.inj h;subst hgt
      first | refine DC (Ah (Ah g ow) ow) HI G.pre ev ⟨?_,by first | rfl | (simp only [Ai q,Ai a];done)⟩ | refine E6 (Ah (Ah g ow) ow) HI G.pre ev ⟨?_,by first | rfl | (simp only [Ai q,Ai a];done)⟩
      first | rfl | (simp +decide only [go_sem,Nat.reduceAdd,l,k,p,b,c,d,o,U,ae];done) | (simp +decide only [go_sem,Nat.reduceAdd,Vl.cs,Ty.cs,l,k,p,b,c,d,o,U,ae];done)
     have ae:=hs.1
     refine DO (Do [] _) ?_ (Ba _ _)
     apply Bd;simp +decide only [go_sem,Nat.reduceAdd]
     (repeat' with_reducible apply And.intro)<;>first | exact cl | skip
     have hgt:=Option.some.inj h;subst hgt
     first | refine DC g rfl G.pre ev ⟨?_,by first | rfl | (simp only [Ai q,Ai a];done)⟩ | refine E6 g rfl G.pre ev ⟨?_,by first | rfl | (simp only [Ai q,Ai a];done)⟩
     first | rfl | (simp +decide only [go_sem,Nat.reduceAdd,l,k,p,b,c,d,o,U,ae];done) | (simp +decide only [go_sem,Nat.reduceAdd,Vl.cs,Ty.cs,l,k,p,b,c,d,o,U,ae];done)
    have U:=hs.1
    obtain ⟨cj,bl,h⟩:=bind_some h
    apply Ag 2 []
    rw [Ae];simp +decide only [go_sem,Nat.reduceAdd,l,k,p,b,c,d,o,U]
    (repeat' apply And.intro)<;>first | (refine Bo _ (EC w0 _ _ _ j C t (ef hs) x (ef hs) nq a1 a3 (a2.text.size:Int) _ bl) (hv hs) ?_;rintro _ _ ⟨rfl,rfl⟩) | exact cl
    rw [Ae];simp +decide only [go_sem,Nat.reduceAdd,l,k,p,b,c,d,o,U]
    (repeat' with_reducible apply And.intro)<;>first | exact cl | skip
    have hgt:=Option.some.inj h;subst hgt
    first | refine DC (Ah (Ah g ow) ow) HI G.pre ev ⟨?_,by first | rfl | (simp only [Ai q,Ai a];done)⟩ | refine E6 (Ah (Ah g ow) ow) HI G.pre ev ⟨?_,by first | rfl | (simp only [Ai q,Ai a];done)⟩
    first | rfl | (simp +decide only [go_sem,Nat.reduceAdd,l,k,p,b,c,d,o,U];done) | (simp +decide only [go_sem,Nat.reduceAdd,Vl.cs,Ty.cs,l,k,p,b,c,d,o,U];done)
   have o:=hs.1
   refine rg [0,3,5,6,45,100] hs ?_
   refine Av h hs (fun hs h=>?_) (fun hs h=>?_)
   ·have u:=hs.1
    obtain ⟨bu,a9,h⟩:=bind_some h
    refine rc 2 [0,3,5,6] hs ?_;intro K45 ao
    refine Bo _ (EC w0 _ _ _ j C t (ef hs) x (ef hs) nq a1 a3 (a2.list.length:Int) _ a9) (hv hs) ?_;rintro _ _ ⟨rfl,rfl⟩
    refine ne hs ao ?_
    clear ao
    refine rg [0,3,5,110,111,112] hs ?_
    apply Ad
    refine Ap (fun m e st=>∃ (w:Int) (D:Bool) (y:Bool) (Xl48:List (List AV)) (Rl48:List RowA),e=[(0,true,.box C 0),(3,true,.val (.string a3)),(5,true,.box B.length 0),(110,true,.list (a2.list.map A1) .none),(111,true,.val (.int .i64 (a2.list.length:Int))),(112,true,.val (.int .i64 w))]∧st=⟨((B.set C ([.clo 92 [.box j 0],.val (.bool D)])).set j ([.val (.bool y)]))++([a1.cs,a2.cs]++Xl48),Rl48,L⟩∧Owns Rw Rl48 []∧Bg rec n a1 a2 a3 m w D y=some r) n ⟨0,bu.1,bu.2,([]),Rk31,ef hs,ef hs,G,h⟩ ?_
    rintro ml48 e st ⟨w,D,y,Xl48,Rl48,rfl,rfl,G,h⟩ Ul48 Vl48
    cases ml48 with
    | zero=>cases h
    | succ ml48 =>
    rw [Bg] at h
    refine AH hN aj ak HI (Ah (Ah g ow) ow) G ow ow ?_
    refine rg [0,3,5,110,111,112,113] hs ?_
    apply Aa;intro K50 ar
    refine Av h hs (fun hs h=>?_) (fun hs h=>?_)
    rotate_left
    ·have aa:=hs.1
     refine DO (Do [] _) ?_ (Ba _ _)
     apply KE;simp +decide only [go_sem,Nat.reduceAdd]
     (repeat' with_reducible apply And.intro)<;>first | exact cl | skip
     have hgt:=Option.some.inj h;subst hgt
     first | refine DC (Ah (Ah g ow) ow) HI G.pre ev ⟨?_,by first | rfl | (simp only [Ai q,Ai a];done)⟩ | refine E6 (Ah (Ah g ow) ow) HI G.pre ev ⟨?_,by first | rfl | (simp only [Ai q,Ai a];done)⟩
     first | rfl | (simp +decide only [go_sem,Nat.reduceAdd,l,k,p,b,c,d,o,u,aa];done) | (simp +decide only [go_sem,Nat.reduceAdd,Vl.cs,Ty.cs,l,k,p,b,c,d,o,u,aa];done)
    have aa:=hs.1
    refine sk [0,3,5,110,111,112] hs ar ?_
    clear ar
    refine Ak (fun e st=>∃ (H:Bool) (E:Bool) (Xk53:List (List AV)) (Rk53:List RowA),e=[(0,true,.box C 0),(3,true,.val (.string a3)),(5,true,.box B.length 0),(110,true,.list (a2.list.map A1) .none),(111,true,.val (.int .i64 (a2.list.length:Int))),(112,true,.val (.int .i64 w))]∧st=⟨((B.set C ([.clo 92 [.box j 0],.val (.bool H)])).set j ([.val (.bool E)]))++([a1.cs,a2.cs]++Xk53),Rk53,L⟩∧Owns Rw Rk53 []∧Cf rec n (Bg rec n a1 a2 a3 ml48) w H E=some r) ?_ ?_
    ·intro K54 av
     apply Ad
     obtain ⟨am,bf,h⟩:=bind_some h
     obtain ⟨b9,b5,ay⟩:=Ao bf
     have Y:=Aq (f:=A1) ay
     have hs:=And.intro Y hs
     refine rg [0,3,5,8,9,110,111,112] hs ?_
     obtain ⟨b0,h⟩:=Ac h
     have a4:=b0
     try simp +decide only [go_sem] at a4
     obtain ⟨bd,h⟩:=Ac h
     obtain ⟨bq,h⟩:=Ac h
     have a7:=bq
     try simp +decide only [go_sem] at a7
     obtain ⟨bs,h⟩:=Ac h
     have az:=bs
     try simp +decide only [go_sem] at az
     refine rc 2 [0,3,5,9,10,110,111,112] hs ?_;intro K57 aw
     refine Ab _ (ZcZ w0 _ _ _ hP w bd) (hv hs) ?_
     refine ne hs aw ?_
     clear aw
     refine rg [0,3,5,9,10,110,111,112,126] hs ?_
     refine Av h hs (fun hs h=>?_) (fun hs h=>?_)
     ·have ad:=hs.1
      obtain ⟨ca,b6,b3,O,h⟩:=ix HK h
      have Q:(a1.elem.map HK).getD 0 .junk=_:=O
      obtain ⟨bc,bi,h⟩:=bind_some h
      apply GI Gm [7] [0,3,5,110,111,112] kr (fun s=>∃ (X:List (List AV)) (rows:List RowA) (ag:List AV) (V:List AV),s=⟨((B.set C ag).set j V)++([a1.cs,a2.cs,am.cs]++X),rows,L⟩) 2 (B.length+3)
      ·simp +decide only [go_sem,Nat.reduceAdd]
      ·rintro s ⟨X,rows,ag,V,rfl⟩
       refine ⟨1,?_⟩
       rw [Ae];simp +decide only [go_sem,Nat.reduceAdd,DV,l,k,p,b,c,d,o,u,aa,Y,ad,O,Q]
       (repeat' apply And.intro)<;>first | rfl | exact cl
      ·refine Good.mk [7] kr ⟨[],_,_,_,by first | rfl | simp only [List.append_nil,List.nil_append]⟩ ?_ ?_
       ·intro h;exact absurd h (by decide)
       ·intro i hi;simp only [List.mem_cons,List.not_mem_nil,or_false] at hi
        subst hi
        ·apply BF rfl rfl ev
         ·simp +decide only [go_sem,Nat.reduceAdd,DK,l,k,p,b,c,d,o,u,aa,Y,ad,O,Q]
          have hs:=And.intro O hs
          have hs:=And.intro Q hs
          (repeat' with_reducible apply And.intro)<;>first | exact Rb (ih _ _ _ j C D (ef hs) y (ef hs) nq ca am (((a3++((⟨#[91]⟩:ByteArray)))++((⟨(Lib.itoa w).toArray⟩:ByteArray)))++((⟨#[93]⟩:ByteArray))) _ bi) (hv hs) | rfl | exact cl
         ·simp +decide only [go_sem,Nat.reduceAdd,l,k,p,b,c,d,o,u,aa,Y,ad,O,Q]
          refine Good.mk [] kr ⟨[],_,_,_,by first | rfl | simp only [List.append_nil,List.nil_append]⟩ ?_ ?_
          ·intro _;apply B2 [0,3,5,110,111,112];first | (simp +decide only [go_sem,Nat.reduceAdd,l,k,p,b,c,d,o,u,aa,Y,ad,O,Q];done) | (simp +decide only [go_sem,Nat.reduceAdd,l,k,p,b,c,d,o,u,aa,Y,ad,O,Q];rfl)
          ·intro i hi;cases hi
      simp +decide only [go_sem,Nat.reduceAdd,l,k,p,b,c,d,o,u,aa,Y,ad,O,Q]
      have hs:=And.intro O hs
      have hs:=And.intro Q hs
      (repeat' apply And.intro)<;>first | refine av _ _ ⟨bc.1,bc.2,([am.cs]),Rl48,ef hs,ef hs,G,h⟩ | exact cl
     have ad:=hs.1
     obtain ⟨bo,bt,h⟩:=bind_some h
     refine rk 2 [0,3,5,110,111,112] hs ?_
     refine Bo _ (BW w0 _ _ _ j C D (ef hs) y (ef hs) nq (((a3++((⟨#[91]⟩:ByteArray)))++((⟨(Lib.itoa w).toArray⟩:ByteArray)))++((⟨#[93]⟩:ByteArray))) 1 _ bt) (hv hs) ?_;rintro _ _ ⟨rfl,rfl⟩
     refine ne hs av ?_
     exact ⟨bo.1,bo.2,([am.cs]),Rl48,ef hs,ef hs,G,h⟩
    ·clear h;rintro e st ⟨H,E,Xk53,Rk53,rfl,rfl,G,h⟩
     rw [Cf] at h
     refine AH hN aj ak HI (Ah (Ah g ow) ow) G ow ow ?_
     obtain ⟨cb,h⟩:=Ac h
     refine rl [0,3,5,110,111,112] hs (fun e s=>Vl48 ml48 e s (Nat.lt_succ_self _)) ?_
     exact ⟨(w+1),H,E,([]),Rk53,ef hs,ef hs,G,h⟩
   have u:=hs.1
   refine rg [0,3,5,6,45,139] hs ?_
   refine Av h hs (fun hs h=>?_) (fun hs h=>?_)
   ·have z:=hs.1
    obtain ⟨cd,bp,h⟩:=bind_some h
    apply Ag 2 []
    rw [Ae];simp +decide only [go_sem,Nat.reduceAdd,l,k,p,b,c,d,o,u,z]
    (repeat' apply And.intro)<;>first | (refine Bo _ (N6 w0 rec ih n _ _ _ j C t (ef hs) x (ef hs) nq a1 a2 a3 _ bp) (hv hs) ?_;rintro _ _ ⟨rfl,rfl⟩) | exact cl
    rw [Ae];simp +decide only [go_sem,Nat.reduceAdd,l,k,p,b,c,d,o,u,z]
    (repeat' with_reducible apply And.intro)<;>first | exact cl | skip
    have hgt:=Option.some.inj h;subst hgt
    first | refine DC (Ah (Ah g ow) ow) HI G.pre ev ⟨?_,by first | rfl | (simp only [Ai q,Ai a];done)⟩ | refine E6 (Ah (Ah g ow) ow) HI G.pre ev ⟨?_,by first | rfl | (simp only [Ai q,Ai a];done)⟩
    first | rfl | (simp +decide only [go_sem,Nat.reduceAdd,l,k,p,b,c,d,o,u,z];done) | (simp +decide only [go_sem,Nat.reduceAdd,Vl.cs,Ty.cs,l,k,p,b,c,d,o,u,z];done)
   have z:=hs.1
   refine rg [0,3,5,6,146] hs ?_
   refine Av h hs (fun hs h=>?_) (fun hs h=>?_)
   ·have F:=hs.1
    obtain ⟨ah,bj,h⟩:=bind_some h
    refine rc 2 [0,3,6,11,12] hs ?_;intro K73 au
    refine Ab _ (FI w0 n _ _ _ a1 a2.text _ bj) (hv hs) ?_
    refine ne hs au ?_
    clear au
    refine rg [0,3,6,11,155] hs ?_
    refine Av h hs (fun hs h=>?_) (fun hs h=>?_)
    ·have K:=hs.1
     obtain ⟨b7,b4,b8,J,h⟩:=ix A1 h
     have N:(a2.list.map A1).getD 0 .junk=_:=J
     obtain ⟨bw,h⟩:=Ac h
     have a6:=bw
     try simp +decide only [go_sem] at a6
     obtain ⟨bz,h⟩:=Ac h
     have a0:=bz
     try simp +decide only [go_sem] at a0
     obtain ⟨cn,bh,h⟩:=bind_some h
     refine Zfd (B':=((B.set C ([.clo 92 [.box j 0],.val (.bool t)])).set j ([.val (.bool x)]))) (by simp only [Ai q,Ai a]) ?_
     apply GI Gm [12] [] kr (fun s=>∃ (X:List (List AV)) (rows:List RowA) (ag:List AV) (V:List AV),s=⟨((B.set C ag).set j V)++([a1.cs,a2.cs,.val (.int .i64 ah.1.1)::(.val (.string ah.1.2.1)::(.val (.int .i64 ah.1.2.2.1)::((ah.1.2.2.2.1.cs)++([.list (ah.1.2.2.2.2.map A1) .none]))))]++X),rows,L⟩) 2 (B.length+3)
     ·simp +decide only [go_sem,Nat.reduceAdd]
     ·rintro s ⟨X,rows,ag,V,rfl⟩
      refine ⟨1,?_⟩
      rw [Ae];simp +decide only [go_sem,Nat.reduceAdd,DV,l,k,p,b,c,d,o,u,z,F,K,J,N]
      (repeat' apply And.intro)<;>first | rfl | exact cl
     ·refine Good.mk [12] kr ⟨[],_,_,_,by first | rfl | simp only [List.append_nil,List.nil_append]⟩ ?_ ?_
      ·intro h;exact absurd h (by decide)
      ·intro i hi;simp only [List.mem_cons,List.not_mem_nil,or_false] at hi
       subst hi
       ·apply BF rfl rfl ev
        ·simp +decide only [go_sem,Nat.reduceAdd,DK,l,k,p,b,c,d,o,u,z,F,K,J,N]
         have hs:=And.intro J hs
         have hs:=And.intro N hs
         (repeat' with_reducible apply And.intro)<;>first | exact Rb (ih _ _ _ j C t (ef hs) x (ef hs) nq ah.1.2.2.2.1 b7 ((a3++((⟨#[63]⟩:ByteArray)))++a2.text) _ bh) (hv hs) | rfl | exact cl
        ·simp +decide only [go_sem,Nat.reduceAdd,l,k,p,b,c,d,o,u,z,F,K,J,N]
         refine Good.mk [] kr ⟨[],_,_,_,by first | rfl | simp only [List.append_nil,List.nil_append]⟩ ?_ ?_
         ·intro _;apply B2 [];first | (simp +decide only [go_sem,Nat.reduceAdd,l,k,p,b,c,d,o,u,z,F,K,J,N];done) | (simp +decide only [go_sem,Nat.reduceAdd,l,k,p,b,c,d,o,u,z,F,K,J,N];rfl)
         ·intro i hi;cases hi
     simp +decide only [go_sem,Nat.reduceAdd,l,k,p,b,c,d,o,u,z,F,K,J,N]
     (repeat' with_reducible apply And.intro)<;>first | exact cl | skip
     have hgt:=Option.some.inj h;subst hgt
     first | refine DC (Ah (Ah g ow) ow) HI G.pre ev ⟨?_,by first | rfl | (simp only [Ai q,Ai a];done)⟩ | refine E6 (Ah (Ah g ow) ow) HI G.pre ev ⟨?_,by first | rfl | (simp only [Ai q,Ai a];done)⟩
     first | rfl | (simp +decide only [go_sem,Nat.reduceAdd,l,k,p,b,c,d,o,u,z,F,K,J,N];done) | (simp +decide only [go_sem,Nat.reduceAdd,Vl.cs,Ty.cs,l,k,p,b,c,d,o,u,z,F,K,J,N];done)
    have K:=hs.1
    obtain ⟨ck,be,h⟩:=bind_some h
    apply Ag 2 []
    rw [Ae];simp +decide only [go_sem,Nat.reduceAdd,l,k,p,b,c,d,o,u,z,F,K]
    (repeat' apply And.intro)<;>first | (refine Bo _ (BW w0 _ _ _ j C t (ef hs) x (ef hs) nq a3 7 _ be) (hv hs) ?_;rintro _ _ ⟨rfl,rfl⟩) | exact cl
    rw [Ae];simp +decide only [go_sem,Nat.reduceAdd,l,k,p,b,c,d,o,u,z,F,K]
    (repeat' with_reducible apply And.intro)<;>first | exact cl | skip
    have hgt:=Option.some.inj h;subst hgt
    first | refine DC (Ah (Ah g ow) ow) HI G.pre ev ⟨?_,by first | rfl | (simp only [Ai q,Ai a];done)⟩ | refine E6 (Ah (Ah g ow) ow) HI G.pre ev ⟨?_,by first | rfl | (simp only [Ai q,Ai a];done)⟩
    first | rfl | (simp +decide only [go_sem,Nat.reduceAdd,l,k,p,b,c,d,o,u,z,F,K];done) | (simp +decide only [go_sem,Nat.reduceAdd,Vl.cs,Ty.cs,l,k,p,b,c,d,o,u,z,F,K];done)
   have F:=hs.1
   refine DO (Do [] _) ?_ (Ba _ _)
   apply Bd;simp +decide only [go_sem,Nat.reduceAdd]
   (repeat' with_reducible apply And.intro)<;>first | exact cl | skip
   have hgt:=Option.some.inj h;subst hgt
   first | refine DC g rfl G.pre ev ⟨?_,by first | rfl | (simp only [Ai q,Ai a];done)⟩ | refine E6 g rfl G.pre ev ⟨?_,by first | rfl | (simp only [Ai q,Ai a];done)⟩
   first | rfl | (simp +decide only [go_sem,Nat.reduceAdd,l,k,p,b,c,d,o,u,z,F];done) | (simp +decide only [go_sem,Nat.reduceAdd,Vl.cs,Ty.cs,l,k,p,b,c,d,o,u,z,F];done)
theorem Kr (w0:World) (hP:Pow10 w0) (hT:Lib.Utf8Tabs 0 1 w0):∀ n:Nat,Iw w0 (BX n)
 | 0=>fun _ _ _ _ _ _ _ _ _ _ _ _ _ _ h=>(nomatch h)
 | n+1=>N9 w0 hP hT (BX n) (Kr w0 hP hT n) n
def IY (n:Nat) (g:Ty) (b:Vl):Option Bool :=
 (BX n false true g b ((⟨#[]⟩:ByteArray))).bind fun h =>
 some (h.2)
theorem NY (w0:World) (hP:Pow10 w0) (hT:Lib.Utf8Tabs 0 1 w0) (n:Nat) (B:List (List AV)) (Rw:List RowA) (L:List LoopA) (a0:Ty) (a1:Vl) (r:Bool) (h:IY n a0 a1=some r) :
  ACalls Tryz.prog w0 39 [.agg (a0.cs),.agg (a1.cs)] ⟨B,Rw,L⟩ fun x st=>x = .val (.bool r)∧st=⟨B,Rw,L⟩:=by
 rw [IY] at h
 refine hd [.tmp 4] Tryz.func39 Tryz.ntmps39 fun M0 W0 g f e a j d hs=>?_
 simp only [Am]
 refine rg [2,3] hs ?_
 refine rg [2,3,5] hs ?_
 refine rg [2,3,5,6] hs ?_
 obtain ⟨i,c,h⟩:=bind_some h
 refine rc 2 [5] hs ?_;intro K4 b
 refine Bo _ (Kr w0 hP hT n _ _ _ (B.length+2) (B.length+3) false ev true ev nq a0 a1 ((⟨#[]⟩:ByteArray)) _ c) (hv hs) ?_;rintro _ _ ⟨rfl,rfl⟩
 refine ne hs b ?_
 clear b
 refine rg [4] hs ?_
 exact rt h hs a d
def Ez (n:Nat) (g:Ty) (s:Vl):Option (Vl × Int) :=
 (CN n g s).bind fun h =>
 (IY n g h).bind fun q =>
 if !q then
  some ((Vl.mk 0 0 0 ((⟨#[]⟩:ByteArray)) ([]) ([]),18))
 else
  (BK n h).bind fun b =>
  some ((b,0))
theorem JG (w0:World) (hP:Pow10 w0) (hT:Lib.Utf8Tabs 0 1 w0) (n:Nat) (B:List (List AV)) (Rw:List RowA) (L:List LoopA) (a0:Ty) (a1:Vl) (r:Vl × Int) (h:Ez n a0 a1=some r) :
  ACalls Tryz.prog w0 31 [.agg (a0.cs),.agg (a1.cs)] ⟨B,Rw,L⟩ fun x st=>x = .tup [.agg (r.1.cs),.val (.int .i64 r.2)]∧st=⟨B,Rw,L⟩:=by
 rw [Ez] at h
 refine hd [.cell 4 46,.tmp 5] Tryz.func31 Tryz.ntmps31 fun M0 W0 q o m a p j hs=>?_
 simp only [Am]
 refine rg [2,3,4] hs ?_
 obtain ⟨k,i,h⟩:=bind_some h
 refine rc 2 [2,4,6] hs ?_;intro K2 f
 refine Ab _ (NI w0 hT n _ _ _ a0 a1 _ i) (hv hs) ?_
 refine ne hs f ?_
 clear f
 apply Aa;intro K4 c
 obtain ⟨s,g,h⟩:=bind_some h
 refine rc 2 [4,6,13] hs ?_;intro K5 e
 refine Ab _ (NY w0 hP hT n _ _ _ a0 k _ g) (hv hs) ?_
 refine ne hs e ?_
 clear e
 refine Av h hs (fun hs h=>?_) (fun hs h=>?_)
 ·refine rg [4,5] hs ?_
  exact rt h hs a j
 refine sk [4,6] hs c ?_
 clear c
 obtain ⟨l,b,h⟩:=bind_some h
 refine rc 2 [4,5] hs ?_;intro K9 d
 refine Ab _ (G7 w0 n _ _ _ k _ b) (hv hs) ?_
 refine ne hs d ?_
 clear d
 exact rt h hs a j
def ssB:List (ByteArray × Vl)→Bool
 | p::q::r=>Wj p.1 q.1&&ssB (q::r)
 | _=>true
theorem W6:∀ l,ssB l=true↔SS l
 | []=>by simp [ssB,SS]
 | [p]=>by simp [ssB,SS]
 | p::q::r=>by
  rw [ssB,Bool.and_eq_true,W6 (q::r),XG,decide_eq_true_eq]
  unfold SS
  rw [List.pairwise_cons (a:=p)]
  constructor
  ·rintro ⟨b,c⟩
   refine ⟨fun x hx=>?_,c⟩
   rcases List.mem_cons.1 hx with rfl | hx
   ·exact b
   ·exact O0 b ((List.pairwise_cons.1 c).1 x hx)
  ·rintro ⟨b,c⟩
   exact ⟨b q (by simp),c⟩
def bare (i s t l f:Bool) (v:Vl):Bool:=(i||decide (v.int=0))&&(s||decide (v.scale=0))&&(t||Dz v.text ⟨#[]⟩)&&(l||decide (v.list.length=0))&&(f||decide (v.fields.length=0))
def A5 (v:Vl):Bool :=
 if v.kind=1 then (decide (v.int=0)||decide (v.int=1))&&bare true false false false false v
 else if v.kind=2∨v.kind=6∨v.kind=7 then bare true false false false false v
 else if v.kind=3 then bare true true false false false v
 else if v.kind=4 then Lib.validD v.text.data.toList&&bare false false true false false v
 else if v.kind=5 then bare false false true false false v
 else if v.kind=8 then bare false false false true false v
 else if v.kind=9 then ssB v.fields&&bare false false false false true v
 else if v.kind=10 then decide (v.list.length=1)&&bare false false true true false v
 else bare false false false false false v
theorem ZjY (k:Nat):decide ((k:Int)=0)=decide (k=0):=by rw [decide_eq_decide];omega
theorem NZ (n:Nat) (k i s:Int) (t:ByteArray) (l:List Vl) (f:List (ByteArray × Vl)):BQ n (Vl.mk k i s t l f)=some (decide (i=0)&&decide (s=0)&&Dz t ⟨#[]⟩&&decide (l.length=0)&&decide (f.length=0)):=by
 unfold BQ
 change some ((((decide (i=0)&&decide (s=0))&&Dz t ⟨#[]⟩)&&decide ((l.length:Int)=0))&&decide ((f.length:Int)=0))=_
 rw [ZjY,ZjY]
theorem PZ (n:Nat) (v:Vl) (hl:v.fields.length≤1000000000):∀ (k m j:Nat),v.fields.length≤j+1+k→k<m→DU n v m ((j+1:Nat):Int)=some (ssB (v.fields.drop j)&&bare false false false false true v)
 | k,0,j,_,h=>absurd h (Nat.not_lt_zero _)
 | 0,m+1,j,hj,_=>by
  rw [DU,An,decide_eq_false (by omega),if_neg (by decide),IG,NZ]
  have:ssB (v.fields.drop j)=true:=by
   match h:v.fields.drop j with
   | []=>rfl
   | [_]=>rfl
   | a::b::r =>
    have:=congrArg List.length h
    simp at this;omega
  rw [this];simp [bare]
 | k+1,m+1,j,hj,hm=>by
  rw [DU,An]
  by_cases q:j+1<v.fields.length
  ·have d:j<v.fields.length:=by omega
   have e:((j+1:Nat):Int)-1=(j:Int):=by omega
   rw [decide_eq_true q,if_pos rfl,e,if_pos (by unfold BR;omega),Au d,Option.bind_some,Au q,Option.bind_some,List.drop_eq_getElem_cons d,List.drop_eq_getElem_cons q,ssB]
   cases c:Wj v.fields[j].1 v.fields[j+1].1 with
   | false=>rw [if_pos (by rfl)];rfl
   | true =>
    rw [if_neg (by decide),if_pos (Ar (by omega)),Bool.true_and,←List.drop_eq_getElem_cons q]
    exact PZ n v hl k m (j+1) (by omega) (by omega)
  ·have:=PZ n v hl 0 (m+1) j (by omega) (by omega)
   rw [DU,An] at this
   exact this
theorem VX (n:Nat) (v:Vl) (hn:v.fields.length+1<n) (hl:v.fields.length≤1000000000) (ht:v.text.size≤maxLen):Hr n v=some (A5 v):=by
 have a:=PZ n v hl v.fields.length n 0 (by omega) (by omega)
 rw [List.drop_zero,show ((0+1:Nat):Int)=1 from rfl] at a
 have z:Dz (⟨#[]⟩:ByteArray) ⟨#[]⟩=true:=HD _
 rw [Hr,A5]
 by_cases h1:v.kind=1
 ·rw [decide_eq_true h1,if_pos rfl,if_pos h1,NZ]
  by_cases q0:v.int=0
  ·rw [decide_eq_true q0,Bool.not_true,Bool.false_and,if_neg (by decide)];simp [bare]
  ·by_cases q1:v.int=1
   ·rw [decide_eq_true q1,decide_eq_false q0,if_neg (by decide)];simp [bare]
   ·rw [decide_eq_false q1,decide_eq_false q0,if_pos (by rfl)];rfl
 rw [decide_eq_false h1,if_neg (by decide),if_neg h1]
 by_cases h2:v.kind=2
 ·rw [decide_eq_true h2,if_pos rfl,if_pos (by omega),Dj,if_pos rfl,NZ];simp [bare]
 rw [decide_eq_false h2,if_neg (by decide)]
 by_cases h6:v.kind=6
 ·rw [decide_eq_true h6,if_pos rfl,if_pos (by omega),Dj,if_pos rfl,NZ];simp [bare]
 rw [decide_eq_false h6,if_neg (by decide)]
 by_cases h7:v.kind=7
 ·rw [decide_eq_true h7,if_pos (by omega),Dj,if_pos rfl,NZ];simp [bare]
 rw [decide_eq_false h7,if_neg (by omega),Dj,if_neg (by decide)]
 by_cases h3:v.kind=3
 ·rw [decide_eq_true h3,if_pos rfl,if_pos h3,NZ];simp [bare]
 rw [decide_eq_false h3,if_neg (by decide),if_neg h3]
 by_cases h4:v.kind=4
 ·rw [decide_eq_true h4,if_pos rfl,if_pos h4,Ni,if_pos ht,Option.bind_some]
  cases Lib.validD v.text.data.toList with
  | false=>rfl
  | true=>rw [if_neg (by decide),NZ,z];simp [bare]
 rw [decide_eq_false h4,if_neg (by decide),if_neg h4]
 by_cases h5:v.kind=5
 ·rw [decide_eq_true h5,if_pos rfl,if_pos h5,NZ,z];simp [bare]
 rw [decide_eq_false h5,if_neg (by decide),if_neg h5]
 by_cases h8:v.kind=8
 ·rw [decide_eq_true h8,if_pos rfl,if_pos h8,NZ];simp [bare]
 rw [decide_eq_false h8,if_neg (by decide),if_neg h8]
 by_cases h9:v.kind=9
 ·rw [decide_eq_true h9,if_pos rfl,if_pos h9,a]
 rw [decide_eq_false h9,if_neg (by decide),if_neg h9]
 by_cases h10:v.kind=10
 ·rw [decide_eq_true h10,if_pos rfl,if_pos h10]
  by_cases q:v.list.length=1
  ·rw [decide_eq_true (show (v.list.length:Int)=1 by omega),if_neg (by decide),NZ,z,decide_eq_true q];simp [bare]
  ·rw [decide_eq_false (show ¬ (v.list.length:Int)=1 by omega),if_pos (by rfl),decide_eq_false q];rfl
 ·rw [decide_eq_false h10,if_neg (by decide),if_neg h10]
  have:=NZ n v.kind v.int v.scale v.text v.list v.fields
  rw [Vl.eta] at this
  rw [this];simp [bare]
def Q0 (l:List (ByteArray × Vl)) (w:ByteArray):Nat:=(l.takeWhile fun q=>decide (Eh q.1 w<0)).length
theorem Zdy (l:List (ByteArray × Vl)) (w:ByteArray):Q0 l w≤l.length:=(List.takeWhile_sublist _).length_le
theorem ZeT {p:ByteArray × Vl} {r:List (ByteArray × Vl)} {w:ByteArray}:Q0 (p::r) w=if Eh p.1 w<0 then Q0 r w+1 else 0:=by
 unfold Q0
 by_cases q:Eh p.1 w<0
 ·rw [List.takeWhile_cons_of_pos (by simpa using q),if_pos q];rfl
 ·rw [List.takeWhile_cons_of_neg (by simpa using q),if_neg q];rfl
theorem OA (w:ByteArray):∀ (l:List (ByteArray × Vl)),∀ p∈l.take (Q0 l w),Eh p.1 w<0
 | [],p,hp=>by simp at hp
 | q::r,p,hp=>by
  rw [ZeT] at hp
  by_cases c:Eh q.1 w<0
  ·rw [if_pos c,List.take_succ_cons] at hp
   rcases List.mem_cons.1 hp with rfl | hp
   ·exact c
   ·exact OA w r p hp
  ·rw [if_neg c] at hp;simp at hp
theorem Zds (l:List (ByteArray × Vl)) (w:ByteArray) (h:Q0 l w<l.length):¬ Eh l[Q0 l w].1 w<0:=by
 induction l with
 | nil=>simp at h
 | cons p r ih =>
  by_cases q:Eh p.1 w<0
  ·have e:Q0 (p::r) w=Q0 r w+1:=by unfold Q0;rw [List.takeWhile_cons_of_pos (by simpa using q)];rfl
   simp only [e,List.getElem_cons_succ]
   exact ih (by rw [e] at h;simpa using h)
  ·have e:Q0 (p::r) w=0:=by unfold Q0;rw [List.takeWhile_cons_of_neg (by simpa using q)];rfl
   simp only [e,List.getElem_cons_zero]
   exact q
theorem VG {l:List (ByteArray × Vl)} {w:ByteArray} {k:Nat} (hk:k≤l.length) (h1:∀ i (h:i<k),Eh (l[i]'(by omega)).1 w<0) (h2:∀ h:k<l.length,¬ Eh l[k].1 w<0):k=Q0 l w:=by
 rcases Nat.lt_trichotomy k (Q0 l w) with q | q | q
 ·have b:=Zdy l w
  have a:l[k]'(by omega)∈l.take (Q0 l w):=List.mem_take_iff_getElem.2 ⟨k,by omega,rfl⟩
  exact absurd (OA w l _ a) (h2 (by omega))
 ·exact q
 ·exact absurd (h1 (Q0 l w) q) (Zds l w (by omega))
def Yv (l:List (ByteArray × Vl)) (w:ByteArray):Bool:=l.any fun q=>Dz q.1 w
theorem MS {l:List (ByteArray × Vl)} {w:ByteArray}:Yv l w=true↔∃ q∈l,q.1=w:=by
 unfold Yv
 rw [List.any_eq_true]
 exact ⟨fun ⟨q,h,e⟩=>⟨q,h,(EE _ _).1 e⟩,fun ⟨q,h,e⟩=>⟨q,h,(EE _ _).2 e⟩⟩
theorem Zg6 {l:List (ByteArray × Vl)} (hs:SS l) (w:ByteArray) (h:Q0 l w<l.length):decide (Eh l[Q0 l w].1 w=0)=Yv l w:=by
 have b:=Zds l w h
 cases q:Yv l w with
 | true =>
  obtain ⟨x,d,e⟩:=MS.1 q
  obtain ⟨i,a,rfl⟩:=List.mem_iff_getElem.1 d
  have z:Eh l[i].1 w=0:=(I6 _ _).2 e
  rcases Nat.lt_trichotomy i (Q0 l w) with c | c | c
  ·have:=OA w l l[i] (List.mem_take_iff_getElem.2 ⟨i,by omega,rfl⟩)
   omega
  ·subst c;exact decide_eq_true z
  ·have:=List.pairwise_iff_getElem.1 hs _ _ h a c
   rw [e] at this
   exact absurd this b
 | false =>
  refine decide_eq_false fun z=>?_
  have:=MS.2 ⟨_,List.getElem_mem h,(I6 _ _).1 z⟩
  rw [this] at q;cases q
theorem Zff {l:List (ByteArray × Vl)} (w:ByteArray) (h:Q0 l w=l.length):Yv l w=false:=by
 cases q:Yv l w with
 | false=>rfl
 | true =>
  obtain ⟨x,a,e⟩:=MS.1 q
  have:=OA w l x (by rw [h,List.take_length];exact a)
  rw [e,Q5] at this
  omega
theorem Zdb (n:Nat) (l:List (ByteArray × Vl)) (w:ByteArray) (f:ByteArray × Vl→ByteArray→Option Int) (hf:∀ x,f x w=some (Eh x.1 w)) (hs:SS l) (hl:l.length≤1000000000):∀ (k m lo hi:Nat),hi-lo≤k→lo≤hi→hi≤l.length →
  (∀ i (h:i<lo) (h2:i<l.length),Eh l[i].1 w<0)→(∀ i (h:hi≤i) (h2:i<l.length),¬ Eh l[i].1 w<0)→k<m→AZ n l w f m lo hi=some ((Q0 l w:Int),Yv l w)
 | k,0,lo,hi,_,_,_,_,_,h=>absurd h (Nat.not_lt_zero _)
 | k,m+1,lo,hi,hk,h1,h2,h3,h4,hm=>by
  rw [AZ,An]
  by_cases q:lo<hi
  ·have e:(lo:Int)+(hi:Int)=((lo+hi:Nat):Int):=by omega
   have g:((lo+hi:Nat):Int) / 2=(((lo+hi) / 2:Nat):Int):=by omega
   have d:(lo+hi) / 2<l.length:=by omega
   rw [decide_eq_true q,if_pos rfl,e,if_pos (by unfold BR;omega),if_pos (by omega),if_pos (by omega),g,if_pos (by unfold BR;omega),Au d,Option.bind_some,hf,Option.bind_some]
   obtain ⟨k,rfl⟩:∃ j,k=j+1:=⟨k-1,by omega⟩
   by_cases c:Eh l[(lo+hi) / 2].1 w<0
   ·rw [decide_eq_true c,if_pos rfl,if_pos (Ar (by omega))]
    refine Zdb n l w f hf hs hl k m ((lo+hi) / 2+1) hi (by omega) (by omega) h2 (fun i a b=>?_) h4 (by omega)
    rcases Nat.lt_or_ge i ((lo+hi) / 2) with z | z
    ·exact O0 (List.pairwise_iff_getElem.1 hs i _ b d z) c
    ·obtain rfl:i=(lo+hi) / 2:=by omega
     exact c
   ·rw [decide_eq_false c,if_neg (by decide)]
    refine Zdb n l w f hf hs hl k m lo ((lo+hi) / 2) (by omega) (by omega) (by omega) h3 (fun i a b=>?_) (by omega)
    rcases Nat.lt_or_ge ((lo+hi) / 2) i with z | z
    ·exact fun y=>c (O0 (List.pairwise_iff_getElem.1 hs _ i d b z) y)
    ·obtain rfl:i=(lo+hi) / 2:=by omega
     exact c
  ·obtain rfl:lo=hi:=by omega
   have e:=VG (l:=l) (w:=w) h2 (fun i a=>h3 i a (by omega)) (fun a=>h4 lo (Nat.le_refl _) a)
   rw [decide_eq_false q,if_neg (by decide),CB,An,e]
   by_cases c:Q0 l w<l.length
   ·rw [decide_eq_true c,if_pos rfl,Au c,Option.bind_some,hf,Option.bind_some,Zg6 hs w c]
   ·rw [decide_eq_false c,if_neg (by decide),Zff w (by have:=Zdy l w;omega)]
theorem ZjI (n:Nat) (l:List (ByteArray × Vl)) (w:ByteArray) (f:ByteArray × Vl→ByteArray→Option Int) (hf:∀ x,f x w=some (Eh x.1 w)) (hs:SS l) (hl:l.length≤1000000000) (hn:l.length<n):CU n l w f=some ((Q0 l w:Int),Yv l w) :=
 Zdb n l w f hf hs hl l.length n 0 l.length (by omega) (by omega) (Nat.le_refl _) (fun i h=>by omega) (fun i h a=>by omega) hn
def Zb9 (p:TF):Option Vl:=if p.2.2.1=3∧p.2.2.2.2.length=1 then p.2.2.2.2[0]? else none
def SV (l:List (ByteArray × Vl)) (w:ByteArray) (x:Vl):List (ByteArray × Vl):=L9 l (Q0 l w:Int) (w,x)
def OB:List TF→List (ByteArray × Vl)→List (ByteArray × Vl)
 | [],l=>l
 | p::ps,l=>match Zb9 p with
  | some x=>if Yv l p.2.1=true then OB ps l else OB ps (SV l p.2.1 x)
  | none=>OB ps l
theorem Zan {l:List (ByteArray × Vl)} (hs:SS l) {w:ByteArray} (h:Yv l w=false) (x:Vl):SS (SV l w x):=by
 unfold SV L9
 rw [Int.toNat_natCast]
 have:=Zbu hs (w,x) (fun p a e=>by rw [MS.2 ⟨p,a,e⟩] at h;cases h) (j:=Q0 l w) (OA w l) (fun q=>Zds l w q)
 simpa using this
theorem Rh (l:List (ByteArray × Vl)) (w:ByteArray) (x:Vl):(SV l w x).Perm ((w,x)::l):=by
 unfold SV L9
 rw [Int.toNat_natCast]
 have:=(List.perm_middle (a:=(w,x)) (l₁:=l.take (Q0 l w)) (l₂:=l.drop (Q0 l w)))
 rwa [List.take_append_drop] at this
theorem X6 (l:List (ByteArray × Vl)) (w:ByteArray) (x:Vl):(SV l w x).length=l.length+1:=(Rh l w x).length_eq
def Vw (v:Vl) (l:List (ByteArray × Vl)):Vl:=Vl.mk v.kind v.int v.scale v.text v.list l
theorem YQ (rec:Ty→Vl→Option Vl) (n:Nat) (t:Ty) (y:Vl) (hl:t.fields.length≤1000000) (hn:1000000000<n):∀ (k m i:Nat) (l:List (ByteArray × Vl)),i+k=t.fields.length→k<m→SS l→l.length+k≤100000000 →
  Bi rec n t y m i l=some (Vw y (OB (t.fields.drop i) l))
 | k,0,i,l,_,h,_,_=>absurd h (Nat.not_lt_zero _)
 | 0,m+1,i,l,hi,_,_,_=>by
  rw [Bi,An,decide_eq_false (by omega),if_neg (by decide),List.drop_eq_nil_of_le (by omega)];rfl
 | k+1,m+1,i,l,hi,hm,hs,hk=>by
  have d:i<t.fields.length:=by omega
  have f:∀ e,SS e→e.length+k≤100000000→DF rec n (Bi rec n t y m) i e=some (Vw y (OB (t.fields.drop (i+1)) e)):=fun e a b=>by
   rw [DF,if_pos (Ar (by omega))]
   exact YQ rec n t y hl hn k m (i+1) e (by omega) (by omega) a b
  rw [Bi,An,decide_eq_true d,if_pos rfl,Au d,Option.bind_some,List.drop_eq_getElem_cons d,OB,Zb9]
  by_cases c:t.fields[i].2.2.1=3∧t.fields[i].2.2.2.2.length=1
  ·have g:0<t.fields[i].2.2.2.2.length:=by omega
   rw [decide_eq_true c.1,decide_eq_true (show (t.fields[i].2.2.2.2.length:Int)=1 by omega),if_neg (by decide),ZjI n l _ _ (fun x=>rfl) hs (by omega) (by omega),Option.bind_some,if_pos c,List.getElem?_eq_getElem g]
   simp only
   cases q:Yv l t.fields[i].2.1 with
   | true=>rw [if_neg (by decide),if_pos rfl];exact f l hs (by omega)
   | false =>
    have j:=Zdy l t.fields[i].2.1
    rw [if_pos (by rfl),if_neg (by decide),show Cb t.fields[i].2.2.2.2 0=some t.fields[i].2.2.2.2[0] from Au (k:=0) g,Option.bind_some,if_pos (by omega)]
    exact f _ (Zan hs q _) (by have:=X6 l t.fields[i].2.1 t.fields[i].2.2.2.2[0];rw [SV] at this;rw [this];omega)
  ·rw [if_pos,if_neg c]
   ·exact f l hs (by omega)
   ·rw [Bool.or_eq_true,Bool.not_eq_true',Bool.not_eq_true',decide_eq_false_iff_not,decide_eq_false_iff_not];omega
def Dx (f:Ty→Vl→Vl) (t:Ty) (v:Vl):Vl :=
 if t.kind=8 then (match t.elem with | [x]=>Vl.mk v.kind v.int v.scale v.text (v.list.map (f x)) v.fields | _=>v)
 else if t.kind=9 then Vw v (v.fields.map fun q=>match Bj t q.1 with | some p=>(q.1,f p.2.2.2.1 q.2) | none=>q)
 else if t.kind=10 then (match Bj t v.text,v.list with | some p,x::_=>Vl.mk v.kind v.int v.scale v.text [f p.2.2.2.1 x] v.fields | _,_=>v)
 else v
def BZ:Nat→Ty→Vl→Vl
 | 0,_,v=>v
 | d+1,t,v=>if v.kind≠t.kind∨A5 v=false then v else if t.kind=9 then Vw (Dx (BZ d) t v) (OB t.fields (Dx (BZ d) t v).fields) else Dx (BZ d) t v
theorem ZcO (n:Nat) (t:Ty) (v:Vl) (a2:Ty→Vl→Option Vl) (f:Ty→Vl→Vl) (hf:∀ q∈v.fields,∀ p,Bj t q.1=some p→a2 p.2.2.2.1 q.2=some (f p.2.2.2.1 q.2)) (ht:t.fields.length≤1000000000) (htn:t.fields.length<n) (hl:v.fields.length≤1000000000):∀ (k m i:Nat),i+k=v.fields.length→k<m →
  Dq n t v a2 m i ((v.fields.take i).map fun q=>match Bj t q.1 with | some p=>(q.1,f p.2.2.2.1 q.2) | none=>q)=some (Vw v (v.fields.map fun q=>match Bj t q.1 with | some p=>(q.1,f p.2.2.2.1 q.2) | none=>q))
 | k,0,i,_,h=>absurd h (Nat.not_lt_zero _)
 | 0,m+1,i,hi,_=>by
  rw [Dq,An,decide_eq_false (by omega),if_neg (by decide),List.take_of_length_le (by omega)];rfl
 | k+1,m+1,i,hi,hm=>by
  have a:i<v.fields.length:=by omega
  have ih:=ZcO n t v a2 f hf ht htn hl k m (i+1) (by omega) (by omega)
  rw [List.take_succ_eq_append_getElem a,List.map_append,List.map_singleton] at ih
  rw [Dq,An,decide_eq_true a,if_pos rfl,Au a,Option.bind_some,JW n t _ ht htn,Option.bind_some]
  cases c:Bj t v.fields[i].1 with
  | none =>
   rw [c] at ih
   rw [if_neg (by decide),Fh,if_pos (by rw [List.length_map,List.length_take];omega),if_pos (Ar (by omega))]
   exact ih
  | some p =>
   rw [c] at ih
   have e:=hf _ (List.getElem_mem a) p c
   simp only [Option.isSome_some,if_true,Option.getD_some,e,Option.bind_some]
   rw [Fh,if_pos (by rw [List.length_map,List.length_take];omega),if_pos (Ar (by omega))]
   exact ih
theorem ZgD (n:Nat) (t x:Ty) (v:Vl) (a2:Ty→Vl→Option Vl) (f:Ty→Vl→Vl) (he:t.elem=[x]) (hf:∀ u∈v.list,a2 x u=some (f x u)) (hl:v.list.length≤1000000000):∀ (k m i:Nat),i+k=v.list.length→k<m →
  E5 n t v a2 m i ((v.list.take i).map (f x))=some (Vl.mk v.kind v.int v.scale v.text (v.list.map (f x)) v.fields)
 | k,0,i,_,h=>absurd h (Nat.not_lt_zero _)
 | 0,m+1,i,hi,_=>by
  rw [E5,An,decide_eq_false (by omega),if_neg (by decide),List.take_of_length_le (by omega)];rfl
 | k+1,m+1,i,hi,hm=>by
  have a:i<v.list.length:=by omega
  have ih:=ZgD n t x v a2 f he hf hl k m (i+1) (by omega) (by omega)
  rw [List.take_succ_eq_append_getElem a,List.map_append,List.map_singleton] at ih
  rw [E5,An,decide_eq_true a,if_pos rfl,Au a,Option.bind_some,he,show Cb [x] 0=some x from rfl,Option.bind_some,hf _ (List.getElem_mem a),Option.bind_some,if_pos (by rw [List.length_map,List.length_take];omega),if_pos (Ar (by omega))]
  exact ih
theorem V7 {v:Vl} (h:A5 v=true) (hk:v.kind=9):SS v.fields:=by
 rw [A5,if_neg (by omega),if_neg (by omega),if_neg (by omega),if_neg (by omega),if_neg (by omega),if_neg (by omega),if_pos hk,Bool.and_eq_true] at h
 exact (W6 _).1 h.1
theorem Uc {v:Vl} (h:A5 v=true) (hk:v.kind=10):v.list.length=1:=by
 rw [A5,if_neg (by omega),if_neg (by omega),if_neg (by omega),if_neg (by omega),if_neg (by omega),if_neg (by omega),if_neg (by omega),if_pos hk,Bool.and_eq_true,decide_eq_true_eq] at h
 exact h.1
theorem Zcj {l m:List (ByteArray × Vl)} (h:l.map Prod.fst=m.map Prod.fst) (hs:SS m):SS l:=by
 have c:∀ l:List (ByteArray × Vl),SS l↔(l.map Prod.fst).Pairwise fun a b=>Eh a b<0:=fun l=>by unfold SS;rw [List.pairwise_map]
 rw [c] at hs ⊢
 rwa [h]
theorem Ss (f:Ty→Vl→Vl) (t:Ty) (v:Vl) (hk:t.kind=9):(Dx f t v).fields.map Prod.fst=v.fields.map Prod.fst:=by
 rw [Dx,if_neg (by omega),if_pos hk]
 simp only [Vw,Vl.fields,List.map_map]
 refine List.map_congr_left fun q _=>?_
 simp only [Function.comp]
 cases Bj t q.1<;>rfl
theorem Ly:∀ (d n:Nat) (t:Ty) (v:Vl),t.depth≤d→t.size≤200→v.size≤1048576→v.ok→2000000000+d<n→CN n t v=some (BZ d t v)
 | 0,n,t,v,h,_,_,_,_=>by have:=t.depth_eq;omega
 | d+1,0,t,v,_,_,_,_,h=>absurd h (by omega)
 | d+1,n+1,t,v,hd,ht,hv,ho,hn=>by
  have H:=t.lens
  have J:=Im v
  obtain ⟨E,C,G⟩:=v.ok_eq.1 ho
  rw [CN,II,BZ]
  by_cases hk:v.kind=t.kind
  rotate_left
  ·rw [decide_eq_false hk,if_pos (by rfl),if_pos (.inl hk)]
  rw [decide_eq_true hk,if_neg (by decide),VX n v (by omega) (by omega) (US E),Option.bind_some]
  cases hf:A5 v with
  | false=>rw [if_pos (by rfl),if_pos (.inr rfl)]
  | true =>
   rw [if_neg (by decide),if_neg (show ¬ (v.kind≠t.kind∨true=false) by simp [hk])]
   by_cases k9:t.kind=9
   ·rw [decide_eq_true k9,if_pos rfl,if_pos k9]
    have e:=ZcO n t v (fun m l=>CN n m l) (BZ d) (fun q s p i=>Ly d n _ _ (by have:=Ty.depth_field (DN i).1;omega) (by have:=t.field_size p (DN i).1;omega) (by have:=v.field_size q s;omega) (G q s).2 (by omega)) (by omega) (by omega) (by omega) v.fields.length n 0 (by omega) (by omega)
    have F:Vw v (v.fields.map fun q=>match Bj t q.1 with | some p=>(q.1,BZ d p.2.2.2.1 q.2) | none=>q)=Dx (BZ d) t v:=by rw [Dx,if_neg (by omega),if_pos k9]
    rw [List.take_zero,List.map_nil,F] at e
    have k:SS (Dx (BZ d) t v).fields:=Zcj (Ss _ t v k9) (V7 hf (by omega))
    have w:(Dx (BZ d) t v).fields.length=v.fields.length:=by have:=congrArg List.length (Ss (BZ d) t v k9);simpa using this
    have:=YQ (CN n) n t (Dx (BZ d) t v) (by omega) (by omega) t.fields.length n 0 (Dx (BZ d) t v).fields (by omega) (by omega) k (by omega)
    rw [J0,if_pos k9]
    rw [List.drop_zero] at this
    refine Eq.trans ?_ this
    exact congrArg (fun o=>Option.bind o fun j=>Bi (CN n) n t j n 0 j.fields) e
   ·rw [decide_eq_false k9,if_neg (by decide),if_neg k9,Dx,KZ]
    by_cases k8:t.kind=8
    ·rw [if_pos k8,decide_eq_true k8,Bool.true_and]
     match he:t.elem with
     | [x] =>
      have f:x∈t.elem:=by rw [he];simp
      have e:=ZgD n t x v (fun m l=>CN n m l) (BZ d) he (fun u z=>Ly d n x u (by have:=Ty.depth_elem f;omega) (by have:=t.elem_size x f;omega) (by have:=v.list_size u z;omega) (C u z) (by omega)) (by omega) v.list.length n 0 (by omega) (by omega)
      rw [List.take_zero,List.map_nil] at e
      rw [if_pos (by rfl)]
      exact congrArg (fun o=>Option.bind o fun y=>some y) e
     | []=>rw [if_neg (by decide),decide_eq_false k9,if_neg (by decide),decide_eq_false (show ¬ t.kind=10 by omega),if_neg (by decide),CW,Option.bind_some,Vl.eta]
     | a::b::r=>rw [if_neg (by rw [decide_eq_true_eq];simp;omega),decide_eq_false k9,if_neg (by decide),decide_eq_false (show ¬ t.kind=10 by omega),if_neg (by decide),CW,Option.bind_some,Vl.eta]
    rw [if_neg k8,if_neg k9,decide_eq_false k8,Bool.false_and,if_neg (by decide),decide_eq_false k9,if_neg (by decide)]
    by_cases k10:t.kind=10
    ·have D:=Uc hf (by omega)
     obtain ⟨x,f⟩:=List.length_eq_one_iff.1 D
     have g:x∈v.list:=by rw [f];simp
     rw [decide_eq_true k10,if_pos rfl,if_pos k10,JW n t v.text (by omega) (by omega),Option.bind_some,f]
     cases c:Bj t v.text with
     | none=>rw [if_neg (by decide),CW,Option.bind_some,←f,Vl.eta]
     | some p =>
      have i:=(DN c).1
      have e:=Ly d n p.2.2.2.1 x (by have:=Ty.depth_field i;omega) (by have:=t.field_size p i;omega) (by have:=v.list_size x g;omega) (C x g) (by omega)
      rw [if_pos (by rfl),show Cb [x] 0=some x from rfl,Option.bind_some]
      simp only [Option.getD_some,e,Option.bind_some,CW]
    ·rw [decide_eq_false k10,if_neg (by decide),if_neg k10,CW,Option.bind_some,Vl.eta]
inductive Vl.Nar:Vl→Prop
 | mk (v:Vl) (hl:v.list.length≤100000000) (hf:v.fields.length≤100000000) (ht:v.text.size≤1048576) (h1:∀ x∈v.list,Vl.Nar x) (h2:∀ p∈v.fields,p.1.size≤1048576) (h3:∀ p∈v.fields,Vl.Nar p.2):Vl.Nar v
theorem Vl.Nar.inv {v:Vl} (h:v.Nar):v.list.length≤100000000∧v.fields.length≤100000000∧v.text.size≤1048576∧(∀ x∈v.list,Vl.Nar x)∧∀ p∈v.fields,p.1.size≤1048576∧Vl.Nar p.2:=by
 cases h with
 | mk _ a b c d e f=>exact ⟨a,b,c,d,fun p g=>⟨e p g,f p g⟩⟩
theorem Vl.Nar.wide {v:Vl} (h:v.Nar):v.wide=true:=by
 induction h with
 | mk v a b c d e f i1 i2=>exact v.wide_iff.2 ⟨by omega,by omega,i1,i2⟩
theorem Vl.Nar.ok {v:Vl} (h:v.Nar):v.ok:=by
 induction h with
 | mk v a b c d e f i1 i2=>exact v.ok_eq.2 ⟨c,i1,fun p g=>⟨e p g,i2 p g⟩⟩
theorem OD:∀ (k:Nat) (v:Vl),v.size≤k→v.size≤1048576→v.ok→v.Nar
 | 0,v,h,_,_=>by have:=v.size_pos;omega
 | k+1,v,h,hs,ho=>by
  obtain ⟨d,e,c⟩:=v.ok_eq.1 ho
  have f:=Im v
  exact .mk v (by omega) (by omega) d (fun x b=>by have:=v.list_size x b;exact OD k x (by omega) (by omega) (e x b)) (fun p a=>(c p a).1) (fun p a=>by have:=v.field_size p a;exact OD k p.2 (by omega) (by omega) (c p a).2)
theorem Vl.Nar.list {v x:Vl} (h:v.Nar) (hx:x∈v.list):x.Nar:=h.inv.2.2.2.1 x hx
theorem Vl.Nar.field {v:Vl} {p:ByteArray × Vl} (h:v.Nar) (hp:p∈v.fields):p.2.Nar:=(h.inv.2.2.2.2 p hp).2
theorem Vl.depth_list {v x:Vl} (hx:x∈v.list):x.depth<v.depth:=by
 have e:=v.depth_eq
 have:=(HU v.list _).1 (Nat.le_refl _) x hx
 omega
theorem Vl.depth_fld {v:Vl} {p:ByteArray × Vl} (hp:p∈v.fields):p.2.depth<v.depth:=by
 have e:=v.depth_eq
 have:=(I0 v.fields _).1 (Nat.le_refl _) p hp
 omega
theorem Ik:∀ (n:Nat) (v:Vl),v.Nar→v.depth+1000000000<n→BK n v=some v
 | 0,v,_,h=>absurd h (Nat.not_lt_zero _)
 | n+1,v,hv,h=>by
  obtain ⟨d,c,_,_,_⟩:=hv.inv
  rw [BK,MA]
  have:=RF (BK n) n v ⟨by omega,by omega⟩ (by omega) ⟨fun x b=>Ik n x (hv.list b) (by have:=Vl.depth_list b;omega),fun p a=>Ik n p.2 (hv.field a) (by have:=Vl.depth_fld a;omega)⟩ v.list.length n 0 (by omega) (by omega)
  rw [List.take_zero] at this
  exact this
def EI:Nat→Ty→Vl→Bool
 | 0,_,_=>false
 | d+1,t,v =>
  if (t.kind<1∨10<t.kind)∨v.kind≠t.kind∨A5 v=false then false
  else if t.kind=2∨t.kind=6∨t.kind=7 then Lp v.int t
  else if t.kind=3 then decide (v.scale=t.scale)&&Lp v.int t
  else if t.kind=4 then GY v.text t
  else if t.kind=5 then Lp v.text.size t
  else if t.kind=8 then Lp v.list.length t&&v.list.all fun u=>(match t.elem with | [x]=>EI d x u | _=>false)
  else if t.kind=9 then (t.fields.all fun p=>match Df v p.2.1 with | some y=>EI d p.2.2.2.1 y | none=>decide (p.2.2.1=2))&&v.fields.all fun q=>(Bj t q.1).isSome
  else if t.kind=10 then (match Bj t v.text,v.list with | some p,x::_=>EI d p.2.2.2.1 x | _,_=>false)
  else true
theorem RI (b:Bool) (p:ByteArray) (c:Int):A9 (!b) b p c=some (true,false):=by cases b<;>rfl
theorem UQ (b:Bool) (t:Ty) (p:ByteArray) (k:Int):Bl (!b) b t p k=some (!(b&&Lp k t),b&&Lp k t):=by
 rw [Bl,RI]
 by_cases h1:k<t.min
 ·rw [decide_eq_true h1,if_pos (by rfl)]
  rw [Lp,decide_eq_false (by omega)];simp
 ·by_cases h2:t.max<k
  ·rw [decide_eq_true h2,if_pos (by simp)]
   rw [Lp,decide_eq_false (show ¬ k≤t.max by omega)];simp
  ·rw [decide_eq_false h1,decide_eq_false h2,if_neg (by decide),Lp,decide_eq_true (show t.min≤k by omega),decide_eq_true (show k≤t.max by omega)];simp
theorem Zhz (l:List UInt8):(⟨l.toArray⟩:ByteArray).size=l.length:=by simp [ByteArray.size]
theorem JM (a b:ByteArray):(a++b).size=a.size+b.size:=ByteArray.size_append
theorem YF (p w:ByteArray) (hp:p.size≤1000000000000000) (hw:w.size≤1048576):∃ s,GW p w=some s∧s.size≤p.size+1048577:=by
 rw [GW]
 cases Dz p ⟨#[]⟩ with
 | true=>exact ⟨w,rfl,by omega⟩
 | false =>
  have e:(⟨#[46]⟩:ByteArray).size=1:=rfl
  rw [if_neg (by decide),if_pos (by omega),if_pos (by rw [JM];omega)]
  exact ⟨_,rfl,by rw [JM,JM];omega⟩
theorem Y1 (rec:Bool→Bool→Ty→Vl→ByteArray→Option (Bool × Bool)) (n:Nat) (t:Ty) (v:Vl) (p:ByteArray) (g:Ty→Vl→Bool) (hp:p.size≤1000000000000000) (hl:v.list.length≤1000000000)
  (hr:∀ x,t.elem=[x]→∀ u∈v.list,∀ (b:Bool) (s:ByteArray),s.size≤p.size+1048577→rec (!b) b x u s=some (!(b&&g x u),b&&g x u)):∀ (k m i:Nat) (b:Bool),i+k=v.list.length→k<m →
  Bg rec n t v p m i (!b) b=some (!(b&&(v.list.drop i).all fun u=>(match t.elem with | [x]=>g x u | _=>false)),b&&(v.list.drop i).all fun u=>(match t.elem with | [x]=>g x u | _=>false))
 | k,0,i,b,_,h=>absurd h (Nat.not_lt_zero _)
 | 0,m+1,i,b,hi,_=>by
  rw [Bg,An,decide_eq_false (by omega),if_neg (by decide),List.drop_eq_nil_of_le (by omega),List.all_nil,Bool.and_true]
 | k+1,m+1,i,b,hi,hm=>by
  have d:i<v.list.length:=by omega
  have ih:=fun b=>Y1 rec n t v p g hp hl hr k m (i+1) b (by omega) (by omega)
  have f:(⟨#[91]⟩:ByteArray).size=1:=rfl
  have j:(⟨#[93]⟩:ByteArray).size=1:=rfl
  have e:=Lib.itoa_length_le (i:Int) (by omega) (by omega)
  have l:(⟨(Lib.itoa i).toArray⟩:ByteArray).size=(Lib.itoa i).length:=Zhz _
  rw [Bg,An,decide_eq_true d,if_pos rfl,Au d,Option.bind_some,if_pos (by omega),if_pos (by unfold BR;omega),if_pos (by rw [JM];omega),if_pos (by rw [JM,JM];omega),List.drop_eq_getElem_cons d,List.all_cons]
  match he:t.elem with
  | [x] =>
   have:=hr x he _ (List.getElem_mem d) b (((p++(⟨#[91]⟩:ByteArray))++(⟨(Lib.itoa i).toArray⟩:ByteArray))++(⟨#[93]⟩:ByteArray)) (by rw [JM,JM,JM];omega)
   have ih:=ih (b&&g x v.list[i])
   rw [he] at ih
   rw [if_pos (by rfl),show Cb [x] 0=some x from rfl,Option.bind_some,this,Option.bind_some,Cf,if_pos (Ar (by omega))]
   simp only [Bool.and_assoc] at ih ⊢
   exact ih
  | [] =>
   have ih:=ih false
   rw [he] at ih
   rw [if_neg (by decide),RI,Option.bind_some,Cf,if_pos (Ar (by omega)),Bool.false_and,Bool.and_false]
   exact ih
  | a::c::r =>
   have ih:=ih false
   rw [he] at ih
   rw [if_neg (by rw [decide_eq_true_eq];simp;omega),RI,Option.bind_some,Cf,if_pos (Ar (by omega)),Bool.false_and,Bool.and_false]
   exact ih
theorem ZaW (rec:Bool→Bool→Ty→Vl→ByteArray→Option (Bool × Bool)) (n:Nat) (t:Ty) (v:Vl) (p:ByteArray) (hp:p.size≤1000000000000000) (ht:t.fields.length≤1000000000) (htn:t.fields.length<n) (hl:v.fields.length≤1000000000) (hv:∀ q∈v.fields,q.1.size≤1048576):∀ (k m i:Nat) (b:Bool),i+k=v.fields.length→k<m →
  Be rec n t v p m i (!b) b=some (!(b&&(v.fields.drop i).all fun q=>(Bj t q.1).isSome),b&&(v.fields.drop i).all fun q=>(Bj t q.1).isSome)
 | k,0,i,b,_,h=>absurd h (Nat.not_lt_zero _)
 | 0,m+1,i,b,hi,_=>by
  rw [Be,An,decide_eq_false (by omega),if_neg (by decide),List.drop_eq_nil_of_le (by omega),List.all_nil,Bool.and_true]
 | k+1,m+1,i,b,hi,hm=>by
  have a:i<v.fields.length:=by omega
  have ih:=fun b=>ZaW rec n t v p hp ht htn hl hv k m (i+1) b (by omega) (by omega)
  rw [Be,An,decide_eq_true a,if_pos rfl,Au a,Option.bind_some,JW n t _ ht htn,Option.bind_some,List.drop_eq_getElem_cons a,List.all_cons]
  cases c:Bj t v.fields[i].1 with
  | none =>
   obtain ⟨s,d,_⟩:=YF p v.fields[i].1 hp (hv _ (List.getElem_mem a))
   have ih:=ih false
   rw [if_pos (by rfl),d,Option.bind_some,RI,Option.bind_some,CC,if_pos (Ar (by omega)),Option.isSome_none,Bool.false_and,Bool.and_false]
   exact ih
  | some q =>
   rw [if_neg (by simp),CC,if_pos (Ar (by omega)),Option.isSome_some,Bool.true_and]
   exact ih b
theorem Kp {v y:Vl} {w:ByteArray} (h:Df v w=some y):∃ q∈v.fields,q.1=w∧q.2=y:=by
 rw [Df] at h
 obtain ⟨q,a,b⟩:=Option.map_eq_some_iff.1 h
 exact ⟨q,List.mem_of_find?_eq_some a,(EE _ _).1 (List.find?_some (p:=fun q:ByteArray × Vl=>Dz q.1 w) a),b⟩
theorem Zhi (rec:Bool→Bool→Ty→Vl→ByteArray→Option (Bool × Bool)) (n:Nat) (t:Ty) (v:Vl) (p:ByteArray) (g:Ty→Vl→Bool) (hk:v.kind=9) (hc:∀ q∈v.fields,BK n q.2=some q.2) (hs:v.fields.length<n) (hp:p.size≤1000000000000000) (ht:t.fields.length≤1000000000) (htn:t.fields.length<n) (hl:v.fields.length≤1000000000) (hv:∀ q∈v.fields,q.1.size≤1048576) (hn:∀ q∈t.fields,q.2.1.size≤1048576)
  (hr:∀ q∈t.fields,∀ y,Df v q.2.1=some y→∀ (b:Bool) (s:ByteArray),s.size≤p.size+1048577→rec (!b) b q.2.2.2.1 y s=some (!(b&&g q.2.2.2.1 y),b&&g q.2.2.2.1 y)):∀ (k m i:Nat) (b:Bool),i+k=t.fields.length→k<m →
  A7 rec n t v p m i (!b) b=some (!(b&&(((t.fields.drop i).all fun q=>match Df v q.2.1 with | some y=>g q.2.2.2.1 y | none=>decide (q.2.2.1=2))&&v.fields.all fun q=>(Bj t q.1).isSome)),b&&(((t.fields.drop i).all fun q=>match Df v q.2.1 with | some y=>g q.2.2.2.1 y | none=>decide (q.2.2.1=2))&&v.fields.all fun q=>(Bj t q.1).isSome)):=by
 intro k
 induction k with
 | zero =>
  intro m i b l j
  obtain ⟨m,rfl⟩:∃ q,m=q+1:=⟨m-1,by omega⟩
  have:=ZaW rec n t v p hp ht htn hl hv v.fields.length n 0 b (by omega) (by omega)
  rw [List.drop_zero] at this
  rw [A7,An,decide_eq_false (by omega),if_neg (by decide),EV,List.drop_eq_nil_of_le (by omega),List.all_nil,Bool.true_and]
  exact this
 | succ k ih =>
  intro m i b l j
  obtain ⟨m,rfl⟩:∃ q,m=q+1:=⟨m-1,by omega⟩
  have d:i<t.fields.length:=by omega
  have f:=List.getElem_mem d
  have ih:=fun b=>ih m (i+1) b (by omega) (by omega)
  obtain ⟨s,h,o⟩:=YF p t.fields[i].2.1 hp (hn _ f)
  rw [A7,An,decide_eq_true d,if_pos rfl,Au d,Option.bind_some,Yq n v _ hk hl hs hc,Option.bind_some,List.drop_eq_getElem_cons d,List.all_cons]
  cases c:Df v t.fields[i].2.1 with
  | some y =>
   have e:=hr _ f y c b s o
   have ih:=ih (b&&g t.fields[i].2.2.2.1 y)
   have r:∀ a g x y:Bool,(a&&g&&(x&&y))=(a&&(g&&x&&y)):=by decide
   rw [r] at ih
   rw [if_pos Option.isSome_some,h,Option.bind_some,Option.getD_some,e,Option.bind_some,BA,if_pos (Ar (by omega))]
   exact ih
  | none =>
   rw [if_neg (by simp)]
   by_cases q:t.fields[i].2.2.1=2
   ·rw [decide_eq_true q,if_neg (by decide),BA,if_pos (Ar (by omega))]
    simp only [Bool.true_and]
    exact ih b
   ·have ih:=ih false
    rw [decide_eq_false q,if_pos (by rfl),h,Option.bind_some,RI,Option.bind_some,BA,if_pos (Ar (by omega))]
    simp only [Bool.false_and,Bool.and_false] at ih ⊢
    exact ih
theorem QT:∀ (d n:Nat) (t:Ty) (v:Vl) (p:ByteArray) (b:Bool),t.depth≤d→t.size≤200→t.ok→v.Nar→v.depth+1000000000<n→2000000000+d<n→p.size+d*2000000≤100000000000000→BX n (!b) b t v p=some (!(b&&EI d t v),b&&EI d t v)
 | 0,n,t,v,p,b,h,_,_,_,_,_,_=>by have:=t.depth_eq;omega
 | d+1,0,t,v,p,b,_,_,_,_,_,h,_=>absurd h (by omega)
 | d+1,n+1,t,v,p,b,hd,ht,hto,hv,hvs,hn,hp=>by
  have Y:=t.lens
  have K:=Im v
  obtain ⟨Q,N,G,D,w⟩:=hv.inv
  obtain ⟨O,V,H,r⟩:=t.ok_eq.1 hto
  rw [BX,GN,EI]
  cases b with
  | false=>rw [if_pos (by rfl)];rfl
  | true =>
   rw [if_neg (by decide),Bool.true_and]
   have a:∀ c,(A9 (!true) true p c).bind (fun y=>some (y.1,y.2))=some (!false,false):=fun c=>by rw [RI];rfl
   by_cases c:(t.kind<1∨10<t.kind)∨v.kind≠t.kind
   ·rw [if_pos (by simp only [Bool.or_eq_true,decide_eq_true_eq,Bool.not_eq_true',decide_eq_false_iff_not];exact c),if_pos (by rcases c with c | c;exact .inl c;exact .inr (.inl c))]
    exact a 1
   rw [if_neg (by simp only [Bool.or_eq_true,decide_eq_true_eq,Bool.not_eq_true',decide_eq_false_iff_not];exact c),VX n v (by omega) (by omega) (US G),Option.bind_some]
   cases hf:A5 v with
   | false=>rw [if_pos (by rfl),if_pos (.inr (.inr rfl))];exact a 8
   | true =>
    have U:v.kind=t.kind:=by
     by_cases q:v.kind=t.kind
     ·exact q
     ·exact absurd (.inr q) c
    have g:∀ k,(Bl (!true) true t p k).bind (fun y=>some (y.1,y.2))=some (!Lp k t,Lp k t):=fun k=>by rw [UQ];rfl
    rw [if_neg (by decide),if_neg (show ¬ ((t.kind<1∨10<t.kind)∨v.kind≠t.kind∨true=false) by rintro (q | q | q);exact c (.inl q);exact c (.inr q);cases q)]
    by_cases k2:t.kind=2
    ·rw [decide_eq_true k2,if_pos rfl,if_pos (.inl k2),BD,if_pos rfl];exact g v.int
    rw [decide_eq_false k2,if_neg (by decide)]
    by_cases k6:t.kind=6
    ·rw [decide_eq_true k6,if_pos rfl,if_pos (.inr (.inl k6)),BD,if_pos rfl];exact g v.int
    rw [decide_eq_false k6,if_neg (by decide)]
    by_cases k7:t.kind=7
    ·rw [decide_eq_true k7,if_pos (.inr (.inr k7)),BD,if_pos rfl];exact g v.int
    rw [decide_eq_false k7,if_neg (by omega),BD,if_neg (by decide)]
    by_cases k3:t.kind=3
    ·rw [decide_eq_true k3,if_pos rfl,if_pos k3]
     by_cases q:v.scale=t.scale
     ·rw [decide_eq_true q,if_neg (by decide),Bool.true_and];exact g v.int
     ·rw [decide_eq_false q,if_pos (by rfl),Bool.false_and];exact a 3
    rw [decide_eq_false k3,if_neg (by decide),if_neg k3]
    by_cases k4:t.kind=4
    ·rw [decide_eq_true k4,if_pos rfl,if_pos k4,Ce,if_pos rfl,decide_eq_true k4,GY]
     by_cases q:t.words=[]
     ·rw [if_pos q,q,if_neg (by decide)];exact g v.text.size
     ·have J:0<t.words.length:=List.length_pos_iff.2 q
      rw [if_neg q,if_pos (by simp only [Bool.true_and,decide_eq_true_eq];omega),Jg n _ t (by omega) (by omega),Option.bind_some]
      cases t.words.any fun x=>Dz x v.text with
      | true=>rfl
      | false=>rw [if_pos (by rfl)];exact a 4
    rw [decide_eq_false k4,if_neg (by decide),if_neg k4]
    by_cases k5:t.kind=5
    ·rw [decide_eq_true k5,if_pos k5,Ce,if_pos rfl,decide_eq_false k4,Bool.false_and,if_neg (by decide)];exact g v.text.size
    rw [decide_eq_false k5,if_neg k5,Ce,if_neg (by decide)]
    by_cases k8:t.kind=8
    ·rw [decide_eq_true k8,if_pos rfl,if_pos k8]
     have e:=Y1 (BX n) n t v p (EI d) (by omega) (by omega) (fun x m u E b s hs=>by
      have j:x∈t.elem:=by rw [m];simp
      exact QT d n x u s b (by have:=Ty.depth_elem j;omega) (by have:=t.elem_size x j;omega) (H x j) (D u E) (by have:=Vl.depth_list E;omega) (by omega) (by omega)) v.list.length n 0 (Lp v.list.length t) (by omega) (by omega)
     rw [List.drop_zero] at e
     refine Eq.trans ?_ e
     exact congrArg (fun o=>Option.bind o fun y46:Bool × Bool=>Bg (BX n) n t v p n 0 y46.1 y46.2) (UQ true t p v.list.length)
    rw [decide_eq_false k8,if_neg (by decide),if_neg k8]
    by_cases k9:t.kind=9
    ·rw [decide_eq_true k9,if_pos rfl,if_pos k9]
     have e:=Zhi (BX n) n t v p (EI d) (by omega) (fun q i=>Ik n q.2 (w q i).2 (by have:=Vl.depth_fld i;omega)) (by omega) (by omega) (by omega) (by omega) (by omega) (fun q i=>(w q i).1) (fun q i=>(r q i).1) (fun q i y F b s hs=>by
       obtain ⟨z,C,_,rfl⟩:=Kp F
       exact QT d n _ _ s b (by have:=Ty.depth_field i;omega) (by have:=t.field_size q i;omega) (r q i).2.1 (w z C).2 (by have:=Vl.depth_fld C;omega) (by omega) (by omega)) t.fields.length n 0 true (by omega) (by omega)
     rw [List.drop_zero,Bool.true_and] at e
     exact congrArg (fun o=>Option.bind o fun y70:Bool × Bool=>some (y70.1,y70.2)) e
    rw [decide_eq_false k9,if_neg (by decide),if_neg k9]
    by_cases k10:t.kind=10
    ·obtain ⟨x,m⟩:=List.length_eq_one_iff.1 (Uc hf (by omega))
     have l:x∈v.list:=by rw [m];simp
     have Z:(⟨#[63]⟩:ByteArray).size=1:=rfl
     rw [decide_eq_true k10,if_pos rfl,if_pos k10,JW n t v.text (by omega) (by omega),Option.bind_some,m]
     cases q:Bj t v.text with
     | none=>rw [if_neg (by decide)];exact a 7
     | some f =>
      have j:=(DN q).1
      have e:=QT d n f.2.2.2.1 x ((p++(⟨#[63]⟩:ByteArray))++v.text) true (by have:=Ty.depth_field j;omega) (by have:=t.field_size f j;omega) (r f j).2.1 (D x l) (by have:=Vl.depth_list l;omega) (by omega) (by rw [JM,JM];omega)
      rw [if_pos (by rfl),show Cb [x] 0=some x from rfl,Option.bind_some,if_pos (by omega),if_pos (by rw [JM];omega)]
      rw [Bool.true_and] at e
      exact congrArg (fun o=>Option.bind o fun y80:Bool × Bool=>some (y80.1,y80.2)) e
    ·rw [decide_eq_false k10,if_neg (by decide),if_neg k10]
theorem ZaT (n d:Nat) (t:Ty) (v:Vl) (hd:t.depth≤d) (hdd:d≤100) (ht:t.size≤200) (hto:t.ok) (hv:v.Nar) (hvs:v.depth+1000000000<n) (hn:2000000000+d<n):IY n t v=some (EI d t v):=by
 rw [IY]
 have:=QT d n t v ⟨#[]⟩ true hd ht hto hv hvs hn (by have:(⟨#[]⟩:ByteArray).size=0:=rfl;omega)
 rw [Bool.true_and] at this
 exact congrArg (fun o=>Option.bind o fun y5:Bool × Bool=>some y5.2) this
inductive Ty.Fine:Nat→Ty→Prop
 | mk (d:Nat) (t:Ty) (own:QH t=0) (he:∀ x∈t.elem,Ty.Fine d x) (hf:∀ p∈t.fields,Ty.Fine d p.2.2.2.1) (hd:∀ p∈t.fields,∀ v∈p.2.2.2.2,N1 v=0∧KH 12 p.2.2.2.1 v=true):Ty.Fine (d+1) t
theorem Ty.Fine.depth:∀ (d:Nat) (t:Ty),t.Fine d→t.depth≤d
 | 0,t,h=>by cases h
 | d+1,t,h=>by
  cases h with
  | mk _ _ own he hf hd =>
   have b:=(MX t.elem d).2 fun x a=>Ty.Fine.depth d x (he x a)
   have c:=(KY t.fields d).2 fun x a=>Ty.Fine.depth d _ (hf x a)
   have:=t.depth_eq
   omega
instance (k:IntKind) (n:Int):Decidable (inK k n):=by cases k<;>exact inferInstanceAs (Decidable (_∧_))
@[go_sem] theorem Zbq (n:Int):Uo (.val (.int .u8 n))=(0≤n∧n≤255):=rfl
@[go_sem] theorem Zgm:Hf []=(⟨#[]⟩:ByteArray):=rfl
@[go_sem] theorem ZeI (k:Nat):(∀ y∈List.replicate k (AV.val (.int .u8 0)),Uo y)↔True:=iff_true_intro fun y a=>by
 rw [List.eq_of_mem_replicate a,Zbq];omega
theorem Ty.Fine.own {d:Nat} {t:Ty} (h:t.Fine d):QH t=0:=by cases h with | mk _ _ a _ _ _=>exact a
theorem Ty.Fine.good:∀ {d:Nat} {t:Ty},t.Fine d→t.Good
 | 0,t,h=>by cases h
 | d+1,t,h=>by
  cases h with
  | mk _ _ own he hf hd=>exact .mk t own (fun x b=>(he x b).good) fun p a=>(hf p a).good
theorem Ty.Fine.elem {d:Nat} {t x:Ty} (h:t.Fine (d+1)) (hx:x∈t.elem):x.Fine d:=by cases h with | mk _ _ _ a _ _=>exact a x hx
theorem Ty.Fine.field {d:Nat} {t:Ty} {p:TF} (h:t.Fine (d+1)) (hx:p∈t.fields):p.2.2.2.1.Fine d:=by cases h with | mk _ _ _ _ a _=>exact a p hx
theorem Ty.Fine.dfl {d:Nat} {t:Ty} {p:TF} (h:t.Fine (d+1)) (hx:p∈t.fields):∀ v∈p.2.2.2.2,N1 v=0∧KH 12 p.2.2.2.1 v=true:=by cases h with | mk _ _ _ _ _ a=>exact a p hx
theorem ZbN {v:Vl} (h:v.kind≠0):BO v=false:=by
 rw [BO,decide_eq_false h];simp
theorem Zaa {v:Vl} (h:v.Good):1≤v.kind∧v.kind≤10:=by
 have:=(MN (J4 h)).1
 omega
theorem J9 (k:Int):∀ (l b:List TF),IH k b l=0→(l.map fun p=>p.2.1).Nodup∧∀ p∈l,∀ q∈b,q.2.1≠p.2.1
 | [],_,_=>⟨.nil,by simp⟩
 | x::r,b,h=>by
  rw [IH] at h
  by_cases q:Lj k b x=0
  rotate_left
  ·rw [if_neg q] at h;exact absurd h q
  rw [if_pos q] at h
  obtain ⟨d,c⟩:=J9 k r (b++[x]) h
  have g:∀ y∈b,y.2.1≠x.2.1:=by
   intro y a e
   unfold Lj at q
   by_cases c1:Fz x.2.1=true
   ·rw [if_pos c1] at q
    by_cases c2:¬ (1≤x.1∧x.1≤9999)
    ·rw [if_pos c2] at q;exact absurd q (by decide)
    rw [if_neg c2,if_pos (List.any_eq_true.2 ⟨y,a,by rw [Ek,(EE _ _).2 e];simp⟩)] at q
    exact absurd q (by decide)
   ·rw [if_neg c1] at q;exact absurd q (by decide)
  refine ⟨List.nodup_cons.2 ⟨fun f=>?_,d⟩,fun p hp y a=>?_⟩
  ·obtain ⟨p,hp,e⟩:=List.mem_map.1 f
   exact c p hp x (by simp) e.symm
  ·rcases List.mem_cons.1 hp with rfl | hp
   ·exact g y a
   ·exact c p hp y (by simp [a])
theorem QS {t:Ty} (hn:(t.fields.map fun p=>p.2.1).Nodup) {p:TF} (hp:p∈t.fields):Bj t p.2.1=some p:=by
 unfold Bj
 revert hn hp
 generalize t.fields=l
 intro hn hp
 induction l with
 | nil=>simp at hp
 | cons x r ih =>
  rw [List.map_cons] at hn
  obtain ⟨a,b⟩:=List.nodup_cons.1 hn
  rw [List.find?_cons]
  rcases List.mem_cons.1 hp with rfl | hp
  ·rw [HD]
  ·have:Dz x.2.1 p.2.1=false:=by
    rw [Bool.eq_false_iff]
    intro q
    exact a (List.mem_map.2 ⟨p,hp,((EE _ _).1 q).symm⟩)
   rw [this]
   exact ih b hp
def DD (b:Int):Bool :=
 (decide (b=2))||(decide (b=3))
theorem Qb (w0:World) (B:List (List AV)) (Rw:List RowA) (L:List LoopA) (a0:Int) (r:Bool) (h:DD a0=r) :
  ACalls Tryz.prog w0 189 [.val (.int .i64 a0)] ⟨B,Rw,L⟩ fun x st=>x = .val (.bool r)∧st=⟨B,Rw,L⟩:=by
 rw [DD] at h
 refine hd [.tmp 2] Tryz.func189 Tryz.ntmps189 fun M0 W0 e d c a f b hs=>?_
 simp only [Am]
 refine rg [0] hs ?_
 refine rg [2] hs ?_
 exact rT h hs a b
theorem Kx (w0:World) (B:List (List AV)) (Rw:List RowA) (L:List LoopA) (a0:Int) :
  ACalls Tryz.prog w0 189 [.val (.int .i64 a0)] ⟨B,Rw,L⟩ fun x st=>x = .val (.bool (DD a0))∧st=⟨B,Rw,L⟩:=Qb w0 B Rw L a0 _ rfl
def Di (g:Int) (b:Int):Bool :=
 (decide (g=b))||((DD g)&&(DD b))
theorem Ui (w0:World) (B:List (List AV)) (Rw:List RowA) (L:List LoopA) (a0:Int) (a1:Int) (r:Bool) (h:Di a0 a1=r) :
  ACalls Tryz.prog w0 128 [.val (.int .i64 a0),.val (.int .i64 a1)] ⟨B,Rw,L⟩ fun x st=>x = .val (.bool r)∧st=⟨B,Rw,L⟩:=by
 rw [Di] at h
 refine hd [.tmp 4] Tryz.func128 Tryz.ntmps128 fun M0 W0 f e d a g c hs=>?_
 simp only [Am]
 refine rg [0,1] hs ?_
 refine rc 3 [4] hs ?_;intro K2 b
 refine DI _ (fun _=>Kx w0 _ _ _ a0) (hv hs) ?_
 refine nc hs ?_
 refine DI _ (fun _=>Kx w0 _ _ _ a1) (hv hs) ?_
 refine ne hs b ?_
 clear b
 exact rT h hs a c
theorem JI (w0:World) (B:List (List AV)) (Rw:List RowA) (L:List LoopA) (a0:Int) (a1:Int) :
  ACalls Tryz.prog w0 128 [.val (.int .i64 a0),.val (.int .i64 a1)] ⟨B,Rw,L⟩ fun x st=>x = .val (.bool (Di a0 a1))∧st=⟨B,Rw,L⟩:=Ui w0 B Rw L a0 a1 _ rfl
def A8 (g:Int) (b:Ty):Bool :=
 (decide (b.min≤g))&&(decide (g≤b.max))
theorem QD (w0:World) (B:List (List AV)) (Rw:List RowA) (L:List LoopA) (a0:Int) (a1:Ty) (r:Bool) (h:A8 a0 a1=r) :
  ACalls Tryz.prog w0 130 [.val (.int .i64 a0),.agg (a1.cs)] ⟨B,Rw,L⟩ fun x st=>x = .val (.bool r)∧st=⟨B,Rw,L⟩:=by
 rw [A8] at h
 refine hd [.tmp 4] Tryz.func130 Tryz.ntmps130 fun M0 W0 e d c a f b hs=>?_
 simp only [Am]
 refine rg [0,3] hs ?_
 refine rg [4] hs ?_
 exact rT h hs a b
theorem C3 (w0:World) (B:List (List AV)) (Rw:List RowA) (L:List LoopA) (a0:Int) (a1:Ty) :
  ACalls Tryz.prog w0 130 [.val (.int .i64 a0),.agg (a1.cs)] ⟨B,Rw,L⟩ fun x st=>x = .val (.bool (A8 a0 a1))∧st=⟨B,Rw,L⟩:=QD w0 B Rw L a0 a1 _ rfl
def AX (rec:Ty→Ty→Vl→Option (Vl × Bool)) (n:Nat) (g:(List (ByteArray × Vl))→Int→Option (Vl × Bool)) (b:Int) (h:List (ByteArray × Vl)):Option (Vl × Bool) :=
 if BR (b+1) then
  g h (b+1)
 else none
def D2 (rec:Ty→Ty→Vl→Option (Vl × Bool)) (n:Nat)  (b:List (ByteArray × Vl)):Option (Vl × Bool) :=
 (KI n b).bind fun g =>
 some ((g,true))
def Ax (rec:Ty→Ty→Vl→Option (Vl × Bool)) (n:Nat) (a0:Ty) (y:Ty) (a2:Vl):Nat→(List (ByteArray × Vl))→Int→Option (Vl × Bool)
 | 0,_,_=>none
 | m+1,b,g =>
  if decide (g<(y.fields.length:Int)) then
   (Cb y.fields g).bind fun h =>
   (Dh n a0.fields h.1).bind fun q =>
   (Ht n a2 q.1.2.1).bind fun s =>
   if q.2&&s.2 then
    (rec q.1.2.2.2.1 h.2.2.2.1 s.1).bind fun y23 =>
    if !y23.2 then
     some ((Vl.mk 0 0 0 ((⟨#[]⟩:ByteArray)) ([]) ([]),false))
    else
     if (b.length+1)*104≤140737488355328∧b.length+1≤4611686018427387904 then
      AX rec n (Ax rec n a0 y a2 m) g (b++([(h.2.1,y23.1)]))
     else none
   else
    if decide (h.2.2.1=1) then
     some ((Vl.mk 0 0 0 ((⟨#[]⟩:ByteArray)) ([]) ([]),false))
    else
     if decide (h.2.2.1=3) then
      (Cb h.2.2.2.2 0).bind fun x37 =>
      if (b.length+1)*104≤140737488355328∧b.length+1≤4611686018427387904 then
       AX rec n (Ax rec n a0 y a2 m) g (b++([(h.2.1,x37)]))
      else none
     else
      AX rec n (Ax rec n a0 y a2 m) g b
  else
   D2 rec n b
def Ed (rec:Ty→Ty→Vl→Option (Vl × Bool)) (n:Nat) (g:Ty) (b:Ty) (h:Vl):Option (Vl × Bool) :=
 Ax rec n g b h n ([]) 0
theorem MJ (w0:World) (rec:Ty→Ty→Vl→Option (Vl × Bool)) (ih:∀ (B:List (List AV)) (Rw:List RowA) (L:List LoopA) (a0:Ty) (a1:Ty) (a2:Vl) (r:Vl × Bool) (h:rec a0 a1 a2=some r),ACalls Tryz.prog w0 79 [.agg (a0.cs),.agg (a1.cs),.agg (a2.cs)] ⟨B,Rw,L⟩ fun x st=>x = .tup [.agg (r.1.cs),.val (.bool r.2)]∧st=⟨B,Rw,L⟩) (n:Nat) (B:List (List AV)) (Rw:List RowA) (L:List LoopA) (a0:Ty) (a1:Ty) (a2:Vl) (r:Vl × Bool) (h:Ed rec n a0 a1 a2=some r) :
  ACalls Tryz.prog w0 132 [.agg (a0.cs),.agg (a1.cs),.agg (a2.cs)] ⟨B,Rw,L⟩ fun x st=>x = .tup [.agg (r.1.cs),.val (.bool r.2)]∧st=⟨B,Rw,L⟩:=by
 rw [Ed] at h
 refine hd [.cell 6 46,.tmp 7] Tryz.func132 Tryz.ntmps132 fun M0 W0 hN V N o hu q hs=>?_
 simp only [Am]
 refine rg [3,4,5,6] hs ?_
 refine rg [3,4,5,6,8] hs ?_
 refine Ak (fun e st=>∃ (p:List (ByteArray × Vl)) (t:Ev.Own),Ck e st B Rw L [(6,true,.box (B.length+3) 0),(8,true,.list (p.map BI) t)] [a0.cs,a1.cs,a2.cs,[.val (.int .i64 0),.val (.int .i64 0),.val (.int .i64 0),.val (.string ((⟨#[]⟩:ByteArray))),.list ([]) .full,.list ([]) .full]] [(7,p.length,t)] (D2 rec n p=some r)) ?_ ?_
 ·intro K5 am
  refine rg [3,5,6,8,18,19,20] hs ?_
  apply Ad
  refine Ap (fun m e st=>∃ (a:List (ByteArray × Vl)) (d:Int) (g:Ev.Own),Ck e st B Rw L [(3,true,.box B.length 0),(5,true,.box (B.length+2) 0),(6,true,.box (B.length+3) 0),(8,true,.list (a.map BI) g),(18,true,.list (a1.fields.map Cd) .none),(19,true,.val (.int .i64 (a1.fields.length:Int))),(20,true,.val (.int .i64 d))] [a0.cs,a1.cs,a2.cs,[.val (.int .i64 0),.val (.int .i64 0),.val (.int .i64 0),.val (.string ((⟨#[]⟩:ByteArray))),.list ([]) .full,.list ([]) .full]] [(7,a.length,g)] (Ax rec n a0 a1 a2 m a d=some r)) n ⟨([]),0,.full,([]),Rw,ef hs,ef hs,Owns.of_eq ((q).full 7 0) EK,h⟩ ?_
  rintro ml7 e st ⟨a,d,g,Xl7,Rl7,rfl,rfl,q,h⟩ Ul7 Vl7
  cases ml7 with
  | zero=>cases h
  | succ ml7 =>
  rw [Ax] at h
  have hU:=q.unders
  simp only [List.mem_cons,List.not_mem_nil,or_false,forall_eq_or_imp,forall_eq] at hU
  refine td hN V N o q ?_
  refine rg [3,5,6,8,18,19,20,21] hs ?_
  apply Aa;intro K9 ad
  refine Av h hs (fun hs h=>?_) (fun hs h=>?_)
  rotate_left
  ·refine sx [6,8] hs am ?_
   exact ⟨a,g,([]),Rl7,ef hs,ef hs,Owns.of_eq (q) EK,h⟩
  refine sk [3,5,6,8,18,19,20] hs ad ?_
  clear ad
  refine Ak (fun e st=>∃ (i:List (ByteArray × Vl)) (j:Ev.Own),Ck e st B Rw L [(3,true,.box B.length 0),(5,true,.box (B.length+2) 0),(6,true,.box (B.length+3) 0),(8,true,.list (i.map BI) j),(18,true,.list (a1.fields.map Cd) .none),(19,true,.val (.int .i64 (a1.fields.length:Int))),(20,true,.val (.int .i64 d))] [a0.cs,a1.cs,a2.cs,[.val (.int .i64 0),.val (.int .i64 0),.val (.int .i64 0),.val (.string ((⟨#[]⟩:ByteArray))),.list ([]) .full,.list ([]) .full]] [(7,i.length,j)] (AX rec n (Ax rec n a0 a1 a2 ml7) d i=some r)) ?_ ?_
  ·intro K13 u
   apply Ad
   obtain ⟨b,ae,h⟩:=bind_some h
   obtain ⟨ah,aj,U⟩:=Ao ae
   have Q:=Aq (f:=Cd) U
   have hs:=And.intro Q hs
   refine rg [3,5,6,8,10,18,19,20] hs ?_
   obtain ⟨c,ab,h⟩:=bind_some h
   refine rc 2 [3,5,6,8,10,11,12,18,19,20] hs ?_;intro K16 F
   refine Ab _ (Ft w0 n _ _ _ a0.fields b.1 _ ab) (hv hs) ?_
   refine ne hs F ?_
   clear F
   obtain ⟨w,Z,h⟩:=bind_some h
   refine rc 2 [3,5,6,8,10,11,12,13,14,18,19,20] hs ?_;intro K18 J
   refine Ab _ (P5 w0 n _ _ _ a2 c.1.2.1 _ Z) (hv hs) ?_
   refine ne hs J ?_
   clear J
   apply Ad
   refine rg [3,5,6,8,10,11,13,18,19,20,39] hs ?_
   refine Av h hs (fun hs h=>?_) (fun hs h=>?_)
   ·obtain ⟨af,aa,h⟩:=bind_some h
    refine rc 2 [3,5,6,8,10,15,16,18,19,20] hs ?_;intro K22 D
    refine Ab _ (ih _ _ _ c.1.2.2.2.1 b.2.2.2.1 w.1 _ aa) (hv hs) ?_
    refine ne hs D ?_
    clear D
    apply Aa;intro K24 H
    refine rg [3,5,6,8,10,15,18,19,20,54] hs ?_
    refine Av h hs (fun hs h=>?_) (fun hs h=>?_)
    ·refine rg [6,7] hs ?_
     exact rt h hs o q
    refine sk [3,5,6,8,10,15,18,19,20] hs H ?_
    clear H
    obtain ⟨K,h⟩:=Ac h
    obtain ⟨ak,C,q,k⟩:=q.append (P:=Tryz.prog) LV (by rw [HF];rfl) (by decide) 1 K.1 K.2
    replace k:=fun (ys:List AV) B L o2=>k (a.map BI) ys B L o2 EK
    replace k:=fun (y:AV) B L o2=>k [y] B L o2 EK ev
    try simp only [List.mem_singleton,List.mem_cons,List.not_mem_nil,or_false,forall_eq_or_imp,forall_eq,List.map_append,List.map_cons,List.map_nil,Fp,FA,FH,FB,FC,E1,D6,DY,Fj,CO,CH,D7,D3,D5] at k
    have hs:=And.intro k hs
    refine rl [3,5,6,8,18,19,20] hs u ?_
    exact ⟨(a++([(b.2.1,af.1)])),ak,([.val (.int .i64 b.1)::(.val (.string b.2.1)::(.val (.int .i64 b.2.2.1)::((b.2.2.2.1.cs)++([.list (b.2.2.2.2.map A1) .none])))),.val (.int .i64 c.1.1)::(.val (.string c.1.2.1)::(.val (.int .i64 c.1.2.2.1)::((c.1.2.2.2.1.cs)++([.list (c.1.2.2.2.2.map A1) .none])))),w.1.cs,af.1.cs]),C,ef hs,ef hs,Owns.of_eq (q) EK,h⟩
   refine rg [3,5,6,8,10,18,19,20,63] hs ?_
   refine Av h hs (fun hs h=>?_) (fun hs h=>?_)
   ·refine rg [6,7] hs ?_
    exact rt h hs o q
   refine rg [3,5,6,8,10,18,19,20,68] hs ?_
   refine Av h hs (fun hs h=>?_) (fun hs h=>?_)
   ·obtain ⟨ap,ag,ao,v,h⟩:=ix A1 h
    have O:(b.2.2.2.2.map A1).getD 0 .junk=_:=v
    obtain ⟨G,h⟩:=Ac h
    obtain ⟨ai,z,q,l⟩:=q.append (P:=Tryz.prog) LV (by rw [HF];rfl) (by decide) 1 G.1 G.2
    replace l:=fun (ys:List AV) B L o2=>l (a.map BI) ys B L o2 EK
    replace l:=fun (y:AV) B L o2=>l [y] B L o2 EK ev
    try simp only [List.mem_singleton,List.mem_cons,List.not_mem_nil,or_false,forall_eq_or_imp,forall_eq,List.map_append,List.map_cons,List.map_nil,Fp,FA,FH,FB,FC,E1,D6,DY,Fj,CO,CH,D7,D3,D5] at l
    have hs:=And.intro v hs
    have hs:=And.intro O hs
    have hs:=And.intro l hs
    refine dl 9 1 1 [3,5,6,8,18,19,20] hs Gm u ?_
    exact ⟨(a++([(b.2.1,ap)])),ai,([.val (.int .i64 b.1)::(.val (.string b.2.1)::(.val (.int .i64 b.2.2.1)::((b.2.2.2.1.cs)++([.list (b.2.2.2.2.map A1) .none])))),.val (.int .i64 c.1.1)::(.val (.string c.1.2.1)::(.val (.int .i64 c.1.2.2.1)::((c.1.2.2.2.1.cs)++([.list (c.1.2.2.2.2.map A1) .none])))),w.1.cs]),z,ef hs,ef hs,Owns.of_eq (q) EK,h⟩
   refine sk [3,5,6,8,18,19,20] hs u ?_
   exact ⟨a,g,([.val (.int .i64 b.1)::(.val (.string b.2.1)::(.val (.int .i64 b.2.2.1)::((b.2.2.2.1.cs)++([.list (b.2.2.2.2.map A1) .none])))),.val (.int .i64 c.1.1)::(.val (.string c.1.2.1)::(.val (.int .i64 c.1.2.2.1)::((c.1.2.2.2.1.cs)++([.list (c.1.2.2.2.2.map A1) .none])))),w.1.cs]),Rl7,ef hs,ef hs,Owns.of_eq (q) EK,h⟩
  ·clear h;rintro e st ⟨i,j,Xk12,Rk12,rfl,rfl,q,h⟩
   rw [AX] at h
   have hU:=q.unders
   simp only [List.mem_cons,List.not_mem_nil,or_false,forall_eq_or_imp,forall_eq] at hU
   refine td hN V N o q ?_
   obtain ⟨aq,h⟩:=Ac h
   refine rl [3,5,6,8,18,19,20] hs (fun e s=>Vl7 ml7 e s (Nat.lt_succ_self _)) ?_
   exact ⟨i,(d+1),j,([]),Rk12,ef hs,ef hs,Owns.of_eq (q) EK,h⟩
 ·clear h;rintro e st ⟨p,t,Xk4,Rk4,rfl,rfl,q,h⟩
  rw [D2] at h
  have hU:=q.unders
  simp only [List.mem_cons,List.not_mem_nil,or_false,forall_eq_or_imp,forall_eq] at hU
  refine td hN V N o q ?_
  obtain ⟨ar,Y,h⟩:=bind_some h
  refine rc 2 [6,7] hs ?_;intro K43 E
  refine Ab _ (Y8 w0 n _ _ _ p _ Y) (hv hs) ?_
  refine ne hs E ?_
  clear E
  exact rt h hs o q
def Gf (rec:Ty→Ty→Vl→Option (Vl × Bool)) (n:Nat) (b:Ty) (g:Vl) (b4_k41_4:List Vl):Option (Vl × Bool) :=
 some ((Vl.mk 8 0 0 ((⟨#[]⟩:ByteArray)) b4_k41_4 ([]),A8 (g.list.length:Int) b))
def GL (rec:Ty→Ty→Vl→Option (Vl × Bool)) (n:Nat) (b:Vl):Option (Vl × Bool) :=
 some ((b,true))
def C2 (rec:Ty→Ty→Vl→Option (Vl × Bool)) (n:Nat) (a0:Ty) (y:Ty) (h:Vl):Nat→Int→(List Vl)→Option (Vl × Bool)
 | 0,_,_=>none
 | m+1,b,b4_l44_4 =>
  if decide (b<(h.list.length:Int)) then
   (Cb h.list b).bind fun x50 =>
   (Cb a0.elem 0).bind fun q =>
   (Cb y.elem 0).bind fun s =>
   (rec q s x50).bind fun g =>
   if !g.2 then
    some ((Vl.mk 0 0 0 ((⟨#[]⟩:ByteArray)) ([]) ([]),false))
   else
    if (b4_l44_4.length+1)*88≤140737488355328∧b4_l44_4.length+1≤4611686018427387904 then
     if BR (b+1) then
      (C2 rec n a0 y h m) (b+1) (b4_l44_4++([g.1]))
     else none
    else none
  else
   Gf rec n y h b4_l44_4
def Bz (rec:Ty→Ty→Vl→Option (Vl × Bool)) (n:Nat) (a0:Ty) (g:Ty) (b:Vl) (h:Bool):Option (Vl × Bool) :=
 if h then
  some ((b,A8 b.int g))
 else
  if decide (g.kind=5) then
   some ((b,A8 (b.text.size:Int) g))
  else
   if decide (g.kind=4) then
    if decide (0<(g.words.length:Int)) then
     (Bm n g.words b.text).bind fun y35 =>
     some ((b,y35))
    else
     some ((b,A8 (b.text.size:Int) g))
   else
    if decide (g.kind=8) then
     C2 rec n a0 g b n 0 ([])
    else
     if decide (g.kind=9) then
      (Ed rec n a0 g b).bind fun s =>
      some ((s.1,s.2))
     else
      if decide (g.kind=10) then
       (I4 n a0 b.text).bind fun y =>
       (Dh n g.fields y.1.1).bind fun q =>
       if !q.2 then
        some ((Vl.mk 0 0 0 ((⟨#[]⟩:ByteArray)) ([]) ([]),false))
       else
        (Cb b.list 0).bind fun x80 =>
        (rec y.1.2.2.2.1 q.1.2.2.2.1 x80).bind fun y81 =>
        (Jr n q.1.2.1 y81.1).bind fun y83 =>
        some ((y83,y81.2))
      else
       GL rec n b 
def Bq (rec:Ty→Ty→Vl→Option (Vl × Bool)) (n:Nat) (q:Ty) (g:Ty) (s:Vl) (b:Bool):Option (Vl × Bool) :=
 if b then
  (Da n s.int q.scale g.scale).bind fun h =>
  some ((Vl.mk g.kind h.1 g.scale ((⟨#[]⟩:ByteArray)) ([]) ([]),h.2&&(A8 h.1 g)))
 else
  if decide (g.kind=6) then
   Bz rec n q g s true
  else
   Bz rec n q g s (decide (g.kind=7))
def Fv (rec:Ty→Ty→Vl→Option (Vl × Bool)) (n:Nat) (g:Ty) (b:Ty) (h:Vl):Option (Vl × Bool) :=
 if !(Di g.kind b.kind) then
  some ((Vl.mk 0 0 0 ((⟨#[]⟩:ByteArray)) ([]) ([]),false))
 else
  if decide (b.kind=2) then
   Bq rec n g b h true
  else
   Bq rec n g b h (decide (b.kind=3))
def Az:Nat→Ty→Ty→Vl→Option (Vl × Bool)
 | 0,_,_,_=>none
 | n+1,g,b,h=>Fv (Az n) n g b h
def I9 (w0:World) (F:Ty→Ty→Vl→Option (Vl × Bool)):Prop:=∀ (B:List (List AV)) (Rw:List RowA) (L:List LoopA) (g:Ty) (b:Ty) (h:Vl) (r:Vl × Bool),F g b h=some r→ACalls Tryz.prog w0 79 [.agg (g.cs),.agg (b.cs),.agg (h.cs)] ⟨B,Rw,L⟩ fun x st=>x = .tup [.agg (r.1.cs),.val (.bool r.2)]∧st=⟨B,Rw,L⟩
theorem O9 (w0:World) (rec:Ty→Ty→Vl→Option (Vl × Bool)) (ih:I9 w0 rec) (n:Nat):I9 w0 (Fv rec n):=by
 intro B Rw L a0 a1 a2 r h
 rw [Fv] at h
 refine hd [.cell 6 46,.tmp 7] Tryz.func79 Tryz.ntmps79 fun M0 W0 hN V Y b hu C hs=>?_
 simp only [Am]
 refine rg [3,4,5,6] hs ?_
 apply Aa;intro K2 bc
 refine rc 2 [3,4,5,6,25] hs ?_;intro K3 ba
 refine Ab _ (JI w0 _ _ _ a0.kind a1.kind) (hv hs) ?_
 refine ne hs ba ?_
 clear ba
 refine Av h hs (fun hs h=>?_) (fun hs h=>?_)
 ·have l:=hs.1
  refine rg [6,7] hs ?_
  exact rt h hs b C
 have l:=hs.1
 refine sk [3,4,5,6] hs bc ?_
 clear bc
 refine Ak (fun e st=>Ck e st B Rw L [(5,true,.box (B.length+2) 0),(6,true,.box (B.length+3) 0)] [a0.cs,a1.cs,a2.cs,[.val (.int .i64 0),.val (.int .i64 0),.val (.int .i64 0),.val (.string ((⟨#[]⟩:ByteArray))),.list ([]) .full,.list ([]) .full]] [] (GL rec n a2  = some r)) ?_ ?_
 ·intro K8 bu
  refine rg [3,4,5,6,28] hs ?_
  apply Ad
  refine Ak (fun e st=>∃ (N:Bool),Ck e st B Rw L [(3,true,.box B.length 0),(4,true,.box (B.length+1) 0),(5,true,.box (B.length+2) 0),(6,true,.box (B.length+3) 0),(28,true,.val (.int .i64 a1.kind)),(29,true,.val (.bool N))] [a0.cs,a1.cs,a2.cs,[.val (.int .i64 0),.val (.int .i64 0),.val (.int .i64 0),.val (.string ((⟨#[]⟩:ByteArray))),.list ([]) .full,.list ([]) .full]] [] (Bq rec n a0 a1 a2 N=some r)) ?_ ?_
  ·intro K12 ax
   refine rg [3,4,5,6,28,29] hs ?_
   refine Av h hs (fun hs h=>?_) (fun hs h=>?_)
   ·refine sk [3,4,5,6,28,29] hs ax ?_
    exact ⟨true,([]),Rw,ef hs,ef hs,C,h⟩
   refine rl [3,4,5,6,28,29] hs ax ?_
   exact ⟨(decide (a1.kind=3)),([]),Rw,ef hs,ef hs,C,h⟩
  ·clear h;rintro e st ⟨N,Xk11,Rk11,rfl,rfl,C,h⟩
   rw [Bq] at h
   refine td hN V Y b C ?_
   refine Av h hs (fun hs h=>?_) (fun hs h=>?_)
   ·have a:=hs.1
    obtain ⟨bn,bd,h⟩:=bind_some h
    refine rc 2 [4,6,8,9] hs ?_;intro K16 aw
    refine Ab _ (IA w0 n _ _ _ a2.int a0.scale a1.scale _ bd) (hv hs) ?_
    refine ne hs aw ?_
    clear aw
    apply Aa;intro K18 ao
    apply GI Gm [12] [6,7] kr (fun s=>∃ (X:List (List AV)) (rows:List RowA) (c3:List AV),s=⟨B++([a0.cs,a1.cs,a2.cs,c3]++X),rows,L⟩) 2 (B.length+4)
    ·simp +decide only [go_sem,Nat.reduceAdd]
    ·rintro s ⟨X,rows,c3,rfl⟩
     refine ⟨2,?_⟩
     rw [Ae];simp +decide only [go_sem,Nat.reduceAdd,DV,and_self,imp_self,l,a]
     (repeat' apply And.intro)<;>first | refine DI _ (fun _=>C3 w0 _ _ _ bn.1 a1) (hv hs) ?_ | exact cl
     rw [Ae];simp +decide only [go_sem,Nat.reduceAdd,and_self,imp_self,l,a]
     (repeat' apply And.intro)<;>first | rfl | exact cl
    ·refine Good.mk [12] kr ⟨[],_,_,by first | rfl | simp only [List.append_nil,List.nil_append]⟩ ?_ ?_
     ·intro h;exact absurd h (by decide)
     ·intro i hi;simp only [List.mem_cons,List.not_mem_nil,or_false] at hi
      subst hi
      ·apply BF rfl rfl ev
       ·simp +decide only [go_sem,Nat.reduceAdd,DK,l,a]
        (repeat' apply And.intro)<;>first | rfl | exact cl
       ·simp +decide only [go_sem,Nat.reduceAdd,l,a]
        refine Good.mk [] kr ⟨[],_,_,by first | rfl | simp only [List.append_nil,List.nil_append]⟩ ?_ ?_
        ·intro _;apply B2 [6,7];first | (simp +decide only [go_sem,Nat.reduceAdd,and_self,imp_self,l,a];done) | (simp +decide only [go_sem,Nat.reduceAdd,and_self,imp_self,l,a];rfl)
        ·intro i hi;cases hi
    simp +decide only [go_sem,Nat.reduceAdd,and_self,imp_self,l,a]
    (repeat' apply And.intro)<;>first | refine ao _ _ ?_ | exact cl
    clear ao
    exact rt h hs b C
   have a:=hs.1
   refine Ak (fun e st=>∃ (O:Bool),Ck e st B Rw L [(3,true,.box B.length 0),(4,true,.box (B.length+1) 0),(5,true,.box (B.length+2) 0),(6,true,.box (B.length+3) 0),(28,true,.val (.int .i64 a1.kind)),(54,true,.val (.bool O))] [a0.cs,a1.cs,a2.cs,[.val (.int .i64 0),.val (.int .i64 0),.val (.int .i64 0),.val (.string ((⟨#[]⟩:ByteArray))),.list ([]) .full,.list ([]) .full]] [] (Bz rec n a0 a1 a2 O=some r)) ?_ ?_
   ·intro K21 ag
    refine rg [3,4,5,6,28,54] hs ?_
    refine Av h hs (fun hs h=>?_) (fun hs h=>?_)
    ·refine sk [3,4,5,6,28,54] hs ag ?_
     exact ⟨true,([]),Rk11,ef hs,ef hs,C,h⟩
    refine rl [3,4,5,6,28,54] hs ag ?_
    exact ⟨(decide (a1.kind=7)),([]),Rk11,ef hs,ef hs,C,h⟩
   ·clear h;rintro e st ⟨O,Xk20,Rk20,rfl,rfl,C,h⟩
    rw [Bz] at h
    refine td hN V Y b C ?_
    refine Av h hs (fun hs h=>?_) (fun hs h=>?_)
    ·have j:=hs.1
     apply Aa;intro K25 ay
     refine dk 5 2 1 [6,7] hs Gm ?_
     refine Ab _ (C3 w0 _ _ _ a2.int a1) (hv hs) ?_
     refine dn hs ay ?_
     clear ay
     exact rt h hs b C
    have j:=hs.1
    refine rg [3,4,5,6,28,62] hs ?_
    refine Av h hs (fun hs h=>?_) (fun hs h=>?_)
    ·have g:=hs.1
     apply Aa;intro K28 ap
     refine dk 6 2 1 [6,7] hs Gm ?_
     refine Ab _ (C3 w0 _ _ _ (a2.text.size:Int) a1) (hv hs) ?_
     refine dn hs ap ?_
     clear ap
     exact rt h hs b C
    have g:=hs.1
    refine rg [3,4,5,6,28,70] hs ?_
    refine Av h hs (fun hs h=>?_) (fun hs h=>?_)
    ·have k:=hs.1
     apply Aa;intro K31 az
     refine rg [4,5,6,75] hs ?_
     refine Av h hs (fun hs h=>?_) (fun hs h=>?_)
     ·obtain ⟨b1,bg,h⟩:=bind_some h
      apply Aa;intro K34 am
      refine dk 6 2 1 [6,7] hs Gm ?_
      refine Ab _ (EH w0 n _ _ _ a1.words a2.text _ bg) (hv hs) ?_
      refine dn hs am ?_
      clear am
      exact rt h hs b C
     refine sk [4,5,6] hs az ?_
     clear az
     apply Aa;intro K36 ak
     refine dk 6 2 1 [6,7] hs Gm ?_
     refine Ab _ (C3 w0 _ _ _ (a2.text.size:Int) a1) (hv hs) ?_
     refine dn hs ak ?_
     clear ak
     exact rt h hs b C
    have k:=hs.1
    refine rg [3,4,5,6,28,88] hs ?_
    refine Av h hs (fun hs h=>?_) (fun hs h=>?_)
    ·have d:=hs.1
     refine rg [3,4,5,6,10] hs ?_
     refine Ak (fun e st=>∃ (z:List Vl) (H:Ev.Own),Ck e st B Rw L [(4,true,.box (B.length+1) 0),(5,true,.box (B.length+2) 0),(6,true,.box (B.length+3) 0),(10,true,.box (B.length+4) 0)] [a0.cs,a1.cs,a2.cs,[.val (.int .i64 0),.val (.int .i64 0),.val (.int .i64 0),.val (.string ((⟨#[]⟩:ByteArray))),.list ([]) .full,.list ([]) .full],[.val (.int .i64 8),.val (.int .i64 0),.val (.int .i64 0),.val (.string ((⟨#[]⟩:ByteArray))),.list (z.map A1) H,.list ([]) .full]] [(6,z.length,H)] (Gf rec n a1 a2 z=some r)) ?_ ?_
     ·intro K42 a7
      refine rg [3,4,5,6,10,92,93,94] hs ?_
      apply Ad
      refine Ap (fun m e st=>∃ (J:Int) (c:List Vl) (u:Ev.Own),Ck e st B Rw L [(3,true,.box B.length 0),(4,true,.box (B.length+1) 0),(5,true,.box (B.length+2) 0),(6,true,.box (B.length+3) 0),(10,true,.box (B.length+4) 0),(92,true,.list (a2.list.map A1) .none),(93,true,.val (.int .i64 (a2.list.length:Int))),(94,true,.val (.int .i64 J))] [a0.cs,a1.cs,a2.cs,[.val (.int .i64 0),.val (.int .i64 0),.val (.int .i64 0),.val (.string ((⟨#[]⟩:ByteArray))),.list ([]) .full,.list ([]) .full],[.val (.int .i64 8),.val (.int .i64 0),.val (.int .i64 0),.val (.string ((⟨#[]⟩:ByteArray))),.list (c.map A1) u,.list ([]) .full]] [(6,c.length,u)] (C2 rec n a0 a1 a2 m J c=some r)) n ⟨0,([]),.full,([]),Rk20,ef hs,ef hs,Owns.of_eq ((C).full 6 0) EK,h⟩ ?_
      rintro ml44 e st ⟨J,c,u,Xl44,Rl44,rfl,rfl,C,h⟩ Ul44 Vl44
      cases ml44 with
      | zero=>cases h
      | succ ml44 =>
      rw [C2] at h
      have hU:=C.unders
      simp only [List.mem_cons,List.not_mem_nil,or_false,forall_eq_or_imp,forall_eq] at hU
      refine td hN V Y b C ?_
      refine rg [3,4,5,6,10,92,93,94,95] hs ?_
      apply Aa;intro K46 ab
      refine Av h hs (fun hs h=>?_) (fun hs h=>?_)
      rotate_left
      ·have E:=hs.1
       refine sx [4,5,6,10] hs a7 ?_
       exact ⟨c,u,([]),Rl44,ef hs,ef hs,Owns.of_eq (C) EK,h⟩
      have E:=hs.1
      refine sk [3,4,5,6,10,92,93,94] hs ab ?_
      clear ab
      apply Aa;intro K48 ah
      apply Ad
      obtain ⟨a3,a8,h⟩:=bind_some h
      obtain ⟨bk,bi,a4⟩:=Ao a8
      have x:=Aq (f:=A1) a4
      have hs:=And.intro x hs
      refine rg [3,4,5,6,10,12,92,93,94] hs ?_
      apply Aa;intro K51 ai
      obtain ⟨br,bq,bt,q,h⟩:=ix HK h
      have t:(a0.elem.map HK).getD 0 .junk=_:=q
      obtain ⟨bj,bs,bl,p,h⟩:=ix HK h
      have w:(a1.elem.map HK).getD 0 .junk=_:=p
      obtain ⟨a5,bb,h⟩:=bind_some h
      apply GI Gm [13,14] [3,4,5,6,10,13,14,92,93,94] kr (fun s=>∃ (X:List (List AV)) (rows:List RowA),s=⟨B++([a0.cs,a1.cs,a2.cs,[.val (.int .i64 0),.val (.int .i64 0),.val (.int .i64 0),.val (.string ((⟨#[]⟩:ByteArray))),.list ([]) .full,.list ([]) .full],[.val (.int .i64 8),.val (.int .i64 0),.val (.int .i64 0),.val (.string ((⟨#[]⟩:ByteArray))),.list (c.map A1) u,.list ([]) .full],a3.cs]++X),rows,L⟩) 3 (B.length+6)
      ·simp +decide only [go_sem,Nat.reduceAdd]
      ·rintro s ⟨X,rows,rfl⟩
       refine ⟨2,?_⟩
       rw [Ae];simp +decide only [go_sem,Nat.reduceAdd,DV,l,a,j,g,k,d,E,x,q,t,p,w]
       have hs:=And.intro q hs
       have hs:=And.intro t hs
       have hs:=And.intro p hs
       have hs:=And.intro w hs
       (repeat' apply And.intro)<;>first | refine Ab _ (ih _ _ _ br bj a3 _ bb) (hv hs) ?_ | exact cl
       rw [Ae];simp +decide only [go_sem,Nat.reduceAdd,l,a,j,g,k,d,E,x,q,t,p,w]
       (repeat' apply And.intro)<;>first | rfl | exact cl
      ·refine Good.mk [13] kr ⟨[],_,by first | rfl | simp only [List.append_nil,List.nil_append]⟩ ?_ ?_
       ·intro h;exact absurd h (by decide)
       ·intro i hi;simp only [List.mem_cons,List.not_mem_nil,or_false] at hi
        subst hi
        ·apply BF rfl rfl ev
         ·simp +decide only [go_sem,Nat.reduceAdd,DK,l,a,j,g,k,d,E,x,q,t,p,w]
          (repeat' apply And.intro)<;>first | rfl | exact cl
         ·simp +decide only [go_sem,Nat.reduceAdd,l,a,j,g,k,d,E,x,q,t,p,w]
          refine Good.mk [14] kr ⟨_,_,by first | rfl | simp only [List.append_nil,List.nil_append]⟩ ?_ ?_
          ·intro h;exact absurd h (by decide)
          ·intro i hi;simp only [List.mem_cons,List.not_mem_nil,or_false] at hi
           subst hi
           ·apply BF rfl rfl ev
            ·simp +decide only [go_sem,Nat.reduceAdd,DK,l,a,j,g,k,d,E,x,q,t,p,w]
             (repeat' apply And.intro)<;>first | rfl | exact cl
            ·simp +decide only [go_sem,Nat.reduceAdd,l,a,j,g,k,d,E,x,q,t,p,w]
             refine Good.mk [] kr ⟨_,_,by first | rfl | simp only [List.append_nil,List.nil_append]⟩ ?_ ?_
             ·intro _;apply B2 [3,4,5,6,10,13,14,92,93,94];first | (simp +decide only [go_sem,Nat.reduceAdd,l,a,j,g,k,d,E,x,q,t,p,w];done) | (simp +decide only [go_sem,Nat.reduceAdd,l,a,j,g,k,d,E,x,q,t,p,w];rfl)
             ·intro i hi;cases hi
      simp +decide only [go_sem,Nat.reduceAdd,l,a,j,g,k,d,E,x,q,t,p,w]
      (repeat' apply And.intro)<;>first | refine ai _ _ ?_ | exact cl
      clear ai
      apply Aa;intro K55 ad
      have hs:=And.intro q hs
      have hs:=And.intro t hs
      have hs:=And.intro p hs
      have hs:=And.intro w hs
      refine rg [3,4,5,6,10,13,92,93,94,112] hs ?_
      refine Av h hs (fun hs h=>?_) (fun hs h=>?_)
      ·refine rg [6,7] hs ?_
       exact rt h hs b C
      refine sk [3,4,5,6,10,13,92,93,94] hs ad ?_
      clear ad
      obtain ⟨af,h⟩:=Ac h
      obtain ⟨bo,Z,C,K⟩:=C.append (P:=Tryz.prog) Rx (by rw [Me];rfl) (by decide) 1 af.1 af.2
      replace K:=fun (ys:List AV) B L o2=>K (c.map A1) ys B L o2 EK
      replace K:=fun (y:AV) B L o2=>K [y] B L o2 EK ev
      try simp only [List.mem_singleton,List.mem_cons,List.not_mem_nil,or_false,forall_eq_or_imp,forall_eq,List.map_append,List.map_cons,List.map_nil,Fp,FA,FH,FB,FC,E1,D6,DY,Fj,CO,CH,D7,D3,D5] at K
      have hs:=And.intro K hs
      refine rl [3,4,5,6,10,92,93,94] hs ah ?_
      clear ah
      obtain ⟨bx,h⟩:=Ac h
      refine rl [3,4,5,6,10,92,93,94] hs (fun e s=>Vl44 ml44 e s (Nat.lt_succ_self _)) ?_
      exact ⟨(J+1),(c++([a5.1])),bo,([a3.cs,a5.1.cs]),Z,ef hs,ef hs,Owns.of_eq (C) EK,h⟩
     ·clear h;rintro e st ⟨z,H,Xk41,Rk41,rfl,rfl,C,h⟩
      rw [Gf] at h
      have hU:=C.unders
      simp only [List.mem_cons,List.not_mem_nil,or_false,forall_eq_or_imp,forall_eq] at hU
      refine td hN V Y b C ?_
      apply Aa;intro K64 av
      refine dk 6 2 1 [6,7] hs Gm ?_
      refine Ab _ (C3 w0 _ _ _ (a2.list.length:Int) a1) (hv hs) ?_
      refine dn hs av ?_
      clear av
      exact rt h hs b C
    have d:=hs.1
    refine rg [3,4,5,6,28,127] hs ?_
    refine Av h hs (fun hs h=>?_) (fun hs h=>?_)
    ·have F:=hs.1
     obtain ⟨b0,a9,h⟩:=bind_some h
     refine rc 2 [6,7] hs ?_;intro K67 ae
     refine Ab _ (MJ w0 rec ih n _ _ _ a0 a1 a2 _ a9) (hv hs) ?_
     refine ne hs ae ?_
     clear ae
     exact rt h hs b C
    have F:=hs.1
    refine rg [3,4,5,6,135] hs ?_
    refine Av h hs (fun hs h=>?_) (fun hs h=>?_)
    ·have G:=hs.1
     obtain ⟨U,bh,h⟩:=bind_some h
     refine rc 2 [4,5,6,15] hs ?_;intro K71 au
     refine Ab _ (PY w0 n _ _ _ a0 a2.text _ bh) (hv hs) ?_
     refine ne hs au ?_
     clear au
     obtain ⟨Q,bf,h⟩:=bind_some h
     refine rc 2 [5,6,15,17,18] hs ?_;intro K73 aq
     refine Ab _ (Ft w0 n _ _ _ a1.fields U.1.1 _ bf) (hv hs) ?_
     refine ne hs aq ?_
     clear aq
     apply Aa;intro K75 ar
     refine rg [5,6,15,17,153] hs ?_
     refine Av h hs (fun hs h=>?_) (fun hs h=>?_)
     ·have D:=hs.1
      refine rg [6,7] hs ?_
      exact rt h hs b C
     have D:=hs.1
     refine sk [5,6,15,17] hs ar ?_
     clear ar
     apply Aa;intro K79 aa
     obtain ⟨bm,bv,bp,o,h⟩:=ix A1 h
     have v:(a2.list.map A1).getD 0 .junk=_:=o
     obtain ⟨bw,a6,h⟩:=bind_some h
     apply GI Gm [12,13] [6,17,18,19] kr (fun s=>∃ (X:List (List AV)) (rows:List RowA),s=⟨B++([a0.cs,a1.cs,a2.cs,[.val (.int .i64 0),.val (.int .i64 0),.val (.int .i64 0),.val (.string ((⟨#[]⟩:ByteArray))),.list ([]) .full,.list ([]) .full],.val (.int .i64 U.1.1)::(.val (.string U.1.2.1)::(.val (.int .i64 U.1.2.2.1)::((U.1.2.2.2.1.cs)++([.list (U.1.2.2.2.2.map A1) .none])))),.val (.int .i64 Q.1.1)::(.val (.string Q.1.2.1)::(.val (.int .i64 Q.1.2.2.1)::((Q.1.2.2.2.1.cs)++([.list (Q.1.2.2.2.2.map A1) .none]))))]++X),rows,L⟩) 3 (B.length+6)
     ·simp +decide only [go_sem,Nat.reduceAdd]
     ·rintro s ⟨X,rows,rfl⟩
      refine ⟨2,?_⟩
      rw [Ae];simp +decide only [go_sem,Nat.reduceAdd,DV,l,a,j,g,k,d,F,G,D,o,v]
      have hs:=And.intro o hs
      have hs:=And.intro v hs
      (repeat' apply And.intro)<;>first | refine Ab _ (ih _ _ _ U.1.2.2.2.1 Q.1.2.2.2.1 bm _ a6) (hv hs) ?_ | exact cl
      rw [Ae];simp +decide only [go_sem,Nat.reduceAdd,l,a,j,g,k,d,F,G,D,o,v]
      (repeat' apply And.intro)<;>first | rfl | exact cl
     ·refine Good.mk [12] kr ⟨[],_,by first | rfl | simp only [List.append_nil,List.nil_append]⟩ ?_ ?_
      ·intro h;exact absurd h (by decide)
      ·intro i hi;simp only [List.mem_cons,List.not_mem_nil,or_false] at hi
       subst hi
       ·apply BF rfl rfl ev
        ·simp +decide only [go_sem,Nat.reduceAdd,DK,l,a,j,g,k,d,F,G,D,o,v]
         (repeat' apply And.intro)<;>first | rfl | exact cl
        ·simp +decide only [go_sem,Nat.reduceAdd,l,a,j,g,k,d,F,G,D,o,v]
         refine Good.mk [13] kr ⟨_,_,by first | rfl | simp only [List.append_nil,List.nil_append]⟩ ?_ ?_
         ·intro h;exact absurd h (by decide)
         ·intro i hi;simp only [List.mem_cons,List.not_mem_nil,or_false] at hi
          subst hi
          ·apply BF rfl rfl ev
           ·simp +decide only [go_sem,Nat.reduceAdd,DK,l,a,j,g,k,d,F,G,D,o,v]
            (repeat' apply And.intro)<;>first | rfl | exact cl
           ·simp +decide only [go_sem,Nat.reduceAdd,l,a,j,g,k,d,F,G,D,o,v]
            refine Good.mk [] kr ⟨_,_,by first | rfl | simp only [List.append_nil,List.nil_append]⟩ ?_ ?_
            ·intro _;apply B2 [6,17,18,19];first | (simp +decide only [go_sem,Nat.reduceAdd,l,a,j,g,k,d,F,G,D,o,v];done) | (simp +decide only [go_sem,Nat.reduceAdd,l,a,j,g,k,d,F,G,D,o,v];rfl)
            ·intro i hi;cases hi
     simp +decide only [go_sem,Nat.reduceAdd,l,a,j,g,k,d,F,G,D,o,v]
     (repeat' apply And.intro)<;>first | refine aa _ _ ?_ | exact cl
     clear aa
     obtain ⟨bz,be,h⟩:=bind_some h
     have hs:=And.intro o hs
     have hs:=And.intro v hs
     refine rc 2 [6,7] hs ?_;intro K82 aj
     refine Ab _ (Xa w0 n _ _ _ Q.1.2.1 bw.1 _ be) (hv hs) ?_
     refine ne hs aj ?_
     clear aj
     exact rt h hs b C
    have G:=hs.1
    refine sk [5,6] hs bu ?_
    exact ⟨([]),Rk20,ef hs,ef hs,C,h⟩
 ·clear h;rintro e st ⟨Xk7,Rk7,rfl,rfl,C,h⟩
  rw [GL] at h
  refine td hN V Y b C ?_
  refine rg [6,7] hs ?_
  exact rt h hs b C
theorem IB (w0:World):∀ n:Nat,I9 w0 (Az n)
 | 0=>fun _ _ _ _ _ _ _ h=>(nomatch h)
 | n+1=>O9 w0 (Az n) (IB w0 n) n
def Hn (n:Nat) (g:List (ByteArray × Vl)) (h:ByteArray × Vl) (b:Int):Option ((List (ByteArray × Vl))) :=
 if 0≤0∧0≤b∧b≤(g.length:Int) then
  if (0+(g.take b.toNat).length)*104≤140737488355328∧0+(g.take b.toNat).length≤4611686018427387904 then
   if ((g.take b.toNat).length+1)*104≤140737488355328∧(g.take b.toNat).length+1≤4611686018427387904 then
    if 0≤b∧b≤(g.length:Int)∧(g.length:Int)≤(g.length:Int) then
     if ((g.take b.toNat).length+1+(g.drop b.toNat).length)*104≤140737488355328∧(g.take b.toNat).length+1+(g.drop b.toNat).length≤4611686018427387904 then
      some (((g.take b.toNat)++([h]))++(g.drop b.toNat))
     else none
    else none
   else none
  else none
 else none
def Hh (n:Nat) (q:List (ByteArray × Vl)) (g:ByteArray × Vl):Nat→Int→Option ((List (ByteArray × Vl)))
 | 0,_=>none
 | m+1,b =>
  if decide (0<b) then
   if BR (b-1) then
    (Cb q (b-1)).bind fun h =>
    if !(Wj h.1 g.1||Dz h.1 g.1) then
     if BR (b-1) then
      (Hh n q g m) (b-1)
     else none
    else
     Hn n q g b
   else none
  else
   Hn n q g b
def GZ (n:Nat) (b:List (ByteArray × Vl)) (g:ByteArray × Vl):Option ((List (ByteArray × Vl))) :=
 Hh n b g n (b.length:Int)
theorem Qh (w0:World) (n:Nat) (B:List (List AV)) (Rw:List RowA) (L:List LoopA) (a0:List (ByteArray × Vl)) (a1:ByteArray × Vl) (r:(List (ByteArray × Vl))) (h:GZ n a0 a1=some r) :
  ACalls Tryz.prog w0 89 [.list (a0.map BI) .none,.agg (.val (.string a1.1)::(a1.2.cs))] ⟨B,Rw,L⟩ fun x st=>x = .list (r.map BI) .none∧st=⟨B,Rw,L⟩:=by
 rw [GZ] at h
 refine hd [.tmp 4] Tryz.func89 Tryz.ntmps89 fun M0 W0 J w t i Y g hs=>?_
 simp only [Am]
 refine rg [0,3] hs ?_
 refine rg [0,3,5] hs ?_
 refine Ak (fun e st=>∃ (a:Int),Ck e st B Rw L [(0,true,.list (a0.map BI) .none),(3,true,.box B.length 0),(5,true,.val (.int .i64 a))] [.val (.string a1.1)::(a1.2.cs)] [] (Hn n a0 a1 a=some r)) ?_ ?_
 ·intro K5 v
  apply Ad
  refine Ap (fun m e st=>∃ (b:Int),Ck e st B Rw L [(0,true,.list (a0.map BI) .none),(3,true,.box B.length 0),(5,true,.val (.int .i64 b))] [.val (.string a1.1)::(a1.2.cs)] [] (Hh n a0 a1 m b=some r)) n ⟨(a0.length:Int),([]),Rw,ef hs,ef hs,g,h⟩ ?_
  rintro ml6 e st ⟨b,Xl6,Rl6,rfl,rfl,g,h⟩ Ul6 Vl6
  cases ml6 with
  | zero=>cases h
  | succ ml6 =>
  rw [Hh] at h
  refine td J w t i g ?_
  apply Aa;intro K7 u
  apply Aa;intro K8 k
  rcases Bool.eq_false_or_eq_true (decide (0<b)) with hf9 | hf9
  ·replace h:=AO h hf9
   obtain ⟨H,h⟩:=Ac h
   obtain ⟨O,F,E,q,h⟩:=ix BI h
   have hs:=And.intro hf9 hs
   have hs:=And.intro q hs
   refine dl 13 1 1 [0,3,5,21] hs Gm k ?_
   clear k
   refine Av h hs (fun hs h=>?_) (fun hs h=>?_)
   rotate_left
   ·refine sx [0,3,5] hs v ?_
    exact ⟨b,([]),Rl6,ef hs,ef hs,g,h⟩
   refine sk [0,3,5] hs u ?_
   clear u
   apply Ad
   obtain ⟨N,h⟩:=Ac h
   refine rl [0,3,5] hs (fun e s=>Vl6 ml6 e s (Nat.lt_succ_self _)) ?_
   exact ⟨(b-1),([]),Rl6,ef hs,ef hs,g,h⟩
  ·replace h:=AN h hf9
   have hs:=And.intro hf9 hs
   refine dl 13 1 1 [0,3,5,21] hs Gm k ?_
   clear k
   refine AP false ev (ef hs) (fun hb14=>by cases hb14) (fun hb14=>?_)
   refine sx [0,3,5] hs v ?_
   exact ⟨b,([]),Rl6,ef hs,ef hs,g,h⟩
 ·clear h;rintro e st ⟨a,Xk4,Rk4,rfl,rfl,g,h⟩
  rw [Hn] at h
  refine td J w t i g ?_
  obtain ⟨G,h⟩:=Ac h
  obtain ⟨o,h⟩:=Ac h
  have g:=g.full 7 0
  obtain ⟨V,z,g,c⟩:=g.append (P:=Tryz.prog) LV (by rw [HF];rfl) (by decide) ((a0.take a.toNat).length) o.1 o.2
  simp only [Nat.zero_add] at g
  replace c:=fun (ys:List AV) B L j=>c ([]) ys B L j EK
  replace c:=fun B L j=>c ((a0.take a.toNat).map BI) B L j EK (by simp +decide only [go_sem,Nat.reduceAdd])
  try simp only [List.mem_singleton,List.mem_cons,List.not_mem_nil,or_false,forall_eq_or_imp,forall_eq,List.map_append,List.map_cons,List.map_nil,Fp,FA,FH,FB,FC,E1,D6,DY,Fj,CO,CH,D7,D3,D5] at c
  have hs:=And.intro c hs
  refine rg [0,3,5,6] hs ?_
  obtain ⟨p,h⟩:=Ac h
  obtain ⟨Q,C,g,f⟩:=g.append (P:=Tryz.prog) LV (by rw [HF];rfl) (by decide) 1 p.1 p.2
  replace f:=fun (ys:List AV) B L j=>f ((a0.take a.toNat).map BI) ys B L j EK
  replace f:=fun (y:AV) B L j=>f [y] B L j EK (by simp +decide only [go_sem,Nat.reduceAdd])
  try simp only [List.mem_singleton,List.mem_cons,List.not_mem_nil,or_false,forall_eq_or_imp,forall_eq,List.map_append,List.map_cons,List.map_nil,Fp,FA,FH,FB,FC,E1,D6,DY,Fj,CO,CH,D7,D3,D5] at f
  have hs:=And.intro f hs
  refine rg [0,5,6] hs ?_
  obtain ⟨K,h⟩:=Ac h
  obtain ⟨l,h⟩:=Ac h
  obtain ⟨U,D,g,d⟩:=g.append (P:=Tryz.prog) LV (by rw [HF];rfl) (by decide) ((a0.drop a.toNat).length) l.1 l.2
  replace d:=fun (ys:List AV) B L j=>d (((a0.take a.toNat)++([a1])).map BI) ys B L j EK
  replace d:=fun B L j=>d ((a0.drop a.toNat).map BI) B L j EK (by simp +decide only [go_sem,Nat.reduceAdd])
  try simp only [List.mem_singleton,List.mem_cons,List.not_mem_nil,or_false,forall_eq_or_imp,forall_eq,List.map_append,List.map_cons,List.map_nil,Fp,FA,FH,FB,FC,E1,D6,DY,Fj,CO,CH,D7,D3,D5] at d
  have hs:=And.intro d hs
  refine rg [4] hs ?_
  exact rt h hs i g
def Aw (b:Ty):Int :=
 if decide (b.kind=2) then
  0
 else
  if decide (b.kind=3) then
   b.scale
  else
   (-1)
theorem YA (w0:World) (B:List (List AV)) (Rw:List RowA) (L:List LoopA) (a0:Ty) (r:Int) (h:Aw a0=r) :
  ACalls Tryz.prog w0 84 [.agg (a0.cs)] ⟨B,Rw,L⟩ fun x st=>x = .val (.int .i64 r)∧st=⟨B,Rw,L⟩:=by
 rw [Aw] at h
 refine hd [.tmp 2] Tryz.func84 Tryz.ntmps84 fun M0 W0 g f e a i d hs=>?_
 simp only [Am]
 refine rg [1] hs ?_
 apply Aa;intro K2 c
 refine rg [1,5] hs ?_
 refine Av h hs (fun hs h=>?_) (fun hs h=>?_)
 ·refine rg [2] hs ?_
  exact rT h hs a d
 refine sk [1] hs c ?_
 clear c
 apply Aa;intro K6 b
 refine rg [1,8] hs ?_
 refine Av h hs (fun hs h=>?_) (fun hs h=>?_)
 ·refine rg [2] hs ?_
  exact rT h hs a d
 refine sk [] hs b ?_
 clear b
 refine rg [2] hs ?_
 exact rT h hs a d
theorem B9 (w0:World) (B:List (List AV)) (Rw:List RowA) (L:List LoopA) (a0:Ty) :
  ACalls Tryz.prog w0 84 [.agg (a0.cs)] ⟨B,Rw,L⟩ fun x st=>x = .val (.int .i64 (Aw a0))∧st=⟨B,Rw,L⟩:=YA w0 B Rw L a0 _ rfl
def O1 (rec:Ty→Ty→Vl→Option (Vl × Bool)) (n:Nat) (b:Ty) (g:Vl) (b3_k38_4:List Vl):Option (Vl × Bool) :=
 some ((Vl.mk 8 0 0 ((⟨#[]⟩:ByteArray)) b3_k38_4 ([]),AU (g.list.length:Int) b))
def Q6 (rec:Ty→Ty→Vl→Option (Vl × Bool)) (n:Nat)  : Option (Vl × Bool) :=
 some ((Vl.mk 0 0 0 ((⟨#[]⟩:ByteArray)) ([]) ([]),false))
def Hi (rec:Ty→Ty→Vl→Option (Vl × Bool)) (n:Nat) (g:Int→(List (ByteArray × Vl))→Option (Vl × Bool)) (b:Int) (b3_k94_5:List (ByteArray × Vl)):Option (Vl × Bool) :=
 if BR (b+1) then
  g (b+1) b3_k94_5
 else none
def OX (rec:Ty→Ty→Vl→Option (Vl × Bool)) (n:Nat)  (b3_k86_5:List (ByteArray × Vl)):Option (Vl × Bool) :=
 some ((Vl.mk 9 0 0 ((⟨#[]⟩:ByteArray)) ([]) b3_k86_5,true))
def I8 (rec:Ty→Ty→Vl→Option (Vl × Bool)) (n:Nat) (a0:Ty) (a1:Ty) (h:Vl):Nat→Int→(List Vl)→Option (Vl × Bool)
 | 0,_,_=>none
 | m+1,b,b3_l41_4 =>
  if decide (b<(h.list.length:Int)) then
   (Cb a0.elem 0).bind fun s =>
   (Cb a1.elem 0).bind fun y =>
   (Cb h.list b).bind fun q =>
   (rec s y q).bind fun g =>
   if !g.2 then
    some ((Vl.mk 0 0 0 ((⟨#[]⟩:ByteArray)) ([]) ([]),false))
   else
    if (b3_l41_4.length+1)*88≤140737488355328∧b3_l41_4.length+1≤4611686018427387904 then
     if BR (b+1) then
      (I8 rec n a0 a1 h m) (b+1) (b3_l41_4++([g.1]))
     else none
    else none
  else
   O1 rec n a1 h b3_l41_4
def Jb (rec:Ty→Ty→Vl→Option (Vl × Bool)) (n:Nat) (s:Ty) (a1:Ty) (a2:Vl):Nat→Int→Option (Vl × Bool)
 | 0,_=>none
 | m+1,b =>
  if decide (b<(s.fields.length:Int)) then
   (Cb s.fields b).bind fun g =>
   (E2 n a1 g.1).bind fun h =>
   if (!(Dz g.2.1 a2.text))||(!h.2) then
    if BR (b+1) then
     (Jb rec n s a1 a2 m) (b+1)
    else none
   else
    (Cb a2.list 0).bind fun y =>
    (rec g.2.2.2.1 h.1.2.2.2.1 y).bind fun q =>
    some ((Vl.mk 10 0 0 h.1.2.1 ([q.1]) ([]),q.2))
  else
   Q6 rec n 
def Em (rec:Ty→Ty→Vl→Option (Vl × Bool)) (n:Nat) (a0:Ty) (a1:Ty) (a2:Vl):Nat→Int→(List (ByteArray × Vl))→Option (Vl × Bool)
 | 0,_,_=>none
 | m+1,b,b3_l89_5 =>
  if decide (b<(a1.fields.length:Int)) then
   (Cb a1.fields b).bind fun g =>
   (E2 n a0 g.1).bind fun s =>
   (Np n a2 s.1.2.1).bind fun h =>
   if s.2&&h.2 then
    (rec s.1.2.2.2.1 g.2.2.2.1 h.1).bind fun q =>
    if !q.2 then
     some ((Vl.mk 0 0 0 ((⟨#[]⟩:ByteArray)) ([]) ([]),false))
    else
     (GZ n b3_l89_5 ((g.2.1,q.1))).bind fun y110 =>
     Hi rec n (Em rec n a0 a1 a2 m) b y110
   else
    if decide (g.2.2.1=1) then
     some ((Vl.mk 0 0 0 ((⟨#[]⟩:ByteArray)) ([]) ([]),false))
    else
     if decide (g.2.2.1=3) then
      (Cb g.2.2.2.2 0).bind fun x116 =>
      (GZ n b3_l89_5 ((g.2.1,x116))).bind fun y =>
      Hi rec n (Em rec n a0 a1 a2 m) b y
     else
      Hi rec n (Em rec n a0 a1 a2 m) b b3_l89_5
  else
   OX rec n b3_l89_5
def OR (rec:Ty→Ty→Vl→Option (Vl × Bool)) (n:Nat) (g:Ty) (b:Ty) (h:Vl):Option (Vl × Bool) :=
 Em rec n g b h n 0 ([])
def FD (rec:Ty→Ty→Vl→Option (Vl × Bool)) (n:Nat) (q:Ty) (g:Ty) (h:Vl) (b:Bool):Option (Vl × Bool) :=
 if b then
  some ((h,AU h.int g))
 else
  if decide (g.kind=8) then
   I8 rec n q g h n 0 ([])
  else
   if decide (g.kind=10) then
    Jb rec n q g h n 0
   else
    OR rec n q g h 
def S7 (rec:Ty→Ty→Vl→Option (Vl × Bool)) (n:Nat) (h:Ty) (b:Ty) (g:Vl):Option (Vl × Bool) :=
 if (decide (0≤(Aw h)))&&(decide (0≤(Aw b))) then
  if BR ((Aw b)-(Aw h)) then
   (EY n g.int ((Aw b)-(Aw h))).bind fun s =>
   some ((Vl.mk b.kind s.1 (Aw b) ((⟨#[]⟩:ByteArray)) ([]) ([]),s.2&&(AU s.1 b)))
  else none
 else
  if !(decide (h.kind=b.kind)) then
   some ((Vl.mk 0 0 0 ((⟨#[]⟩:ByteArray)) ([]) ([]),false))
  else
   if decide (b.kind=1) then
    some ((g,true))
   else
    if decide (b.kind=4) then
     (J7 n g.text b).bind fun q =>
     some ((g,q))
    else
     if decide (b.kind=5) then
      some ((g,AU (g.text.size:Int) b))
     else
      if decide (b.kind=6) then
       FD rec n h b g true
      else
       FD rec n h b g (decide (b.kind=7))
def Hk:Nat→Ty→Ty→Vl→Option (Vl × Bool)
 | 0,_,_,_=>none
 | n+1,g,b,h=>S7 (Hk n) n g b h
def WJ (w0:World) (F:Ty→Ty→Vl→Option (Vl × Bool)):Prop:=∀ (B:List (List AV)) (Rw:List RowA) (L:List LoopA) (g:Ty) (b:Ty) (h:Vl) (r:Vl × Bool),F g b h=some r→ACalls Tryz.prog w0 33 [.agg (g.cs),.agg (b.cs),.agg (h.cs)] ⟨B,Rw,L⟩ fun x st=>x = .tup [.agg (r.1.cs),.val (.bool r.2)]∧st=⟨B,Rw,L⟩
theorem Z5 (w0:World) (rec:Ty→Ty→Vl→Option (Vl × Bool)) (ih:WJ w0 rec) (n:Nat):WJ w0 (S7 rec n):=by
 intro B Rw L a0 a1 a2 r h
 rw [S7] at h
 refine hd [.cell 6 46,.tmp 7] Tryz.func33 Tryz.ntmps33 fun M0 W0 hN ai aj a hu C hs=>?_
 simp only [Am]
 refine rg [3,4,5,6] hs ?_
 apply Aa;intro K2 bv
 have cf:=And.intro and_self @imp_self
 have hs:=And.intro cf hs
 refine rc 3 [3,4,5,6,33] hs ?_;intro K3 bu
 refine Ab _ (B9 w0 _ _ _ a0) (hv hs) ?_
 refine nc hs ?_
 refine DI _ (fun _=>B9 w0 _ _ _ a1) (hv hs) ?_
 refine ne hs bu ?_
 clear bu
 refine Av h hs (fun hs h=>?_) (fun hs h=>?_)
 ·have o:=hs.1
  obtain ⟨c1,h⟩:=Ac h
  obtain ⟨y7,cu,h⟩:=bind_some h
  apply Aa;intro K5 bq
  refine dk 13 4 1 [4,6,8,9] hs Gm ?_
  refine Ab _ (B9 w0 _ _ _ a1) (hv hs) ?_
  refine nc hs ?_
  refine Ab _ (B9 w0 _ _ _ a0) (hv hs) ?_
  refine nc hs ?_
  refine Ab _ (NT w0 n _ _ _ a2.int ((Aw a1)-(Aw a0)) _ cu) (hv hs) ?_
  refine dn hs bq ?_
  clear bq
  apply Aa;intro K8 b4
  apply GI Gm [12] [6,7] kr (fun s=>∃ (X:List (List AV)) (rows:List RowA) (c3:List AV),s=⟨B++([a0.cs,a1.cs,a2.cs,c3]++X),rows,L⟩) 2 (B.length+4)
  ·simp +decide only [go_sem,Nat.reduceAdd]
  ·rintro s ⟨X,rows,c3,rfl⟩
   refine ⟨3,?_⟩
   rw [Ae];simp +decide only [go_sem,Nat.reduceAdd,DV,and_self,imp_self,o]
   (repeat' apply And.intro)<;>first | refine Ab _ (B9 w0 _ _ _ a1) (hv hs) ?_ | exact cl
   rw [Ae];simp +decide only [go_sem,Nat.reduceAdd,and_self,imp_self,o]
   (repeat' apply And.intro)<;>first | refine DI _ (fun _=>E4 w0 _ _ _ y7.1 a1) (hv hs) ?_ | exact cl
   rw [Ae];simp +decide only [go_sem,Nat.reduceAdd,and_self,imp_self,o]
   (repeat' apply And.intro)<;>first | rfl | exact cl
  ·refine Good.mk [12] kr ⟨[],_,_,by first | rfl | simp only [List.append_nil,List.nil_append]⟩ ?_ ?_
   ·intro h;exact absurd h (by decide)
   ·intro i hi;simp only [List.mem_cons,List.not_mem_nil,or_false] at hi
    subst hi
    ·apply BF rfl rfl ev
     ·simp +decide only [go_sem,Nat.reduceAdd,DK,o]
      (repeat' apply And.intro)<;>first | rfl | exact cl
     ·simp +decide only [go_sem,Nat.reduceAdd,o]
      refine Good.mk [] kr ⟨[],_,_,by first | rfl | simp only [List.append_nil,List.nil_append]⟩ ?_ ?_
      ·intro _;apply B2 [6,7];first | (simp +decide only [go_sem,Nat.reduceAdd,and_self,imp_self,o];done) | (simp +decide only [go_sem,Nat.reduceAdd,and_self,imp_self,o];rfl)
      ·intro i hi;cases hi
  simp +decide only [go_sem,Nat.reduceAdd,and_self,imp_self,o]
  (repeat' apply And.intro)<;>first | refine b4 _ _ ?_ | exact cl
  clear b4
  exact rt h hs a C
 have o:=hs.1
 refine sk [3,4,5,6] hs bv ?_
 clear bv
 apply Aa;intro K9 b7
 refine rg [3,4,5,6,61] hs ?_
 refine Av h hs (fun hs h=>?_) (fun hs h=>?_)
 ·have k:=hs.1
  refine rg [6,7] hs ?_
  exact rt h hs a C
 have k:=hs.1
 refine sk [3,4,5,6] hs b7 ?_
 clear b7
 refine Ak (fun e st=>Ck e st B Rw L [(3,true,.box B.length 0),(4,true,.box (B.length+1) 0),(5,true,.box (B.length+2) 0),(6,true,.box (B.length+3) 0)] [a0.cs,a1.cs,a2.cs,[.val (.int .i64 0),.val (.int .i64 0),.val (.int .i64 0),.val (.string ((⟨#[]⟩:ByteArray))),.list ([]) .full,.list ([]) .full]] [] (OR rec n a0 a1 a2  = some r)) ?_ ?_
 ·intro K15 b3
  refine rg [3,4,5,6,64] hs ?_
  apply Ad
  refine rg [3,4,5,6,64,65] hs ?_
  refine Av h hs (fun hs h=>?_) (fun hs h=>?_)
  ·have d:=hs.1
   refine rg [6,7] hs ?_
   exact rt h hs a C
  have d:=hs.1
  refine rg [3,4,5,6,64,68] hs ?_
  refine Av h hs (fun hs h=>?_) (fun hs h=>?_)
  ·have c:=hs.1
   obtain ⟨c0,bp,h⟩:=bind_some h
   apply Aa;intro K22 bf
   refine dk 5 2 1 [6,7] hs Gm ?_
   refine Ab _ (PX w0 n _ _ _ a2.text a1 _ bp) (hv hs) ?_
   refine dn hs bf ?_
   clear bf
   exact rt h hs a C
  have c:=hs.1
  refine rg [3,4,5,6,64,75] hs ?_
  refine Av h hs (fun hs h=>?_) (fun hs h=>?_)
  ·have g:=hs.1
   apply Aa;intro K26 ax
   refine dk 6 2 1 [6,7] hs Gm ?_
   refine Ab _ (E4 w0 _ _ _ (a2.text.size:Int) a1) (hv hs) ?_
   refine dn hs ax ?_
   clear ax
   exact rt h hs a C
  have g:=hs.1
  refine Ak (fun e st=>∃ (ah:Bool),Ck e st B Rw L [(3,true,.box B.length 0),(4,true,.box (B.length+1) 0),(5,true,.box (B.length+2) 0),(6,true,.box (B.length+3) 0),(64,true,.val (.int .i64 a1.kind)),(83,true,.val (.bool ah))] [a0.cs,a1.cs,a2.cs,[.val (.int .i64 0),.val (.int .i64 0),.val (.int .i64 0),.val (.string ((⟨#[]⟩:ByteArray))),.list ([]) .full,.list ([]) .full]] [] (FD rec n a0 a1 a2 ah=some r)) ?_ ?_
  ·intro K29 a3
   refine rg [3,4,5,6,64,83] hs ?_
   refine Av h hs (fun hs h=>?_) (fun hs h=>?_)
   ·refine sk [3,4,5,6,64,83] hs a3 ?_
    exact ⟨true,([]),Rw,ef hs,ef hs,C,h⟩
   refine rl [3,4,5,6,64,83] hs a3 ?_
   exact ⟨(decide (a1.kind=7)),([]),Rw,ef hs,ef hs,C,h⟩
  ·clear h;rintro e st ⟨ah,Xk28,Rk28,rfl,rfl,C,h⟩
   rw [FD] at h
   refine td hN ai aj a C ?_
   refine Av h hs (fun hs h=>?_) (fun hs h=>?_)
   ·have j:=hs.1
    apply Aa;intro K33 be
    refine dk 5 2 1 [6,7] hs Gm ?_
    refine Ab _ (E4 w0 _ _ _ a2.int a1) (hv hs) ?_
    refine dn hs be ?_
    clear be
    exact rt h hs a C
   have j:=hs.1
   refine rg [3,4,5,6,64,91] hs ?_
   refine Av h hs (fun hs h=>?_) (fun hs h=>?_)
   ·have b:=hs.1
    refine rg [3,4,5,6] hs ?_
    refine Ak (fun e st=>∃ (O:List Vl) (ab:Ev.Own),Ck e st B Rw L [(4,true,.box (B.length+1) 0),(5,true,.box (B.length+2) 0),(6,true,.box (B.length+3) 0)] [a0.cs,a1.cs,a2.cs,[.val (.int .i64 8),.val (.int .i64 0),.val (.int .i64 0),.val (.string ((⟨#[]⟩:ByteArray))),.list (O.map A1) ab,.list ([]) .full]] [(6,O.length,ab)] (O1 rec n a1 a2 O=some r)) ?_ ?_
    ·intro K39 bs
     refine rg [3,4,5,6,10] hs ?_
     apply Ad
     refine Ap (fun m e st=>∃ (ae:Int) (q:List Vl) (E:Ev.Own),Ck e st B Rw L [(3,true,.box B.length 0),(4,true,.box (B.length+1) 0),(5,true,.box (B.length+2) 0),(6,true,.box (B.length+3) 0),(10,true,.val (.int .i64 ae))] [a0.cs,a1.cs,a2.cs,[.val (.int .i64 8),.val (.int .i64 0),.val (.int .i64 0),.val (.string ((⟨#[]⟩:ByteArray))),.list (q.map A1) E,.list ([]) .full]] [(6,q.length,E)] (I8 rec n a0 a1 a2 m ae q=some r)) n ⟨0,([]),.full,([]),Rk28,ef hs,ef hs,Owns.of_eq ((C).full 6 0) EK,h⟩ ?_
     rintro ml41 e st ⟨ae,q,E,Xl41,Rl41,rfl,rfl,C,h⟩ Ul41 Vl41
     cases ml41 with
     | zero=>cases h
     | succ ml41 =>
     rw [I8] at h
     have hU:=C.unders
     simp only [List.mem_cons,List.not_mem_nil,or_false,forall_eq_or_imp,forall_eq] at hU
     refine td hN ai aj a C ?_
     apply Aa;intro K42 a6
     refine rg [3,4,5,6,10,98] hs ?_
     refine Av h hs (fun hs h=>?_) (fun hs h=>?_)
     rotate_left
     ·have V:=hs.1
      refine sx [4,5,6] hs bs ?_
      exact ⟨q,E,([]),Rl41,ef hs,ef hs,Owns.of_eq (C) EK,h⟩
     have V:=hs.1
     refine sk [3,4,5,6,10] hs a6 ?_
     clear a6
     apply Aa;intro K45 ay
     apply Ad
     apply Aa;intro K46 a4
     obtain ⟨cx,ct,cg,w,h⟩:=ix HK h
     have D:(a0.elem.map HK).getD 0 .junk=_:=w
     obtain ⟨ce,ci,co,z,h⟩:=ix HK h
     have F:(a1.elem.map HK).getD 0 .junk=_:=z
     obtain ⟨cb,cq,cn,G,h⟩:=ix A1 h
     obtain ⟨b5,b8,h⟩:=bind_some h
     apply GI Gm [17,18] [3,4,5,6,10,11,12] kr (fun s=>∃ (X:List (List AV)) (rows:List RowA),s=⟨B++([a0.cs,a1.cs,a2.cs,[.val (.int .i64 8),.val (.int .i64 0),.val (.int .i64 0),.val (.string ((⟨#[]⟩:ByteArray))),.list (q.map A1) E,.list ([]) .full]]++X),rows,L⟩) 3 (B.length+4)
     ·simp +decide only [go_sem,Nat.reduceAdd]
     ·rintro s ⟨X,rows,rfl⟩
      refine ⟨2,?_⟩
      rw [Ae];simp +decide only [go_sem,Nat.reduceAdd,DV,o,k,d,c,g,j,b,V,w,D,z,F,G]
      have hs:=And.intro w hs
      have hs:=And.intro D hs
      have hs:=And.intro z hs
      have hs:=And.intro F hs
      have hs:=And.intro G hs
      (repeat' apply And.intro)<;>first | refine Ab _ (ih _ _ _ cx ce cb _ b8) (hv hs) ?_ | exact cl
      rw [Ae];simp +decide only [go_sem,Nat.reduceAdd,o,k,d,c,g,j,b,V,w,D,z,F,G]
      (repeat' apply And.intro)<;>first | rfl | exact cl
     ·refine Good.mk [17] kr ⟨[],_,by first | rfl | simp only [List.append_nil,List.nil_append]⟩ ?_ ?_
      ·intro h;exact absurd h (by decide)
      ·intro i hi;simp only [List.mem_cons,List.not_mem_nil,or_false] at hi
       subst hi
       ·apply BF rfl rfl ev
        ·simp +decide only [go_sem,Nat.reduceAdd,DK,o,k,d,c,g,j,b,V,w,D,z,F,G]
         (repeat' apply And.intro)<;>first | rfl | exact cl
        ·simp +decide only [go_sem,Nat.reduceAdd,o,k,d,c,g,j,b,V,w,D,z,F,G]
         refine Good.mk [18] kr ⟨_,_,by first | rfl | simp only [List.append_nil,List.nil_append]⟩ ?_ ?_
         ·intro h;exact absurd h (by decide)
         ·intro i hi;simp only [List.mem_cons,List.not_mem_nil,or_false] at hi
          subst hi
          ·apply BF rfl rfl ev
           ·simp +decide only [go_sem,Nat.reduceAdd,DK,o,k,d,c,g,j,b,V,w,D,z,F,G]
            (repeat' apply And.intro)<;>first | rfl | exact cl
           ·simp +decide only [go_sem,Nat.reduceAdd,o,k,d,c,g,j,b,V,w,D,z,F,G]
            refine Good.mk [] kr ⟨_,_,by first | rfl | simp only [List.append_nil,List.nil_append]⟩ ?_ ?_
            ·intro _;apply B2 [3,4,5,6,10,11,12];first | (simp +decide only [go_sem,Nat.reduceAdd,o,k,d,c,g,j,b,V,w,D,z,F,G];done) | (simp +decide only [go_sem,Nat.reduceAdd,o,k,d,c,g,j,b,V,w,D,z,F,G];rfl)
            ·intro i hi;cases hi
     simp +decide only [go_sem,Nat.reduceAdd,o,k,d,c,g,j,b,V,w,D,z,F,G]
     (repeat' apply And.intro)<;>first | refine a4 _ _ ?_ | exact cl
     clear a4
     apply Aa;intro K51 a8
     have hs:=And.intro w hs
     have hs:=And.intro D hs
     have hs:=And.intro z hs
     have hs:=And.intro F hs
     have hs:=And.intro G hs
     refine rg [3,4,5,6,10,11,119] hs ?_
     refine Av h hs (fun hs h=>?_) (fun hs h=>?_)
     ·refine rg [6,7] hs ?_
      exact rt h hs a C
     refine sk [3,4,5,6,10,11] hs a8 ?_
     clear a8
     obtain ⟨a9,h⟩:=Ac h
     obtain ⟨cj,aw,C,af⟩:=C.append (P:=Tryz.prog) Rx (by rw [Me];rfl) (by decide) 1 a9.1 a9.2
     replace af:=fun (ys:List AV) B L o2=>af (q.map A1) ys B L o2 EK
     replace af:=fun (y:AV) B L o2=>af [y] B L o2 EK ev
     try simp only [List.mem_singleton,List.mem_cons,List.not_mem_nil,or_false,forall_eq_or_imp,forall_eq,List.map_append,List.map_cons,List.map_nil,Fp,FA,FH,FB,FC,E1,D6,DY,Fj,CO,CH,D7,D3,D5] at af
     have hs:=And.intro af hs
     refine rl [3,4,5,6,10] hs ay ?_
     clear ay
     obtain ⟨cy,h⟩:=Ac h
     refine rl [3,4,5,6,10] hs (fun e s=>Vl41 ml41 e s (Nat.lt_succ_self _)) ?_
     exact ⟨(ae+1),(q++([b5.1])),cj,([b5.1.cs]),aw,ef hs,ef hs,Owns.of_eq (C) EK,h⟩
    ·clear h;rintro e st ⟨O,ab,Xk38,Rk38,rfl,rfl,C,h⟩
     rw [O1] at h
     have hU:=C.unders
     simp only [List.mem_cons,List.not_mem_nil,or_false,forall_eq_or_imp,forall_eq] at hU
     refine td hN ai aj a C ?_
     apply Aa;intro K60 a7
     refine dk 6 2 1 [6,7] hs Gm ?_
     refine Ab _ (E4 w0 _ _ _ (a2.list.length:Int) a1) (hv hs) ?_
     refine dn hs a7 ?_
     clear a7
     exact rt h hs a C
   have b:=hs.1
   refine rg [3,4,5,6,133] hs ?_
   refine Av h hs (fun hs h=>?_) (fun hs h=>?_)
   ·have t:=hs.1
    refine Ak (fun e st=>Ck e st B Rw L [(6,true,.box (B.length+3) 0)] [a0.cs,a1.cs,a2.cs,[.val (.int .i64 0),.val (.int .i64 0),.val (.int .i64 0),.val (.string ((⟨#[]⟩:ByteArray))),.list ([]) .full,.list ([]) .full]] [] (Q6 rec n  = some r)) ?_ ?_
    ·intro K65 b0
     refine rg [3,4,5,6,13] hs ?_
     apply Ad
     refine Ap (fun m e st=>∃ (ad:Int),Ck e st B Rw L [(3,true,.box B.length 0),(4,true,.box (B.length+1) 0),(5,true,.box (B.length+2) 0),(6,true,.box (B.length+3) 0),(13,true,.val (.int .i64 ad))] [a0.cs,a1.cs,a2.cs,[.val (.int .i64 0),.val (.int .i64 0),.val (.int .i64 0),.val (.string ((⟨#[]⟩:ByteArray))),.list ([]) .full,.list ([]) .full]] [] (Jb rec n a0 a1 a2 m ad=some r)) n ⟨0,([]),Rk28,ef hs,ef hs,C,h⟩ ?_
     rintro ml67 e st ⟨ad,Xl67,Rl67,rfl,rfl,C,h⟩ Ul67 Vl67
     cases ml67 with
     | zero=>cases h
     | succ ml67 =>
     rw [Jb] at h
     refine td hN ai aj a C ?_
     apply Aa;intro K68 ba
     refine rg [3,4,5,6,13,139] hs ?_
     refine Av h hs (fun hs h=>?_) (fun hs h=>?_)
     rotate_left
     ·have u:=hs.1
      refine sx [6] hs b0 ?_
      exact ⟨([]),Rl67,ef hs,ef hs,C,h⟩
     have u:=hs.1
     refine sk [3,4,5,6,13] hs ba ?_
     clear ba
     apply Aa;intro K71 bd
     apply Ad
     apply Aa;intro K72 a5
     obtain ⟨b2,cv,cp,l,h⟩:=ix Cd h
     obtain ⟨ag,bw,h⟩:=bind_some h
     apply GI Gm [11,12] [3,4,5,6,13,14,15] kr (fun s=>∃ (X:List (List AV)) (rows:List RowA),s=⟨B++([a0.cs,a1.cs,a2.cs,[.val (.int .i64 0),.val (.int .i64 0),.val (.int .i64 0),.val (.string ((⟨#[]⟩:ByteArray))),.list ([]) .full,.list ([]) .full]]++X),rows,L⟩) 3 (B.length+4)
     ·simp +decide only [go_sem,Nat.reduceAdd]
     ·rintro s ⟨X,rows,rfl⟩
      refine ⟨2,?_⟩
      rw [Ae];simp +decide only [go_sem,Nat.reduceAdd,DV,o,k,d,c,g,j,b,t,u,l]
      have hs:=And.intro l hs
      (repeat' apply And.intro)<;>first | refine Ab _ (ID w0 n _ _ _ a1 b2.1 _ bw) (hv hs) ?_ | exact cl
      rw [Ae];simp +decide only [go_sem,Nat.reduceAdd,o,k,d,c,g,j,b,t,u,l]
      (repeat' apply And.intro)<;>first | rfl | exact cl
     ·refine Good.mk [11] kr ⟨[],_,by first | rfl | simp only [List.append_nil,List.nil_append]⟩ ?_ ?_
      ·intro h;exact absurd h (by decide)
      ·intro i hi;simp only [List.mem_cons,List.not_mem_nil,or_false] at hi
       subst hi
       ·apply BF rfl rfl ev
        ·simp +decide only [go_sem,Nat.reduceAdd,DK,o,k,d,c,g,j,b,t,u,l]
         (repeat' apply And.intro)<;>first | rfl | exact cl
        ·simp +decide only [go_sem,Nat.reduceAdd,o,k,d,c,g,j,b,t,u,l]
         refine Good.mk [12] kr ⟨_,_,by first | rfl | simp only [List.append_nil,List.nil_append]⟩ ?_ ?_
         ·intro h;exact absurd h (by decide)
         ·intro i hi;simp only [List.mem_cons,List.not_mem_nil,or_false] at hi
          subst hi
          ·apply BF rfl rfl ev
           ·simp +decide only [go_sem,Nat.reduceAdd,DK,o,k,d,c,g,j,b,t,u,l]
            (repeat' apply And.intro)<;>first | rfl | exact cl
           ·simp +decide only [go_sem,Nat.reduceAdd,o,k,d,c,g,j,b,t,u,l]
            refine Good.mk [] kr ⟨_,_,by first | rfl | simp only [List.append_nil,List.nil_append]⟩ ?_ ?_
            ·intro _;apply B2 [3,4,5,6,13,14,15];first | (simp +decide only [go_sem,Nat.reduceAdd,o,k,d,c,g,j,b,t,u,l];done) | (simp +decide only [go_sem,Nat.reduceAdd,o,k,d,c,g,j,b,t,u,l];rfl)
            ·intro i hi;cases hi
     simp +decide only [go_sem,Nat.reduceAdd,o,k,d,c,g,j,b,t,u,l]
     (repeat' apply And.intro)<;>first | refine a5 _ _ ?_ | exact cl
     clear a5
     apply Aa;intro K75 bb
     have hs:=And.intro l hs
     refine dg 13 1 1 [3,4,5,6,13,14,165] hs Gm ?_
     refine Av h hs (fun hs h=>?_) (fun hs h=>?_)
     ·have U:=hs.1
      refine sx [3,4,5,6,13] hs bd ?_
      clear bd
      obtain ⟨cz,h⟩:=Ac h
      refine rl [3,4,5,6,13] hs (fun e s=>Vl67 ml67 e s (Nat.lt_succ_self _)) ?_
      exact ⟨(ad+1),([.val (.int .i64 ag.1.1)::(.val (.string ag.1.2.1)::(.val (.int .i64 ag.1.2.2.1)::((ag.1.2.2.2.1.cs)++([.list (ag.1.2.2.2.2.map A1) .none]))))]),Rl67,ef hs,ef hs,C,h⟩
     have U:=hs.1
     refine sk [3,5,6,13,14] hs bb ?_
     clear bb
     apply Aa;intro K79 az
     obtain ⟨ch,cw,ck,x,h⟩:=ix A1 h
     have H:(a2.list.map A1).getD 0 .junk=_:=x
     obtain ⟨c2,br,h⟩:=bind_some h
     apply GI Gm [16,17] [6,14,16,17] kr (fun s=>∃ (X:List (List AV)) (rows:List RowA),s=⟨B++([a0.cs,a1.cs,a2.cs,[.val (.int .i64 0),.val (.int .i64 0),.val (.int .i64 0),.val (.string ((⟨#[]⟩:ByteArray))),.list ([]) .full,.list ([]) .full],.val (.int .i64 ag.1.1)::(.val (.string ag.1.2.1)::(.val (.int .i64 ag.1.2.2.1)::((ag.1.2.2.2.1.cs)++([.list (ag.1.2.2.2.2.map A1) .none]))))]++X),rows,L⟩) 3 (B.length+5)
     ·simp +decide only [go_sem,Nat.reduceAdd]
     ·rintro s ⟨X,rows,rfl⟩
      refine ⟨2,?_⟩
      rw [Ae];simp +decide only [go_sem,Nat.reduceAdd,DV,o,k,d,c,g,j,b,t,u,l,U,x,H]
      have hs:=And.intro x hs
      have hs:=And.intro H hs
      (repeat' apply And.intro)<;>first | refine Ab _ (ih _ _ _ b2.2.2.2.1 ag.1.2.2.2.1 ch _ br) (hv hs) ?_ | exact cl
      rw [Ae];simp +decide only [go_sem,Nat.reduceAdd,o,k,d,c,g,j,b,t,u,l,U,x,H]
      (repeat' apply And.intro)<;>first | rfl | exact cl
     ·refine Good.mk [16] kr ⟨[],_,by first | rfl | simp only [List.append_nil,List.nil_append]⟩ ?_ ?_
      ·intro h;exact absurd h (by decide)
      ·intro i hi;simp only [List.mem_cons,List.not_mem_nil,or_false] at hi
       subst hi
       ·apply BF rfl rfl ev
        ·simp +decide only [go_sem,Nat.reduceAdd,DK,o,k,d,c,g,j,b,t,u,l,U,x,H]
         (repeat' apply And.intro)<;>first | rfl | exact cl
        ·simp +decide only [go_sem,Nat.reduceAdd,o,k,d,c,g,j,b,t,u,l,U,x,H]
         refine Good.mk [17] kr ⟨_,_,by first | rfl | simp only [List.append_nil,List.nil_append]⟩ ?_ ?_
         ·intro h;exact absurd h (by decide)
         ·intro i hi;simp only [List.mem_cons,List.not_mem_nil,or_false] at hi
          subst hi
          ·apply BF rfl rfl ev
           ·simp +decide only [go_sem,Nat.reduceAdd,DK,o,k,d,c,g,j,b,t,u,l,U,x,H]
            (repeat' apply And.intro)<;>first | rfl | exact cl
           ·simp +decide only [go_sem,Nat.reduceAdd,o,k,d,c,g,j,b,t,u,l,U,x,H]
            refine Good.mk [] kr ⟨_,_,by first | rfl | simp only [List.append_nil,List.nil_append]⟩ ?_ ?_
            ·intro _;apply B2 [6,14,16,17];first | (simp +decide only [go_sem,Nat.reduceAdd,o,k,d,c,g,j,b,t,u,l,U,x,H];done) | (simp +decide only [go_sem,Nat.reduceAdd,o,k,d,c,g,j,b,t,u,l,U,x,H];rfl)
            ·intro i hi;cases hi
     simp +decide only [go_sem,Nat.reduceAdd,o,k,d,c,g,j,b,t,u,l,U,x,H]
     (repeat' apply And.intro)<;>first | refine az _ _ ?_ | exact cl
     clear az
     have hs:=And.intro x hs
     have hs:=And.intro H hs
     refine rg [6,7] hs ?_
     exact rt h hs a C
    ·clear h;rintro e st ⟨Xk64,Rk64,rfl,rfl,C,h⟩
     rw [Q6] at h
     refine td hN ai aj a C ?_
     refine rg [6,7] hs ?_
     exact rt h hs a C
   have t:=hs.1
   refine sk [3,4,5,6] hs b3 ?_
   exact ⟨([]),Rk28,ef hs,ef hs,C,h⟩
 ·clear h;rintro e st ⟨Xk14,Rk14,rfl,rfl,C,h⟩
  rw [OR] at h
  refine td hN ai aj a C ?_
  refine rg [3,4,5,6] hs ?_
  refine Ak (fun e st=>∃ (Q:List (ByteArray × Vl)) (Z:AV),Ck e st B Rw L [(6,true,.box (B.length+3) 0)] [a0.cs,a1.cs,a2.cs,[.val (.int .i64 9),.val (.int .i64 0),.val (.int .i64 0),.val (.string ((⟨#[]⟩:ByteArray))),.list ([]) .full,Z]] [] (Z.pub = .list (Q.map BI) .none∧OX rec n Q=some r)) ?_ ?_
  ·intro K87 b1
   refine rg [3,4,5,6,18] hs ?_
   apply Ad
   refine Ap (fun m e st=>∃ (v:Int) (p:List (ByteArray × Vl)) (aa:AV),Ck e st B Rw L [(3,true,.box B.length 0),(4,true,.box (B.length+1) 0),(5,true,.box (B.length+2) 0),(6,true,.box (B.length+3) 0),(18,true,.val (.int .i64 v))] [a0.cs,a1.cs,a2.cs,[.val (.int .i64 9),.val (.int .i64 0),.val (.int .i64 0),.val (.string ((⟨#[]⟩:ByteArray))),.list ([]) .full,aa]] [] (aa.pub = .list (p.map BI) .none∧Em rec n a0 a1 a2 m v p=some r)) n ⟨0,([]),_,([]),Rk14,ef hs,ef hs,C,ef hs,h⟩ ?_
   rintro ml89 e st ⟨v,p,aa,Xl89,Rl89,rfl,rfl,C,ap,h⟩ Ul89 Vl89
   cases ml89 with
   | zero=>cases h
   | succ ml89 =>
   rw [Em] at h
   refine Iq (B.length+3) 5 (by first | rfl | (simp only [HL,Gs,HG,Gx];rfl)) rfl ap ?_;simp +decide only [go_sem,Nat.reduceAdd]
   show Gq _ _ _ _ _ _ _ _ [(3,true,.box B.length 0),(4,true,.box (B.length+1) 0),(5,true,.box (B.length+2) 0),(6,true,.box (B.length+3) 0),(18,true,.val (.int .i64 v))] ⟨B++([a0.cs,a1.cs,a2.cs,[.val (.int .i64 9),.val (.int .i64 0),.val (.int .i64 0),.val (.string ((⟨#[]⟩:ByteArray))),.list ([]) .full,.list (p.map BI) .none]]++Xl89),Rl89,L⟩
   refine td hN ai aj a C ?_
   apply Aa;intro K90 bh
   refine rg [3,4,5,6,18,194] hs ?_
   refine Av h hs (fun hs h=>?_) (fun hs h=>?_)
   rotate_left
   ·refine sx [6] hs b1 ?_
    exact ⟨p,_,([]),Rl89,ef hs,ef hs,C,ef hs,h⟩
   refine sk [3,4,5,6,18] hs bh ?_
   clear bh
   refine Ak (fun e st=>∃ (K:List (ByteArray × Vl)) (Y:AV),Ck e st B Rw L [(3,true,.box B.length 0),(4,true,.box (B.length+1) 0),(5,true,.box (B.length+2) 0),(6,true,.box (B.length+3) 0),(18,true,.val (.int .i64 v))] [a0.cs,a1.cs,a2.cs,[.val (.int .i64 9),.val (.int .i64 0),.val (.int .i64 0),.val (.string ((⟨#[]⟩:ByteArray))),.list ([]) .full,Y]] [] (Y.pub = .list (K.map BI) .none∧Hi rec n (Em rec n a0 a1 a2 ml89) v K=some r)) ?_ ?_
   ·intro K95 aq
    apply Ad
    obtain ⟨J,b6,h⟩:=bind_some h
    obtain ⟨cr,cc,bn⟩:=Ao b6
    have bl:=Aq (f:=Cd) bn
    have hs:=And.intro bl hs
    refine rg [3,4,5,6,18,19] hs ?_
    obtain ⟨N,bx,h⟩:=bind_some h
    refine rc 2 [3,4,5,6,18,19,20,21] hs ?_;intro K98 bg
    refine Ab _ (ID w0 n _ _ _ a0 J.1 _ bx) (hv hs) ?_
    refine ne hs bg ?_
    clear bg
    obtain ⟨am,bj,h⟩:=bind_some h
    refine rc 2 [3,4,5,6,18,19,20,21,22,23] hs ?_;intro K100 ao
    refine Ab _ (YE w0 n _ _ _ a2 N.1.2.1 _ bj) (hv hs) ?_
    refine ne hs ao ?_
    clear ao
    apply Ad
    refine rg [3,4,5,6,18,19,20,22,216] hs ?_
    refine Av h hs (fun hs h=>?_) (fun hs h=>?_)
    ·obtain ⟨bc,bi,h⟩:=bind_some h
     refine rc 2 [3,4,5,6,18,19,24,25] hs ?_;intro K104 au
     refine Ab _ (ih _ _ _ N.1.2.2.2.1 J.2.2.2.1 am.1 _ bi) (hv hs) ?_
     refine ne hs au ?_
     clear au
     apply Aa;intro K106 ar
     refine rg [3,4,5,6,18,19,24,231] hs ?_
     refine Av h hs (fun hs h=>?_) (fun hs h=>?_)
     ·refine rg [6,7] hs ?_
      exact rt h hs a C
     refine sk [3,4,5,6,18,19,24] hs ar ?_
     clear ar
     obtain ⟨bt,bm,h⟩:=bind_some h
     refine rk 2 [3,4,5,6,18] hs ?_
     refine Ab _ (Qh w0 n _ _ _ p ((J.2.1,bc.1)) _ bm) (hv hs) ?_
     refine ne hs aq ?_
     exact ⟨bt,_,([.val (.int .i64 J.1)::(.val (.string J.2.1)::(.val (.int .i64 J.2.2.1)::((J.2.2.2.1.cs)++([.list (J.2.2.2.2.map A1) .none])))),.val (.int .i64 N.1.1)::(.val (.string N.1.2.1)::(.val (.int .i64 N.1.2.2.1)::((N.1.2.2.2.1.cs)++([.list (N.1.2.2.2.2.map A1) .none])))),am.1.cs,bc.1.cs]),Rl89,ef hs,ef hs,C,ef hs,h⟩
    refine rg [3,4,5,6,18,19,241] hs ?_
    refine Av h hs (fun hs h=>?_) (fun hs h=>?_)
    ·refine rg [6,7] hs ?_
     exact rt h hs a C
    refine rg [3,4,5,6,18,19,246] hs ?_
    refine Av h hs (fun hs h=>?_) (fun hs h=>?_)
    ·obtain ⟨bz,b9,ca,ak,h⟩:=ix A1 h
     have av:(J.2.2.2.2.map A1).getD 0 .junk=_:=ak
     obtain ⟨bo,bk,h⟩:=bind_some h
     have hs:=And.intro ak hs
     have hs:=And.intro av hs
     refine dk 11 2 1 [3,4,5,6,18] hs Gm ?_
     refine Ab _ (Qh w0 n _ _ _ p ((J.2.1,bz)) _ bk) (hv hs) ?_
     refine dn hs aq ?_
     exact ⟨bo,_,([.val (.int .i64 J.1)::(.val (.string J.2.1)::(.val (.int .i64 J.2.2.1)::((J.2.2.2.1.cs)++([.list (J.2.2.2.2.map A1) .none])))),.val (.int .i64 N.1.1)::(.val (.string N.1.2.1)::(.val (.int .i64 N.1.2.2.1)::((N.1.2.2.2.1.cs)++([.list (N.1.2.2.2.2.map A1) .none])))),am.1.cs]),Rl89,ef hs,ef hs,C,ef hs,h⟩
    refine sk [3,4,5,6,18] hs aq ?_
    exact ⟨p,_,([.val (.int .i64 J.1)::(.val (.string J.2.1)::(.val (.int .i64 J.2.2.1)::((J.2.2.2.1.cs)++([.list (J.2.2.2.2.map A1) .none])))),.val (.int .i64 N.1.1)::(.val (.string N.1.2.1)::(.val (.int .i64 N.1.2.2.1)::((N.1.2.2.2.1.cs)++([.list (N.1.2.2.2.2.map A1) .none])))),am.1.cs]),Rl89,ef hs,ef hs,C,ef hs,h⟩
   ·clear h;rintro e st ⟨K,Y,Xk94,Rk94,rfl,rfl,C,ap,h⟩
    rw [Hi] at h
    refine Iq (B.length+3) 5 (by first | rfl | (simp only [HL,Gs,HG,Gx];rfl)) rfl ap ?_;simp +decide only [go_sem,Nat.reduceAdd]
    show Gq _ _ _ _ _ _ _ _ [(3,true,.box B.length 0),(4,true,.box (B.length+1) 0),(5,true,.box (B.length+2) 0),(6,true,.box (B.length+3) 0),(18,true,.val (.int .i64 v))] ⟨B++([a0.cs,a1.cs,a2.cs,[.val (.int .i64 9),.val (.int .i64 0),.val (.int .i64 0),.val (.string ((⟨#[]⟩:ByteArray))),.list ([]) .full,.list (K.map BI) .none]]++Xk94),Rk94,L⟩
    refine td hN ai aj a C ?_
    obtain ⟨cd,h⟩:=Ac h
    refine rl [3,4,5,6,18] hs (fun e s=>Vl89 ml89 e s (Nat.lt_succ_self _)) ?_
    exact ⟨(v+1),K,_,([]),Rk94,ef hs,ef hs,C,ef hs,h⟩
  ·clear h;rintro e st ⟨Q,Z,Xk86,Rk86,rfl,rfl,C,ap,h⟩
   rw [OX] at h
   refine Iq (B.length+3) 5 (by first | rfl | (simp only [HL,Gs,HG,Gx];rfl)) rfl ap ?_;simp +decide only [go_sem,Nat.reduceAdd]
   show Gq _ _ _ _ _ _ _ _ [(6,true,.box (B.length+3) 0)] ⟨B++([a0.cs,a1.cs,a2.cs,[.val (.int .i64 9),.val (.int .i64 0),.val (.int .i64 0),.val (.string ((⟨#[]⟩:ByteArray))),.list ([]) .full,.list (Q.map BI) .none]]++Xk86),Rk86,L⟩
   refine td hN ai aj a C ?_
   refine rg [6,7] hs ?_
   exact rt h hs a C
theorem YS (w0:World):∀ n:Nat,WJ w0 (Hk n)
 | 0=>fun _ _ _ _ _ _ _ h=>(nomatch h)
 | n+1=>Z5 w0 (Hk n) (YS w0 n) n
end Go.Proofs.YtgpmlelfkjfbiaaGreatDoor
