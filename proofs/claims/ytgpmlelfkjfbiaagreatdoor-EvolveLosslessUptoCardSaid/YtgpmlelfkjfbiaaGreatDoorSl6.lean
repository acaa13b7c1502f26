/-
  Part 6 of the proof: rules and walks that the claim's last text uses.
-/
import Derived.Lib.ItoaLen
import Derived.Test.YtgpmlelfkjfbiaaGreatDoorSl5
set_option linter.unusedSimpArgs false
set_option linter.unusedVariables false
set_option maxRecDepth 100000
set_option maxHeartbeats 4000000
namespace Go.Proofs.YtgpmlelfkjfbiaaGreatDoor
open Go Go.RowKit Go.Ev
def CO (n:Nat) (q:List (ByteArray × Vl)) (s:ByteArray) (y:(ByteArray × Vl)→ByteArray→Option Int) (b:Int):Option (Int × Bool) :=
 if decide (b<(q.length:Int)) then
  (Ci q b).bind fun h =>
  (y h s).bind fun g =>
  some ((b,decide (g=0)))
 else
  some ((b,false))
def Bd (n:Nat) (q:List (ByteArray × Vl)) (h:ByteArray) (s:(ByteArray × Vl)→ByteArray→Option Int):Nat→Int→Int→Option (Int × Bool)
 | 0,_,_=>none
 | m+1,g,b =>
  if decide (g<b) then
   if B2 (g+b) then
    if 0≤(g+b)∧(g+b)≤18446744073709551615 then
     if 0≤(g+b) then
      if B2 ((g+b) / 2) then
       (Ci q ((g+b) / 2)).bind fun y =>
       (s y h).bind fun y21 =>
       if decide (y21<0) then
        if B2 (((g+b) / 2)+1) then
         (Bd n q h s m) (((g+b) / 2)+1) b
        else none
       else
        (Bd n q h s m) g ((g+b) / 2)
      else none
     else none
    else none
   else none
  else
   CO n q h s g
def C3 (n:Nat) (b:List (ByteArray × Vl)) (g:ByteArray) (h:(ByteArray × Vl)→ByteArray→Option Int):Option (Int × Bool) :=
 Bd n b g h n 0 (b.length:Int)
theorem JM (w0:World) (n:Nat) (B:List (List AV)) (Rw:List RowA) (L:List LoopA) (oa0:VO) (a0:List (ByteArray × Vl)) (hVa0:VP Rw oa0 7 (a0.flatMap fun x=>(Cf x).cells)) (a1:ByteArray) (fa2:FuncId) (ca2:List AV) (a2:(ByteArray × Vl)→ByteArray→Option Int) (ha2:∀ (x0:ByteArray × Vl) (x1:ByteArray) r,a2 x0 x1=some r→∀ B' rows,B <+: B'→Rw <+: rows→ACalls Tryz.prog w0 fa2 ([.agg (.val (.string x0.1)::(x0.2.cs)),.val (.string x1)]++ca2) ⟨B',rows,L⟩ fun v s=>v = .val (.int .i64 r)∧s=⟨B',rows,L⟩) (r:Int × Bool) (h:C3 n a0 a1 a2=some r) :
  ACalls Tryz.prog w0 139 [LP oa0 a0.length,.val (.string a1),.clo fa2 ca2] ⟨B,Rw,L⟩ fun x st=>x = .tup [.val (.int .i64 r.1),.val (.bool r.2)]∧st=⟨B,Rw,L⟩:=by
 rw [C3] at h
 refine hd [.tmp 6,.tmp 7] Tryz.func139 Tryz.ntmps139 fun M0 W0 hN O G i hu c hs=>?_
 simp only [As]
 have g:=Cm (hu (.clo fa2 ca2) (by simp))
 refine rg [0,1,2] hs ?_
 apply Ah;intro K2 F
 have Q:=(hVa0.up c).lenV (by decide:0<7) (JS (f:=Cf) (sz:=7) (fun _=>by simp +decide only [go_sem]) a0) Tryz.prog 44
 simp +decide only [go_sem] at Q
 have hs:=Aa Q hs
 refine rl [0,1,2,8] hs F ?_
 clear F
 refine rg [0,1,2,8,9,10] hs ?_
 refine Au (fun e st=>∃ (d:Int),Ck e st B Rw L [(0,true,LP oa0 a0.length),(1,true,.val (.string a1)),(2,true,.clo fa2 ca2),(8,true,.val (.int .i64 (a0.length:Int))),(9,true,.val (.int .i64 d))] [] [] (CO n a0 a1 a2 d=some r)) ?_ ?_
 ·intro K7 ab
  apply Ak
  refine Az (fun m e st=>∃ (b:Int) (a:Int),Ck e st B Rw L [(0,true,LP oa0 a0.length),(1,true,.val (.string a1)),(2,true,.clo fa2 ca2),(8,true,.val (.int .i64 (a0.length:Int))),(9,true,.val (.int .i64 b)),(10,true,.val (.int .i64 a))] [] [] (Bd n a0 a1 a2 m b a=some r)) n ⟨0,(a0.length:Int),([]),Rw,ef hs,ef hs,c,h⟩ ?_
  rintro ml8 e st ⟨b,a,Xl8,Rl8,rfl,rfl,c,h⟩ Ul8 Vl8
  cases ml8 with
  | zero=>cases h
  | succ ml8 =>
  rw [Bd] at h
  have j:=(hVa0.up c).under;(try simp only [QW] at j)
  refine AX hN O G rfl i c (Jp g c) (Jp g c) ?_
  apply Ah;intro K9 K
  refine rg [0,1,2,8,9,10,17] hs ?_
  refine AK h hs (fun hs h=>?_) (fun hs h=>?_)
  rotate_left
  ·refine sx [0,1,2,8,9] hs ab ?_
   exact ⟨b,([]),Rl8,ef hs,ef hs,c,h⟩
  refine sk [0,1,2,8,9,10] hs K ?_
  clear K
  apply Ak
  obtain ⟨ak,h⟩:=Aj h
  obtain ⟨am,h⟩:=Aj h
  obtain ⟨aj,h⟩:=Aj h
  obtain ⟨ap,h⟩:=Aj h
  refine rg [0,1,2,8,9,10,11] hs ?_
  apply Ah;intro K17 D
  obtain ⟨Z,E,h⟩:=bind_some h
  obtain ⟨aa,ah,l⟩:=Aw E
  obtain ⟨ao,ad,hqx18,af,y⟩:=(hVa0.up c).row (by rw [(JS (f:=Cf) (sz:=7) (fun _=>by simp +decide only [go_sem]) _)];exact Nat.mul_pos (by omega) (by decide))
  subst hqx18
  have C:=Y4 (f:=Cf) (sz:=7) (fun _=>by simp +decide only [go_sem]) l
  have t:=HB (f:=fun x=>(Cf x).cells) 7 (fun _=>by simp +decide only [go_sem]) l
  have q:=JS (f:=Cf) (sz:=7) (fun _=>by simp +decide only [go_sem]) a0
  simp only [HM,HO,HN,HK,HI,Hk,FB,FD,HL,Ec,D7,Fv,Fp,Fj,J2] at C t y q
  obtain ⟨ar,N,h⟩:=bind_some h
  have hs:=Aa C hs
  have hs:=Aa t hs
  have hs:=Aa y hs
  have hs:=Aa q hs
  refine rk 2 [0,1,2,8,9,10,11,31] hs ?_
  refine Gq _ (ha2 Z a1 _ N _ _ px c.pre) (hv hs) ?_
  refine ne hs D ?_
  clear D
  refine AK h hs (fun hs h=>?_) (fun hs h=>?_)
  ·obtain ⟨aq,h⟩:=Aj h
   refine rl [0,1,2,8,9,10] hs (fun e s=>Vl8 ml8 e s (Nat.lt_succ_self _)) ?_
   exact ⟨(((b+a) / 2)+1),a,([]),Rl8,ef hs,ef hs,c,h⟩
  refine rl [0,1,2,8,9,10] hs (fun e s=>Vl8 ml8 e s (Nat.lt_succ_self _)) ?_
  exact ⟨b,((b+a) / 2),([]),Rl8,ef hs,ef hs,c,h⟩
 ·clear h;rintro e st ⟨d,Xk6,Rk6,rfl,rfl,c,h⟩
  rw [CO] at h
  have j:=(hVa0.up c).under;(try simp only [QW] at j)
  refine AX hN O G rfl i c (Jp g c) (Jp g c) ?_
  apply Ah;intro K24 k
  rcases Bool.eq_false_or_eq_true (decide (d<(a0.length:Int))) with hf25 | hf25
  ·replace h:=AY h hf25
   obtain ⟨Y,J,h⟩:=bind_some h
   obtain ⟨ag,ae,z⟩:=Aw J
   obtain ⟨ai,V,hqx26,U,o⟩:=(hVa0.up c).row (by rw [(JS (f:=Cf) (sz:=7) (fun _=>by simp +decide only [go_sem]) _)];exact Nat.mul_pos (by omega) (by decide))
   subst hqx26
   have p:=Y4 (f:=Cf) (sz:=7) (fun _=>by simp +decide only [go_sem]) z
   have w:=HB (f:=fun x=>(Cf x).cells) 7 (fun _=>by simp +decide only [go_sem]) z
   have u:=JS (f:=Cf) (sz:=7) (fun _=>by simp +decide only [go_sem]) a0
   simp only [HM,HO,HN,HK,HI,Hk,FB,FD,HL,Ec,D7,Fv,Fp,Fj,J2] at p w o u
   obtain ⟨au,H,h⟩:=bind_some h
   have hs:=Aa hf25 hs
   have hs:=Aa p hs
   have hs:=Aa w hs
   have hs:=Aa o hs
   have hs:=Aa u hs
   refine rk 2 [6,7] hs ?_
   refine Gq _ (ha2 Y a1 _ H _ _ px c.pre) (hv hs) ?_
   refine ne hs k ?_
   clear k
   exact rt h hs i c
  ·replace h:=AZ h hf25
   have hs:=Aa hf25 hs
   refine rk 2 [6,7] hs ?_
   refine AC ?_
   refine ne hs k ?_
   clear k
   exact rt h hs i c
def DY (rec:Ty→Vl→Option Vl) (n:Nat) (g:Int→(List (ByteArray × Vl))→Option Vl) (b:Int) (b3_k28_5:List (ByteArray × Vl)):Option Vl :=
 if B2 (b+1) then
  g (b+1) b3_k28_5
 else none
def I4 (rec:Ty→Vl→Option Vl) (n:Nat) (b:Vl) (b3_k20_5:List (ByteArray × Vl)):Option Vl :=
 some (Vl.mk b.kind b.int b.scale b.text b.list b3_k20_5)
def BD (rec:Ty→Vl→Option Vl) (n:Nat) (s:Ty) (q:Vl):Nat→Int→(List (ByteArray × Vl))→Option Vl
 | 0,_,_=>none
 | m+1,b,b3_l23_5 =>
  if decide (b<(s.fields.length:Int)) then
   (Ci s.fields b).bind fun g =>
   if (!(decide (g.2.2.1=3)))||(!(decide ((g.2.2.2.2.length:Int)=1))) then
    DY rec n (BD rec n s q m) b b3_l23_5
   else
    (C3 n b3_l23_5 g.2.1 (fun (x0:ByteArray × Vl) (x1:ByteArray)=>some (FQ x0 x1))).bind fun h =>
    if !h.2 then
     (Ci g.2.2.2.2 0).bind fun y =>
     if (0≤h.1∧h.1≤(b3_l23_5.length:Int))∧(b3_l23_5.length+1)*104≤140737488355328∧b3_l23_5.length+1≤4611686018427387904 then
      DY rec n (BD rec n s q m) b (MZ b3_l23_5 h.1 ((g.2.1,y)))
     else none
    else
     DY rec n (BD rec n s q m) b b3_l23_5
  else
   I4 rec n q b3_l23_5
def ID (rec:Ty→Vl→Option Vl) (n:Nat) (h:Ty) (b:Vl):Option Vl :=
 if !(decide (b.kind=h.kind)) then
  some (b)
 else
  (HC n b).bind fun y7 =>
  if !y7 then
   some (b)
  else
   if decide (h.kind=9) then
    (KB n h b (fun (q:Ty) (y:Vl)=>rec q y)).bind fun g =>
    BD rec n h g n 0 g.fields
   else
    (LI n h b (fun (q:Ty) (y:Vl)=>rec q y)).bind fun s =>
    some (s)
def CX:Nat→Ty→Vl→Option Vl
 | 0,_,_=>none
 | n+1,g,b=>ID (CX n) n g b
def KT (w0:World) (F:Ty→Vl→Option Vl):Prop:=∀ (B:List (List AV)) (Rw:List RowA) (L:List LoopA) (g:Ty) (b:Vl) (r:Vl),F g b=some r→ACalls Tryz.prog w0 82 [.agg (g.cs),.agg (b.cs)] ⟨B,Rw,L⟩ fun x st=>x = .agg (r.cs)∧st=⟨B,Rw,L⟩
theorem QK (w0:World) (hT:Lib.Utf8Tabs 0 1 w0) (rec:Ty→Vl→Option Vl) (ih:KT w0 rec) (n:Nat):KT w0 (ID rec n):=by
 intro B Rw L a0 a1 r h
 rw [ID] at h
 refine hd [.cell 4 46] Tryz.func82 Tryz.ntmps82 fun M0 W0 hN Q N o hu p hs=>?_
 simp only [As]
 refine rg [2,3,4] hs ?_
 apply Ah;intro K2 ad
 apply Ah;intro K3 C
 rcases Bool.eq_false_or_eq_true (!(decide (a1.kind=a0.kind))) with hf4 | hf4
 ·replace h:=AY h hf4
  have hs:=Aa hf4 hs
  refine rk 2 [2,3,4,19] hs ?_
  refine AC ?_
  refine ne hs C ?_
  clear C
  refine A7 true ev (ef hs) (fun hb5=>?_) (fun hb5=>by cases hb5)
  refine rg [4] hs ?_
  exact rt h hs o p
 ·replace h:=AZ h hf4
  obtain ⟨y7,aq,h⟩:=bind_some h
  have hs:=Aa hf4 hs
  refine rk 2 [2,3,4,19] hs ?_
  refine Ai _ (PX w0 hT n _ _ _ a1 _ aq) (hv hs) ?_
  refine ne hs C ?_
  clear C
  refine AK h hs (fun hs h=>?_) (fun hs h=>?_)
  ·have Z:=hs.1
   refine rg [4] hs ?_
   exact rt h hs o p
  have Z:=hs.1
  refine sk [2,3,4] hs ad ?_
  clear ad
  apply Ah;intro K10 q
  rcases Bool.eq_false_or_eq_true (decide (a0.kind=9)) with hf11 | hf11
  ·replace h:=AY h hf11
   obtain ⟨g,ah,h⟩:=bind_some h
   have hs:=Aa hf11 hs
   refine rk 2 [2,4,5] hs ?_
   refine BE _ (VS w0 n _ _ _ a0 a1 82 [] (fun (x0:Ty) (x1:Vl)=>rec x0 x1) (fun x0 x1 r hx B' t aa ag=>by exact ih _ _ _ x0 x1 _ hx) _ ah) (hv hs) ?_;rintro _ _ ⟨ap,Rv15,rfl,rfl,y⟩
   have p:=p.callV y
   refine ne hs q ?_
   clear q
   apply Ah;intro K16 D
   refine rg [2,4,5,26] hs ?_
   refine A7 false ev (ef hs) (fun hb18=>by cases hb18) (fun hb18=>?_)
   refine sk [2,4,5] hs D ?_
   clear D
   refine Au (fun e st=>∃ (k:List (ByteArray × Vl)) (l:VO) (Xk20:List (List AV)) (Rk20:List RowA),e=[(4,true,.box (B.length+2) 0),(5,true,.box (B.length+3) 0)]∧st=⟨B++([a0.cs,a1.cs,[.val (.int .i64 0),.val (.int .i64 0),.val (.int .i64 0),.val (.string ((⟨#[]⟩:ByteArray))),.list ([]) .full,.list ([]) .full],[.val (.int .i64 g.kind),.val (.int .i64 g.int),.val (.int .i64 g.scale),.val (.string g.text),.list (g.list.map Bq) .none,LP l k.length]]++Xk20),Rk20,L⟩∧Owns Rw Rk20 [] .none [(l,7,k.flatMap fun x=>(Cf x).cells)]∧I4 rec n g k=some r) ?_ ?_
   ·intro K21 Y
    refine rg [4,5,29,30,31] hs ?_
    apply Ak
    refine Az (fun m e st=>∃ (d:Int) (a:List (ByteArray × Vl)) (b:VO) (Xl23:List (List AV)) (Rl23:List RowA),e=[(4,true,.box (B.length+2) 0),(5,true,.box (B.length+3) 0),(29,true,.list (a0.fields.map CJ) .none),(30,true,.val (.int .i64 (a0.fields.length:Int))),(31,true,.val (.int .i64 d))]∧st=⟨B++([a0.cs,a1.cs,[.val (.int .i64 0),.val (.int .i64 0),.val (.int .i64 0),.val (.string ((⟨#[]⟩:ByteArray))),.list ([]) .full,.list ([]) .full],[.val (.int .i64 g.kind),.val (.int .i64 g.int),.val (.int .i64 g.scale),.val (.string g.text),.list (g.list.map Bq) .none,LP b a.length]]++Xl23),Rl23,L⟩∧Owns Rw Rl23 [] .none [(b,7,a.flatMap fun x=>(Cf x).cells)]∧BD rec n a0 g m d a=some r) n ⟨0,g.fields,ap,([]),Rv15,ef hs,ef hs,Owns.eqV (p) fn_,h⟩ ?_
    rintro ml23 e st ⟨d,a,b,Xl23,Rl23,rfl,rfl,p,h⟩ Ul23 Vl23
    cases ml23 with
    | zero=>cases h
    | succ ml23 =>
    rw [BD] at h
    have w:=p.underV
    simp only [List.mem_cons,List.not_mem_nil,or_false,forall_eq_or_imp,forall_eq] at w
    refine AX hN Q N rfl o p ow ow ?_ (vu @Qs)
    refine rg [4,5,29,30,31,32] hs ?_
    apply Ah;intro K25 G
    refine AK h hs (fun hs h=>?_) (fun hs h=>?_)
    rotate_left
    ·refine sx [4,5] hs Y ?_
     exact ⟨a,b,([]),Rl23,ef hs,ef hs,Owns.eqV (p) fn_,h⟩
    refine sk [4,5,29,30,31] hs G ?_
    clear G
    refine Au (fun e st=>∃ (c:List (ByteArray × Vl)) (j:VO) (Xk28:List (List AV)) (Rk28:List RowA),e=[(4,true,.box (B.length+2) 0),(5,true,.box (B.length+3) 0),(29,true,.list (a0.fields.map CJ) .none),(30,true,.val (.int .i64 (a0.fields.length:Int))),(31,true,.val (.int .i64 d))]∧st=⟨B++([a0.cs,a1.cs,[.val (.int .i64 0),.val (.int .i64 0),.val (.int .i64 0),.val (.string ((⟨#[]⟩:ByteArray))),.list ([]) .full,.list ([]) .full],[.val (.int .i64 g.kind),.val (.int .i64 g.int),.val (.int .i64 g.scale),.val (.string g.text),.list (g.list.map Bq) .none,LP j c.length]]++Xk28),Rk28,L⟩∧Owns Rw Rk28 [] .none [(j,7,c.flatMap fun x=>(Cf x).cells)]∧DY rec n (BD rec n a0 g ml23) d c=some r) ?_ ?_
    ·intro K29 v
     apply Ak
     obtain ⟨i,aj,h⟩:=bind_some h
     obtain ⟨ao,am,K⟩:=Aw aj
     have U:=Ax (f:=CJ) K
     have hs:=Aa U hs
     refine rg [4,5,7,29,30,31] hs ?_
     apply Ah;intro K32 F
     refine rg [4,5,7,29,30,31,43] hs ?_
     refine AK h hs (fun hs h=>?_) (fun hs h=>?_)
     ·refine sx [4,5,29,30,31] hs v ?_
      exact ⟨a,b,([.val (.int .i64 i.1)::(.val (.string i.2.1)::(.val (.int .i64 i.2.2.1)::((i.2.2.2.1.cs)++([.list (i.2.2.2.2.map Bq) .none]))))]),Rl23,ef hs,ef hs,Owns.eqV (p) fn_,h⟩
     refine sk [4,5,7,29,30,31] hs F ?_
     clear F
     apply Ah;intro K35 E
     obtain ⟨ab,hy36,h⟩:=bind_some h
     refine YO 0 (by decide) ?_
     refine rk 2 [4,5,7,8,9,29,30,31] hs ?_
     refine ZdN [false,true,true] _ (JM w0 n _ _ _ b a p.vp i.2.1 140 [] (fun (x0:ByteArray × Vl) (x1:ByteArray)=>some (FQ x0 x1)) (fun x0 x1 r hx B' t aa ag=>by cases hx;exact Qq w0 _ _ _ x0 x1) _ hy36) (hv hs) ?_
     refine ne hs E ?_
     clear E
     refine rg [4,5,7,8,29,30,31,53] hs ?_
     refine AK h hs (fun hs h=>?_) (fun hs h=>?_)
     ·obtain ⟨ae,ar,au,u,h⟩:=ix Bq h
      have H:(i.2.2.2.2.map Bq).getD 0 .junk=_:=u
      obtain ⟨V,h⟩:=Aj h
      obtain ⟨af,O,z,p,J⟩:=Zab w0 p ab.1 V ((i.2.1,ae))
      refine YO 0 (by decide) ?_
      have hs:=Aa u hs
      have hs:=Aa H hs
      refine dj 11 1 2 [4,5,29,30,31] hs HD ?_
      refine ZbR [false,true,true] _ (J _ _ _) (hv hs) ?_;rintro _ _ ⟨rfl,rfl⟩
      refine ne hs v ?_
      exact ⟨(MZ a ab.1 ((i.2.1,ae))),((.row af O)),([.val (.int .i64 i.1)::(.val (.string i.2.1)::(.val (.int .i64 i.2.2.1)::((i.2.2.2.1.cs)++([.list (i.2.2.2.2.map Bq) .none]))))]),z,ef hs,ef hs,Owns.eqV (p) fn_,h⟩
     refine sk [4,5,29,30,31] hs v ?_
     exact ⟨a,b,([.val (.int .i64 i.1)::(.val (.string i.2.1)::(.val (.int .i64 i.2.2.1)::((i.2.2.2.1.cs)++([.list (i.2.2.2.2.map Bq) .none]))))]),Rl23,ef hs,ef hs,Owns.eqV (p) fn_,h⟩
    ·clear h;rintro e st ⟨c,j,Xk28,Rk28,rfl,rfl,p,h⟩
     rw [DY] at h
     have w:=p.underV
     simp only [List.mem_cons,List.not_mem_nil,or_false,forall_eq_or_imp,forall_eq] at w
     refine AX hN Q N rfl o p ow ow ?_ (vu @Qs)
     obtain ⟨aw,h⟩:=Aj h
     refine rl [4,5,29,30,31] hs (fun e s=>Vl23 ml23 e s (Nat.lt_succ_self _)) ?_
     exact ⟨(d+1),c,j,([]),Rk28,ef hs,ef hs,Owns.eqV (p) fn_,h⟩
   ·clear h;rintro e st ⟨k,l,Xk20,Rk20,rfl,rfl,p,h⟩
    rw [I4] at h
    have w:=p.underV
    simp only [List.mem_cons,List.not_mem_nil,or_false,forall_eq_or_imp,forall_eq] at w
    refine AX hN Q N rfl o p ow ow ?_ (vu @Qs)
    refine rg [4] hs ?_
    refine YA (B.length+2) 5 (by first | rfl | (simp only [Kw,IG];rfl) | (simp +decide only [go_sem,Nat.reduceAdd,hf4,Z,hf11])) (by first | rfl | (simp only [Zf4,List.length_set];rfl)) p true (.inl rfl) (by decide) ((JS (f:=Cf) (sz:=7) (fun _=>by simp +decide only [go_sem]) _)) (Zfz (f:=Cf) 7 (fun _=>rfl) (fun _=>by simp +decide only [go_sem]) _) (fun ak p=>?_)
    simp +decide only [go_sem,Nat.reduceAdd,List.set_cons_zero,List.set_cons_succ]
    exact rt h hs o p
  ·replace h:=AZ h hf11
   obtain ⟨ax,ai,h⟩:=bind_some h
   have hs:=Aa hf11 hs
   refine rk 2 [2,4,5] hs ?_
   refine Ai _ (Ym w0 n _ _ _ a0 a1 82 [] (fun (x0:Ty) (x1:Vl)=>rec x0 x1) (fun x0 x1 r hx B' t aa ag=>by exact ih _ _ _ x0 x1 _ hx) _ ai) (hv hs) ?_
   refine ne hs q ?_
   clear q
   apply Ah;intro K49 av
   refine rg [2,4,5,26] hs ?_
   refine A7 true ev (ef hs) (fun hb51=>?_) (fun hb51=>by cases hb51)
   refine rg [4] hs ?_
   exact rt h hs o p
theorem Oc (w0:World) (hT:Lib.Utf8Tabs 0 1 w0):∀ n:Nat,KT w0 (CX n)
 | 0=>fun _ _ _ _ _ _ h=>(nomatch h)
 | n+1=>QK w0 hT (CX n) (Oc w0 hT n) n
end Go.Proofs.YtgpmlelfkjfbiaaGreatDoor
namespace Go.Ev
open Go Go.RowKit
theorem Rj {i j:Nat} (h:i≠j):∀ (B:List (List AV)) (a b:List AV),(B.set i a).set j b=(B.set j b).set i a:=fun B a b=>List.set_comm _ _ h
theorem JO (i:Nat):∀ (B:List (List AV)) (a b:List AV),(B.set i a).set i b=B.set i b:=fun B a b=>List.set_set a
theorem LX {B:List (List AV)} {l:Nat} {cs:List AV} (h:B[l]? = some cs) (i j:Nat):∀ (X:List (List AV)) (a b c:List AV),((B.set i a).set j b++X).set l c=((B.set i a).set j b).set l c++X:=fun X a b c=>List.set_append_left _ _ (by rw [List.length_set,List.length_set];exact (Ag.1 h).1)
theorem X8 {B:List (List AV)} {l j:Nat} {cs:List AV} (h:B[l]? = some cs) (hne:j≠l) :
  (∀ a b X R L o,DI ⟨(B.set l a).set j b++X,R,L⟩ (.box l o)=true)∧(∀ a b R L o,DI ⟨(B.set l a).set j b,R,L⟩ (.box l o)=true)∧(∀ a b X R L o,Br ⟨(B.set l a).set j b++X,R,L⟩ (.box l o)=a)∧(∀ a b R L o,Br ⟨(B.set l a).set j b,R,L⟩ (.box l o)=a) ∧
  (∀ a b X,((B.set l a).set j b++X)[l]? = some a)∧(∀ a b,((B.set l a).set j b)[l]? = some a)∧(∀ a b X,((B.set l a).set j b++X).getD l []=a)∧(∀ a b,((B.set l a).set j b).getD l []=a):=by
 have c:∀ a,(B.set l a)[l]? = some a:=fun a=>List.getElem?_set_self (Ag.1 h).1
 exact ⟨fun a b X R L o=>(C4 (c a) hne).1 X R L o b,fun a b R L o=>(C4 (c a) hne).2.1 R L o b,fun a b X R L o=>(C4 (c a) hne).2.2.1 X R L o b,fun a b R L o=>(C4 (c a) hne).2.2.2.1 R L o b,
  fun a b X=>(C4 (c a) hne).2.2.2.2.1 X b,fun a b=>(C4 (c a) hne).2.2.2.2.2.1 b,fun a b X=>(C4 (c a) hne).2.2.2.2.2.2.1 X b,fun a b=>(C4 (c a) hne).2.2.2.2.2.2.2 b⟩
theorem T0 {B:List (List AV)} {l i:Nat} {cs:List AV} (h:B[l]? = some cs) (hne:i≠l) :
  (∀ a b X R L o,DI ⟨(B.set i a).set l b++X,R,L⟩ (.box l o)=true)∧(∀ a b R L o,DI ⟨(B.set i a).set l b,R,L⟩ (.box l o)=true)∧(∀ a b X R L o,Br ⟨(B.set i a).set l b++X,R,L⟩ (.box l o)=b)∧(∀ a b R L o,Br ⟨(B.set i a).set l b,R,L⟩ (.box l o)=b) ∧
  (∀ a b X,((B.set i a).set l b++X)[l]? = some b)∧(∀ a b,((B.set i a).set l b)[l]? = some b)∧(∀ a b X,((B.set i a).set l b++X).getD l []=b)∧(∀ a b,((B.set i a).set l b).getD l []=b):=by
 have c:∀ a b,((B.set i a).set l b)[l]? = some b:=fun a b=>List.getElem?_set_self (by rw [List.length_set];exact (Ag.1 h).1)
 exact ⟨fun a b X R L o=>(An (c a b)).1 X R L o,fun a b R L o=>(An (c a b)).2.1 R L o,fun a b X R L o=>(An (c a b)).2.2.1 X R L o,fun a b R L o=>(An (c a b)).2.2.2.1 R L o,
  fun a b X=>(An (c a b)).2.2.2.2.1 X,c,fun a b X=>(An (c a b)).2.2.2.2.2.2.1 X,fun a b=>(An (c a b)).2.2.2.2.2.2.2.1⟩
theorem YJ (B:List (List AV)) (i j:Nat) (c d:List AV):((B.set i c).set j d).length=B.length:=by simp only [List.length_set]
@[go_sem] theorem Zjy (B X:List (List AV)) (R:List RowA) (L:List LoopA) (i j k o:Nat) (c d:List AV):DI ⟨(B.set i c).set j d++X,R,L⟩ (.box (B.length+k) o)=decide (k<X.length):=by have h:=Zcu ((B.set i c).set j d) X R L k o;rwa [YJ] at h
@[go_sem] theorem Zir (B X:List (List AV)) (R:List RowA) (L:List LoopA) (i j o:Nat) (c d:List AV):DI ⟨(B.set i c).set j d++X,R,L⟩ (.box B.length o)=decide (0<X.length):=by have h:=ZaE ((B.set i c).set j d) X R L o;rwa [YJ] at h
@[go_sem] theorem Zdr (B X:List (List AV)) (i j k:Nat) (c d:List AV):((B.set i c).set j d++X).getD (B.length+k) []=X.getD k []:=by have h:=WN (B.set i c) X j k d;rwa [List.length_set] at h
@[go_sem] theorem ZbT (B X:List (List AV)) (i j:Nat) (c d:List AV):((B.set i c).set j d++X).getD B.length []=X.getD 0 []:=by have h:=Vz (B.set i c) X j d;rwa [List.length_set] at h
@[go_sem] theorem Zg3 (B X:List (List AV)) (R:List RowA) (L:List LoopA) (i j k o:Nat) (c d:List AV):Br ⟨(B.set i c).set j d++X,R,L⟩ (.box (B.length+k) o)=X.getD k []:=Zdr B X i j k c d
@[go_sem] theorem Zf1 (B X:List (List AV)) (R:List RowA) (L:List LoopA) (i j o:Nat) (c d:List AV):Br ⟨(B.set i c).set j d++X,R,L⟩ (.box B.length o)=X.getD 0 []:=ZbT B X i j c d
@[go_sem] theorem Zl1 (B X:List (List AV)) (i j k:Nat) (c d x:List AV):((B.set i c).set j d++X).set (B.length+k) x=(B.set i c).set j d++X.set k x:=by have h:=ZcW (B.set i c) X j k d x;rwa [List.length_set] at h
@[go_sem] theorem Zko (B X:List (List AV)) (i j:Nat) (c d x:List AV):((B.set i c).set j d++X).set B.length x=(B.set i c).set j d++X.set 0 x:=by have h:=Zcm (B.set i c) X j d x;rwa [List.length_set] at h
@[go_sem] theorem Zlp (B X:List (List AV)) (i j k:Nat) (c d:List AV):((B.set i c).set j d++X)[B.length+k]? = X[k]? := by have h:=KO (B.set i c) X j k d;rwa [List.length_set] at h
@[go_sem] theorem Zj8 (B X:List (List AV)) (i j:Nat) (c d:List AV):((B.set i c).set j d++X)[B.length]? = X[0]? := by have h:=Jh (B.set i c) X j d;rwa [List.length_set] at h
theorem Zgl {P:Program} {w0:World} {n:Nat} {M0:Mem} {W0:World} {ro:Option Nat} {c:Code} {Q:AQ} {e:Env} {B B' X:List (List AV)} {R:List RowA} {L:List LoopA} (h:B'=B) (k:GY P w0 n M0 W0 ro c Q e ⟨B'++X,R,L⟩):GY P w0 n M0 W0 ro c Q e ⟨B++X,R,L⟩:=h▸k
theorem F2 {P:Program} {w0:World} {st:St} {d:Bool} {fv:AV} {args:List AV} {k:AV→St→Prop} (h:k (.val (.bool false)) st):LF P w0 false d fv args st k := .inl ⟨.val (.bool false),fun q=>(nomatch q),h⟩
end Go.Ev
namespace Go.Proofs.YtgpmlelfkjfbiaaGreatDoor
open Go Go.RowKit Go.Ev
def NQ (g:ByteArray × Int) (b:Bool):Option (Bool × Bool) :=
 some ((false,false))
theorem Wa (w0:World) (B:List (List AV)) (Rw:List RowA) (L:List LoopA) (a0:ByteArray × Int) (la1:Nat) (a1:Bool) (hla1:B[la1]? = some ([.val (.bool a1)])) (r:Bool × Bool) (h:NQ a0 a1=some r) :
  ACalls Tryz.prog w0 92 [.agg (.val (.string a0.1)::([.val (.int .i64 a0.2)])),.box la1 0] ⟨B,Rw,L⟩ fun x st=>x = .val (.bool r.1)∧st=⟨(B.set la1 [.val (.bool r.2)]),Rw,L⟩:=by
 rw [NQ] at h
 refine hd [.tmp 3] Tryz.func92 Tryz.ntmps92 fun M0 W0 g d e a f c hs=>?_
 simp only [As]
 have b:=(Ag.1 hla1).1
 have hs:=Aa (An hla1) hs
 refine rg [1] hs ?_
 refine rg [] hs ?_
 refine rg [3] hs ?_
 apply A9;simp +decide only [go_sem,Nat.reduceAdd,An hla1]
 have hgt:=Option.some.inj h;subst hgt
 first | refine DT (Ap a ev) HT c.pre ev ⟨?_,rfl⟩ | refine Fg (Ap a ev) HT c.pre ev ⟨?_,rfl⟩
 first | rfl | (simp +decide only [go_sem,Nat.reduceAdd,An hla1];done) | (simp +decide only [go_sem,Nat.reduceAdd,Vl.cs,Ty.cs,An hla1];done)
def Bn (a0_done:Bool) (x0_ok:Bool) (g:ByteArray) (h:Int):Option (Bool × Bool) :=
 if !a0_done then
  (NQ ((g,h)) x0_ok).bind fun b =>
  if !b.1 then
   some ((true,b.2))
  else
   some ((a0_done,b.2))
 else
  some ((a0_done,x0_ok))
theorem Cd (w0:World) (B:List (List AV)) (Rw:List RowA) (L:List LoopA) (lx0_ok:Nat) (la0:Nat) (a0_done:Bool) (hla0:B[la0]? = some ([.clo 92 [.box lx0_ok 0],.val (.bool a0_done)])) (x0_ok:Bool) (hlx0_ok:B[lx0_ok]? = some ([.val (.bool x0_ok)])) (hne_lx0_ok_la0:lx0_ok≠la0) (a1:ByteArray) (a2:Int) (r:Bool × Bool) (h:Bn a0_done x0_ok a1 a2=some r) :
  ACalls Tryz.prog w0 155 [.box la0 0,.val (.string a1),.val (.int .i64 a2)] ⟨B,Rw,L⟩ fun x st=>x = .tup []∧st=⟨((B.set la0 ([.clo 92 [.box lx0_ok 0],.val (.bool r.1)])).set lx0_ok [.val (.bool r.2)]),Rw,L⟩:=by
 rw [Bn] at h
 refine hd [] Tryz.func155 Tryz.ntmps155 fun M0 W0 m j k a l f hs=>?_
 simp only [As]
 have g:=(Ag.1 hla0).1
 have e:=(Ag.1 hlx0_ok).1
 have b:=Aa (An hla0) (Aa (An hlx0_ok) (Aa (C4 hla0 hne_lx0_ok_la0) (Aa (C4 hlx0_ok (Ne.symm hne_lx0_ok_la0)) (Aa (Rj hne_lx0_ok_la0) (Aa (LR hla0 lx0_ok) (Aa (LR hlx0_ok la0) (Aa (LX hla0 la0 lx0_ok) (Aa (LX hlx0_ok la0 lx0_ok) (Aa (JO lx0_ok) (Aa (JO la0) (Aa (X8 hla0 hne_lx0_ok_la0) (T0 hlx0_ok (Ne.symm hne_lx0_ok_la0)))))))))))))
 apply Ah;intro K1 d
 rcases Bool.eq_false_or_eq_true (!a0_done) with hf2 | hf2
 ·replace h:=AY h hf2
  obtain ⟨n,i,h⟩:=bind_some h
  have hs:=Aa b hs
  have hs:=Aa hf2 hs
  refine rk 2 [0,21] hs ?_
  refine BE _ (Wa w0 _ _ _ ((a1,a2)) lx0_ok x0_ok (ef hs) _ i) (hv hs) ?_;rintro _ _ ⟨rfl,rfl⟩
  refine ne hs d ?_
  clear d
  refine AK h hs (fun hs h=>?_) (fun hs h=>?_)
  ·have c:=hs.1
   apply Ao 1 []
   rw [Am];simp +decide only [go_sem,Nat.reduceAdd,b,hf2,c]
   (repeat' with_reducible apply Aa)<;>first | exact cl | skip
   have hgt:=Option.some.inj h;subst hgt
   first | refine DT (Ap (Ap a ow) ow) HT f.pre ev ⟨?_,by first | rfl | (simp only [Aq hla0,Aq hlx0_ok];done)⟩ | refine Fg (Ap (Ap a ow) ow) HT f.pre ev ⟨?_,by first | rfl | (simp only [Aq hla0,Aq hlx0_ok];done)⟩
   first | rfl | (simp +decide only [go_sem,Nat.reduceAdd,b,hf2,c];done) | (simp +decide only [go_sem,Nat.reduceAdd,Vl.cs,Ty.cs,b,hf2,c];done)
  have c:=hs.1
  refine D4 (DD [] _) ?_ (Bm _ _)
  apply Bt;simp +decide only [go_sem,Nat.reduceAdd]
  (repeat' with_reducible apply Aa)<;>first | exact cl | skip
  have hgt:=Option.some.inj h;subst hgt
  first | refine DT (Ap a ow) HT f.pre ev ⟨?_,by first | rfl | (simp only [Aq hla0,Aq hlx0_ok];done)⟩ | refine Fg (Ap a ow) HT f.pre ev ⟨?_,by first | rfl | (simp only [Aq hla0,Aq hlx0_ok];done)⟩
  first | rfl | (simp +decide only [go_sem,Nat.reduceAdd,b,hf2,c];done) | (simp +decide only [go_sem,Nat.reduceAdd,Vl.cs,Ty.cs,b,hf2,c];done)
 ·replace h:=AZ h hf2
  have hs:=Aa b hs
  have hs:=Aa hf2 hs
  refine rk 2 [0,21] hs ?_
  refine AC ?_
  refine ne hs d ?_
  clear d
  refine A7 false ev (ef hs) (fun hb5=>by cases hb5) (fun hb5=>?_)
  refine D4 (DD [] _) ?_ (Bm _ _)
  apply Bt;simp +decide only [go_sem,Nat.reduceAdd]
  (repeat' with_reducible apply Aa)<;>first | exact cl | skip
  have hgt:=Option.some.inj h;subst hgt
  first | refine DT a rfl f.pre ev ⟨?_,by first | rfl | (simp only [Aq hla0,Aq hlx0_ok];done)⟩ | refine Fg a rfl f.pre ev ⟨?_,by first | rfl | (simp only [Aq hla0,Aq hlx0_ok];done)⟩
  first | rfl | (simp +decide only [go_sem,Nat.reduceAdd,b,hf2];done) | (simp +decide only [go_sem,Nat.reduceAdd,Vl.cs,Ty.cs,b,hf2];done)
def BH (a0_done:Bool) (x0_ok:Bool) (b:Ty) (q:ByteArray) (g:Int):Option (Bool × Bool) :=
 if (decide (g<b.min))||(decide (b.max<g)) then
  (Bn a0_done x0_ok q 2).bind fun h =>
  some ((h.1,h.2))
 else
  some ((a0_done,x0_ok))
theorem EP (w0:World) (B:List (List AV)) (Rw:List RowA) (L:List LoopA) (lx0_ok:Nat) (la0:Nat) (a0_done:Bool) (hla0:B[la0]? = some ([.clo 92 [.box lx0_ok 0],.val (.bool a0_done)])) (x0_ok:Bool) (hlx0_ok:B[lx0_ok]? = some ([.val (.bool x0_ok)])) (hne_lx0_ok_la0:lx0_ok≠la0) (a1:Ty) (a2:ByteArray) (a3:Int) (r:Bool × Bool) (h:BH a0_done x0_ok a1 a2 a3=some r) :
  ACalls Tryz.prog w0 156 [.box la0 0,.agg (a1.cs),.val (.string a2),.val (.int .i64 a3)] ⟨B,Rw,L⟩ fun x st=>x = .tup []∧st=⟨((B.set la0 ([.clo 92 [.box lx0_ok 0],.val (.bool r.1)])).set lx0_ok [.val (.bool r.2)]),Rw,L⟩:=by
 rw [BH] at h
 refine hd [] Tryz.func156 Tryz.ntmps156 fun M0 W0 m i j a k e hs=>?_
 simp only [As]
 have f:=(Ag.1 hla0).1
 have d:=(Ag.1 hlx0_ok).1
 have b:=Aa (An hla0) (Aa (An hlx0_ok) (Aa (C4 hla0 hne_lx0_ok_la0) (Aa (C4 hlx0_ok (Ne.symm hne_lx0_ok_la0)) (Aa (Rj hne_lx0_ok_la0) (Aa (LR hla0 lx0_ok) (Aa (LR hlx0_ok la0) (Aa (LX hla0 la0 lx0_ok) (Aa (LX hlx0_ok la0 lx0_ok) (Aa (JO lx0_ok) (Aa (JO la0) (Aa (X8 hla0 hne_lx0_ok_la0) (T0 hlx0_ok (Ne.symm hne_lx0_ok_la0)))))))))))))
 have hs:=Aa b hs
 refine rg [0,2,3,5] hs ?_
 refine rg [0,2,17] hs ?_
 refine AK h hs (fun hs h=>?_) (fun hs h=>?_)
 ·have c:=hs.1
  obtain ⟨l,g,h⟩:=bind_some h
  apply Ao 2 []
  rw [Am];simp +decide only [go_sem,Nat.reduceAdd,b,c]
  (repeat' apply Aa)<;>first | (refine BE _ (Cd w0 _ _ _ lx0_ok la0 a0_done (ef hs) x0_ok (ef hs) nq a2 2 _ g) (hv hs) ?_;rintro _ _ ⟨rfl,rfl⟩) | exact cl
  rw [Am];simp +decide only [go_sem,Nat.reduceAdd,b,c]
  (repeat' with_reducible apply Aa)<;>first | exact cl | skip
  have hgt:=Option.some.inj h;subst hgt
  first | refine DT (Ap (Ap a ow) ow) HT e.pre ev ⟨?_,by first | rfl | (simp only [Aq hla0,Aq hlx0_ok];done)⟩ | refine Fg (Ap (Ap a ow) ow) HT e.pre ev ⟨?_,by first | rfl | (simp only [Aq hla0,Aq hlx0_ok];done)⟩
  first | rfl | (simp +decide only [go_sem,Nat.reduceAdd,b,c];done) | (simp +decide only [go_sem,Nat.reduceAdd,Vl.cs,Ty.cs,b,c];done)
 have c:=hs.1
 refine D4 (DD [] _) ?_ (Bm _ _)
 apply Bt;simp +decide only [go_sem,Nat.reduceAdd]
 (repeat' with_reducible apply Aa)<;>first | exact cl | skip
 have hgt:=Option.some.inj h;subst hgt
 first | refine DT a rfl e.pre ev ⟨?_,by first | rfl | (simp only [Aq hla0,Aq hlx0_ok];done)⟩ | refine Fg a rfl e.pre ev ⟨?_,by first | rfl | (simp only [Aq hla0,Aq hlx0_ok];done)⟩
 first | rfl | (simp +decide only [go_sem,Nat.reduceAdd,b,c];done) | (simp +decide only [go_sem,Nat.reduceAdd,Vl.cs,Ty.cs,b,c];done)
def G0 (b:ByteArray) (g:ByteArray):Option ByteArray :=
 if DR b ((⟨#[]⟩:ByteArray)) then
  some (g)
 else
  if b.size+((⟨#[46]⟩:ByteArray)).size≤9223372036854775807 then
   if (b++((⟨#[46]⟩:ByteArray))).size+g.size≤9223372036854775807 then
    some ((b++((⟨#[46]⟩:ByteArray)))++g)
   else none
  else none
theorem NW (w0:World) (B:List (List AV)) (Rw:List RowA) (L:List LoopA) (a0:ByteArray) (a1:ByteArray) (r:ByteArray) (h:G0 a0 a1=some r) :
  ACalls Tryz.prog w0 202 [.val (.string a0),.val (.string a1)] ⟨B,Rw,L⟩ fun x st=>x = .val (.string r)∧st=⟨B,Rw,L⟩:=by
 rw [G0] at h
 refine hd [.tmp 4] Tryz.func202 Tryz.ntmps202 fun M0 W0 l i j a k g hs=>?_
 simp only [As]
 refine rg [0,1] hs ?_
 apply Ah;intro K2 b
 refine rg [0,1,6] hs ?_
 refine AK h hs (fun hs h=>?_) (fun hs h=>?_)
 ·refine rg [4] hs ?_
  exact rt h hs a g
 refine sk [0,1] hs b ?_
 clear b
 obtain ⟨f,h⟩:=Aj h
 have c:=f
 try simp +decide only [go_sem] at c
 obtain ⟨e,h⟩:=Aj h
 have d:=e
 try simp +decide only [go_sem] at d
 refine rg [4] hs ?_
 exact rt h hs a g
def BM (rec:Bool→Bool→Ty→Vl→ByteArray→Option (Bool × Bool)) (n:Nat) (g:Int→Bool→Bool→Option (Bool × Bool)) (b:Int) (pla0_k11_1:Bool) (plx0_ok_k11:Bool):Option (Bool × Bool) :=
 if B2 (b+1) then
  g (b+1) pla0_k11_1 plx0_ok_k11
 else none
def CS (rec:Bool→Bool→Ty→Vl→ByteArray→Option (Bool × Bool)) (n:Nat) (g:Int→Bool→Bool→Option (Bool × Bool)) (b:Int) (pla0_k32_1:Bool) (plx0_ok_k32:Bool):Option (Bool × Bool) :=
 if B2 (b+1) then
  g (b+1) pla0_k32_1 plx0_ok_k32
 else none
def BA (rec:Bool→Bool→Ty→Vl→ByteArray→Option (Bool × Bool)) (n:Nat) (s:Ty) (q:Vl) (a3:ByteArray):Nat→Int→Bool→Bool→Option (Bool × Bool)
 | 0,_,_,_=>none
 | m+1,b,pla0_l27_1,plx0_ok_l27 =>
  if decide (b<(q.fields.length:Int)) then
   (Ci q.fields b).bind fun h =>
   (C5 n s h.1).bind fun y =>
   if !y.2 then
    (G0 a3 h.1).bind fun y40 =>
    (Bn pla0_l27_1 plx0_ok_l27 y40 6).bind fun g =>
    CS rec n (BA rec n s q a3 m) b g.1 g.2
   else
    CS rec n (BA rec n s q a3 m) b pla0_l27_1 plx0_ok_l27
  else
   some ((pla0_l27_1,plx0_ok_l27))
def E1 (rec:Bool→Bool→Ty→Vl→ByteArray→Option (Bool × Bool)) (n:Nat) (b:Ty) (h:Vl) (g:ByteArray) (pla0_k3_1:Bool) (plx0_ok_k3:Bool):Option (Bool × Bool) :=
 BA rec n b h g n 0 pla0_k3_1 plx0_ok_k3
def Bl (rec:Bool→Bool→Ty→Vl→ByteArray→Option (Bool × Bool)) (n:Nat) (h:Ty) (a2:Vl) (q:ByteArray):Nat→Int→Bool→Bool→Option (Bool × Bool)
 | 0,_,_,_=>none
 | m+1,b,pla0_l6_1,plx0_ok_l6 =>
  if decide (b<(h.fields.length:Int)) then
   (Ci h.fields b).bind fun g =>
   (Hr n a2 g.2.1).bind fun s =>
   if s.2 then
    (G0 q g.2.1).bind fun y19 =>
    (rec pla0_l6_1 plx0_ok_l6 g.2.2.2.1 s.1 y19).bind fun y20 =>
    BM rec n (Bl rec n h a2 q m) b y20.1 y20.2
   else
    if !(decide (g.2.2.1=2)) then
     (G0 q g.2.1).bind fun y23 =>
     (Bn pla0_l6_1 plx0_ok_l6 y23 5).bind fun y =>
     BM rec n (Bl rec n h a2 q m) b y.1 y.2
    else
     BM rec n (Bl rec n h a2 q m) b pla0_l6_1 plx0_ok_l6
  else
   E1 rec n h a2 q pla0_l6_1 plx0_ok_l6
def HF (rec:Bool→Bool→Ty→Vl→ByteArray→Option (Bool × Bool)) (n:Nat) (a0_done:Bool) (x0_ok:Bool) (b:Ty) (h:Vl) (g:ByteArray):Option (Bool × Bool) :=
 Bl rec n b h g n 0 a0_done x0_ok
theorem O4 (w0:World) (rec:Bool→Bool→Ty→Vl→ByteArray→Option (Bool × Bool)) (ih:∀ (B:List (List AV)) (Rw:List RowA) (L:List LoopA) (lx0_ok:Nat) (la0:Nat) (a0_done:Bool) (hla0:B[la0]? = some ([.clo 92 [.box lx0_ok 0],.val (.bool a0_done)])) (x0_ok:Bool) (hlx0_ok:B[lx0_ok]? = some ([.val (.bool x0_ok)])) (hne_lx0_ok_la0:lx0_ok≠la0) (a1:Ty) (a2:Vl) (a3:ByteArray) (r:Bool × Bool) (h:rec a0_done x0_ok a1 a2 a3=some r),ACalls Tryz.prog w0 93 [.box la0 0,.agg (a1.cs),.agg (a2.cs),.val (.string a3)] ⟨B,Rw,L⟩ fun x st=>x = .tup []∧st=⟨((B.set la0 ([.clo 92 [.box lx0_ok 0],.val (.bool r.1)])).set lx0_ok [.val (.bool r.2)]),Rw,L⟩) (n:Nat) (B:List (List AV)) (Rw:List RowA) (L:List LoopA) (lx0_ok:Nat) (la0:Nat) (a0_done:Bool) (hla0:B[la0]? = some ([.clo 92 [.box lx0_ok 0],.val (.bool a0_done)])) (x0_ok:Bool) (hlx0_ok:B[lx0_ok]? = some ([.val (.bool x0_ok)])) (hne_lx0_ok_la0:lx0_ok≠la0) (a1:Ty) (a2:Vl) (a3:ByteArray) (r:Bool × Bool) (h:HF rec n a0_done x0_ok a1 a2 a3=some r) :
  ACalls Tryz.prog w0 158 [.box la0 0,.agg (a1.cs),.agg (a2.cs),.val (.string a3)] ⟨B,Rw,L⟩ fun x st=>x = .tup []∧st=⟨((B.set la0 ([.clo 92 [.box lx0_ok 0],.val (.bool r.1)])).set lx0_ok [.val (.bool r.2)]),Rw,L⟩:=by
 rw [HF] at h
 refine hd [] Tryz.func158 Tryz.ntmps158 fun M0 W0 hN N J w hu z hs=>?_
 simp only [As]
 have ax:=(Ag.1 hla0).1
 have ad:=(Ag.1 hlx0_ok).1
 have D:=Aa (An hla0) (Aa (An hlx0_ok) (Aa (C4 hla0 hne_lx0_ok_la0) (Aa (C4 hlx0_ok (Ne.symm hne_lx0_ok_la0)) (Aa (Rj hne_lx0_ok_la0) (Aa (LR hla0 lx0_ok) (Aa (LR hlx0_ok la0) (Aa (LX hla0 la0 lx0_ok) (Aa (LX hlx0_ok la0 lx0_ok) (Aa (JO lx0_ok) (Aa (JO la0) (Aa (X8 hla0 hne_lx0_ok_la0) (T0 hlx0_ok (Ne.symm hne_lx0_ok_la0)))))))))))))
 have hs:=Aa D hs
 refine rg [0,3,5,6] hs ?_
 refine Au (fun e st=>∃ (t:Bool) (o:Bool) (Xk3:List (List AV)) (Rk3:List RowA),e=[(0,true,.box la0 0),(3,true,.val (.string a3)),(5,true,.box B.length 0),(6,true,.box (B.length+1) 0)]∧st=⟨((B.set la0 ([.clo 92 [.box lx0_ok 0],.val (.bool t)])).set lx0_ok ([.val (.bool o)]))++([a1.cs,a2.cs]++Xk3),Rk3,L⟩∧Owns Rw Rk3 []∧E1 rec n a1 a2 a3 t o=some r) ?_ ?_
 ·intro K4 a8
  refine rg [0,3,5,6,17,18,19] hs ?_
  apply Ak
  refine Az (fun m e st=>∃ (v:Int) (b:Bool) (a:Bool) (Xl6:List (List AV)) (Rl6:List RowA),e=[(0,true,.box la0 0),(3,true,.val (.string a3)),(5,true,.box B.length 0),(6,true,.box (B.length+1) 0),(17,true,.list (a1.fields.map CJ) .none),(18,true,.val (.int .i64 (a1.fields.length:Int))),(19,true,.val (.int .i64 v))]∧st=⟨((B.set la0 ([.clo 92 [.box lx0_ok 0],.val (.bool b)])).set lx0_ok ([.val (.bool a)]))++([a1.cs,a2.cs]++Xl6),Rl6,L⟩∧Owns Rw Rl6 []∧Bl rec n a1 a2 a3 m v b a=some r) n ⟨0,a0_done,x0_ok,([]),Rw,ef hs,ef hs,z,h⟩ ?_
  rintro ml6 e st ⟨v,b,a,Xl6,Rl6,rfl,rfl,z,h⟩ Ul6 Vl6
  cases ml6 with
  | zero=>cases h
  | succ ml6 =>
  rw [Bl] at h
  refine AX hN N J HT (Ap (Ap w ow) ow) z ow ow ?_
  refine rg [0,3,5,6,17,18,19,20] hs ?_
  apply Ah;intro K8 aq
  refine AK h hs (fun hs h=>?_) (fun hs h=>?_)
  rotate_left
  ·have F:=hs.1
   refine sx [0,3,5,6] hs a8 ?_
   exact ⟨b,a,([]),Rl6,ef hs,ef hs,z,h⟩
  have F:=hs.1
  refine sk [0,3,5,6,17,18,19] hs aq ?_
  clear aq
  refine Au (fun e st=>∃ (p:Bool) (g:Bool) (Xk11:List (List AV)) (Rk11:List RowA),e=[(0,true,.box la0 0),(3,true,.val (.string a3)),(5,true,.box B.length 0),(6,true,.box (B.length+1) 0),(17,true,.list (a1.fields.map CJ) .none),(18,true,.val (.int .i64 (a1.fields.length:Int))),(19,true,.val (.int .i64 v))]∧st=⟨((B.set la0 ([.clo 92 [.box lx0_ok 0],.val (.bool p)])).set lx0_ok ([.val (.bool g)]))++([a1.cs,a2.cs]++Xk11),Rk11,L⟩∧Owns Rw Rk11 []∧BM rec n (Bl rec n a1 a2 a3 ml6) v p g=some r) ?_ ?_
  ·intro K12 O
   apply Ak
   obtain ⟨j,ap,h⟩:=bind_some h
   obtain ⟨a5,a7,ab⟩:=Aw ap
   have u:=Ax (f:=CJ) ab
   have hs:=Aa u hs
   refine rg [0,3,5,6,9,17,18,19] hs ?_
   obtain ⟨H,af,h⟩:=bind_some h
   refine rc 2 [0,3,5,6,9,10,11,17,18,19] hs ?_;intro K15 Y
   refine Ai _ (Qn w0 n _ _ _ a2 j.2.1 _ af) (hv hs) ?_
   refine ne hs Y ?_
   clear Y
   refine rg [0,3,5,6,9,10,17,18,19,30] hs ?_
   refine AK h hs (fun hs h=>?_) (fun hs h=>?_)
   ·have y:=hs.1
    obtain ⟨az,aw,h⟩:=bind_some h
    obtain ⟨ar,ag,h⟩:=bind_some h
    apply Ju HD [8] [0,3,5,6,17,18,19] kr (fun s=>∃ (X:List (List AV)) (rows:List RowA) (Z:List AV) (E:List AV),s=⟨((B.set la0 Z).set lx0_ok E)++([a1.cs,a2.cs,.val (.int .i64 j.1)::(.val (.string j.2.1)::(.val (.int .i64 j.2.2.1)::((j.2.2.2.1.cs)++([.list (j.2.2.2.2.map Bq) .none])))),H.1.cs]++X),rows,L⟩) 2 (B.length+4)
    ·simp +decide only [go_sem,Nat.reduceAdd]
    ·rintro s ⟨X,rows,Z,E,rfl⟩
     refine ⟨2,?_⟩
     rw [Am];simp +decide only [go_sem,Nat.reduceAdd,EM,D,F,u,y]
     (repeat' apply Aa)<;>first | refine Ai _ (NW w0 _ _ _ a3 j.2.1 _ aw) (hv hs) ?_ | exact cl
     rw [Am];simp +decide only [go_sem,Nat.reduceAdd,D,F,u,y]
     (repeat' apply Aa)<;>first | rfl | exact cl
    ·refine Good.mk [8] kr ⟨[],_,_,_,by first | rfl | simp only [List.append_nil,List.nil_append]⟩ ?_ ?_
     ·intro h;exact absurd h (by decide)
     ·intro i hi;simp only [List.mem_cons,List.not_mem_nil,or_false] at hi
      subst hi
      ·apply DG rfl rfl ev
       ·simp +decide only [go_sem,Nat.reduceAdd,FT,D,F,u,y]
        (repeat' with_reducible apply Aa)<;>first | exact SE (ih _ _ _ lx0_ok la0 b (ef hs) a (ef hs) nq j.2.2.2.1 H.1 az _ ag) (hv hs) | rfl | exact cl
       ·simp +decide only [go_sem,Nat.reduceAdd,D,F,u,y]
        refine Good.mk [] kr ⟨[],_,_,_,by first | rfl | simp only [List.append_nil,List.nil_append]⟩ ?_ ?_
        ·intro _;apply DF [0,3,5,6,17,18,19];first | (simp +decide only [go_sem,Nat.reduceAdd,D,F,u,y];done) | (simp +decide only [go_sem,Nat.reduceAdd,D,F,u,y];rfl)
        ·intro i hi;cases hi
    simp +decide only [go_sem,Nat.reduceAdd,D,F,u,y]
    (repeat' apply Aa)<;>first | refine O _ _ ⟨ar.1,ar.2,([.val (.int .i64 j.1)::(.val (.string j.2.1)::(.val (.int .i64 j.2.2.1)::((j.2.2.2.1.cs)++([.list (j.2.2.2.2.map Bq) .none])))),H.1.cs]),Rl6,ef hs,ef hs,z,h⟩ | exact cl
   have y:=hs.1
   refine rg [0,3,5,6,9,17,18,19,42] hs ?_
   refine AK h hs (fun hs h=>?_) (fun hs h=>?_)
   ·obtain ⟨a4,ak,h⟩:=bind_some h
    obtain ⟨am,ai,h⟩:=bind_some h
    refine rk 3 [0,3,5,6,17,18,19] hs ?_
    refine Ai _ (NW w0 _ _ _ a3 j.2.1 _ ak) (hv hs) ?_
    refine nc hs ?_
    refine BE _ (Cd w0 _ _ _ lx0_ok la0 b (ef hs) a (ef hs) nq a4 5 _ ai) (hv hs) ?_;rintro _ _ ⟨rfl,rfl⟩
    refine ne hs O ?_
    exact ⟨am.1,am.2,([.val (.int .i64 j.1)::(.val (.string j.2.1)::(.val (.int .i64 j.2.2.1)::((j.2.2.2.1.cs)++([.list (j.2.2.2.2.map Bq) .none])))),H.1.cs]),Rl6,ef hs,ef hs,z,h⟩
   refine sk [0,3,5,6,17,18,19] hs O ?_
   exact ⟨b,a,([.val (.int .i64 j.1)::(.val (.string j.2.1)::(.val (.int .i64 j.2.2.1)::((j.2.2.2.1.cs)++([.list (j.2.2.2.2.map Bq) .none])))),H.1.cs]),Rl6,ef hs,ef hs,z,h⟩
  ·clear h;rintro e st ⟨p,g,Xk11,Rk11,rfl,rfl,z,h⟩
   rw [BM] at h
   refine AX hN N J HT (Ap (Ap w ow) ow) z ow ow ?_
   obtain ⟨ba,h⟩:=Aj h
   refine rl [0,3,5,6,17,18,19] hs (fun e s=>Vl6 ml6 e s (Nat.lt_succ_self _)) ?_
   exact ⟨(v+1),p,g,([]),Rk11,ef hs,ef hs,z,h⟩
 ·clear h;rintro e st ⟨t,o,Xk3,Rk3,rfl,rfl,z,h⟩
  rw [E1] at h
  refine AX hN N J HT (Ap (Ap w ow) ow) z ow ow ?_
  refine rg [0,3,5,51,52,53] hs ?_
  apply Ak
  refine Az (fun m e st=>∃ (q:Int) (d:Bool) (c:Bool) (Xl27:List (List AV)) (Rl27:List RowA),e=[(0,true,.box la0 0),(3,true,.val (.string a3)),(5,true,.box B.length 0),(51,true,.list (a2.fields.map Cf) .none),(52,true,.val (.int .i64 (a2.fields.length:Int))),(53,true,.val (.int .i64 q))]∧st=⟨((B.set la0 ([.clo 92 [.box lx0_ok 0],.val (.bool d)])).set lx0_ok ([.val (.bool c)]))++([a1.cs,a2.cs]++Xl27),Rl27,L⟩∧Owns Rw Rl27 []∧BA rec n a1 a2 a3 m q d c=some r) n ⟨0,t,o,([]),Rk3,ef hs,ef hs,z,h⟩ ?_
  rintro ml27 e st ⟨q,d,c,Xl27,Rl27,rfl,rfl,z,h⟩ Ul27 Vl27
  cases ml27 with
  | zero=>cases h
  | succ ml27 =>
  rw [BA] at h
  refine AX hN N J HT (Ap (Ap w ow) ow) z ow ow ?_
  refine rg [0,3,5,51,52,53,54] hs ?_
  apply Ah;intro K29 V
  refine AK h hs (fun hs h=>?_) (fun hs h=>?_)
  rotate_left
  ·have K:=hs.1
   refine D4 (DD [] _) ?_ (Bm _ _)
   apply Lt;simp +decide only [go_sem,Nat.reduceAdd]
   (repeat' with_reducible apply Aa)<;>first | exact cl | skip
   have hgt:=Option.some.inj h;subst hgt
   first | refine DT (Ap (Ap w ow) ow) HT z.pre ev ⟨?_,by first | rfl | (simp only [Aq hla0,Aq hlx0_ok];done)⟩ | refine Fg (Ap (Ap w ow) ow) HT z.pre ev ⟨?_,by first | rfl | (simp only [Aq hla0,Aq hlx0_ok];done)⟩
   first | rfl | (simp +decide only [go_sem,Nat.reduceAdd,D,K];done) | (simp +decide only [go_sem,Nat.reduceAdd,Vl.cs,Ty.cs,D,K];done)
  have K:=hs.1
  refine sk [0,3,5,51,52,53] hs V ?_
  clear V
  refine Au (fun e st=>∃ (l:Bool) (k:Bool) (Xk32:List (List AV)) (Rk32:List RowA),e=[(0,true,.box la0 0),(3,true,.val (.string a3)),(5,true,.box B.length 0),(51,true,.list (a2.fields.map Cf) .none),(52,true,.val (.int .i64 (a2.fields.length:Int))),(53,true,.val (.int .i64 q))]∧st=⟨((B.set la0 ([.clo 92 [.box lx0_ok 0],.val (.bool l)])).set lx0_ok ([.val (.bool k)]))++([a1.cs,a2.cs]++Xk32),Rk32,L⟩∧Owns Rw Rk32 []∧CS rec n (BA rec n a1 a2 a3 ml27) q l k=some r) ?_ ?_
  ·intro K33 U
   apply Ak
   obtain ⟨G,au,h⟩:=bind_some h
   obtain ⟨a0,a6,ae⟩:=Aw au
   have aa:=Ax (f:=Cf) ae
   have hs:=Aa aa hs
   refine rg [0,3,5,13,51,52,53] hs ?_
   obtain ⟨C,ao,h⟩:=bind_some h
   refine rc 2 [0,3,5,13,15,51,52,53] hs ?_;intro K36 Q
   refine Ai _ (FR w0 n _ _ _ a1 G.1 _ ao) (hv hs) ?_
   refine ne hs Q ?_
   clear Q
   refine rg [0,3,5,13,51,52,53,65] hs ?_
   refine AK h hs (fun hs h=>?_) (fun hs h=>?_)
   ·obtain ⟨ay,aj,h⟩:=bind_some h
    obtain ⟨av,ah,h⟩:=bind_some h
    refine rk 3 [0,3,5,51,52,53] hs ?_
    refine Ai _ (NW w0 _ _ _ a3 G.1 _ aj) (hv hs) ?_
    refine nc hs ?_
    refine BE _ (Cd w0 _ _ _ lx0_ok la0 d (ef hs) c (ef hs) nq ay 6 _ ah) (hv hs) ?_;rintro _ _ ⟨rfl,rfl⟩
    refine ne hs U ?_
    exact ⟨av.1,av.2,([.val (.string G.1)::(G.2.cs),.val (.int .i64 C.1.1)::(.val (.string C.1.2.1)::(.val (.int .i64 C.1.2.2.1)::((C.1.2.2.2.1.cs)++([.list (C.1.2.2.2.2.map Bq) .none]))))]),Rl27,ef hs,ef hs,z,h⟩
   refine sk [0,3,5,51,52,53] hs U ?_
   exact ⟨d,c,([.val (.string G.1)::(G.2.cs),.val (.int .i64 C.1.1)::(.val (.string C.1.2.1)::(.val (.int .i64 C.1.2.2.1)::((C.1.2.2.2.1.cs)++([.list (C.1.2.2.2.2.map Bq) .none]))))]),Rl27,ef hs,ef hs,z,h⟩
  ·clear h;rintro e st ⟨l,k,Xk32,Rk32,rfl,rfl,z,h⟩
   rw [CS] at h
   refine AX hN N J HT (Ap (Ap w ow) ow) z ow ow ?_
   obtain ⟨a9,h⟩:=Aj h
   refine rl [0,3,5,51,52,53] hs (fun e s=>Vl27 ml27 e s (Nat.lt_succ_self _)) ?_
   exact ⟨(q+1),l,k,([]),Rk32,ef hs,ef hs,z,h⟩
def CG (rec:Bool→Bool→Ty→Vl→ByteArray→Option (Bool × Bool)) (n:Nat) (g:Int→Bool→Bool→Option (Bool × Bool)) (b:Int) (pla0_k53_1:Bool) (plx0_ok_k53:Bool):Option (Bool × Bool) :=
 if B2 (b+1) then
  g (b+1) pla0_k53_1 plx0_ok_k53
 else none
def BB (rec:Bool→Bool→Ty→Vl→ByteArray→Option (Bool × Bool)) (n:Nat) (s:Ty) (y:Vl) (g:ByteArray):Nat→Int→Bool→Bool→Option (Bool × Bool)
 | 0,_,_,_=>none
 | m+1,b,pla0_l48_1,plx0_ok_l48 =>
  if decide (b<(y.list.length:Int)) then
   (Ci y.list b).bind fun x56 =>
   if g.size+((⟨#[91]⟩:ByteArray)).size≤9223372036854775807 then
    if B2 (b) then
     if (g++((⟨#[91]⟩:ByteArray))).size+((⟨(Lib.itoa b).toArray⟩:ByteArray)).size≤9223372036854775807 then
      if ((g++((⟨#[91]⟩:ByteArray)))++((⟨(Lib.itoa b).toArray⟩:ByteArray))).size+((⟨#[93]⟩:ByteArray)).size≤9223372036854775807 then
       if decide ((s.elem.length:Int)=1) then
        (Ci s.elem 0).bind fun x64 =>
        (rec pla0_l48_1 plx0_ok_l48 x64 x56 (((g++((⟨#[91]⟩:ByteArray)))++((⟨(Lib.itoa b).toArray⟩:ByteArray)))++((⟨#[93]⟩:ByteArray)))).bind fun q =>
        CG rec n (BB rec n s y g m) b q.1 q.2
       else
        (Bn pla0_l48_1 plx0_ok_l48 (((g++((⟨#[91]⟩:ByteArray)))++((⟨(Lib.itoa b).toArray⟩:ByteArray)))++((⟨#[93]⟩:ByteArray))) 1).bind fun h =>
        CG rec n (BB rec n s y g m) b h.1 h.2
      else none
     else none
    else none
   else none
  else
   some ((pla0_l48_1,plx0_ok_l48))
def CL (rec:Bool→Bool→Ty→Vl→ByteArray→Option (Bool × Bool)) (n:Nat) (x0_ok:Bool) (a0_done:Bool) (b:Ty) (h:Vl) (q:ByteArray) (g:Bool):Option (Bool × Bool) :=
 if g then
  if (decide (b.kind=4))&&(decide (0<(b.words.length:Int))) then
   (BG n b.words h.text).bind fun y39 =>
   if !y39 then
    (Bn a0_done x0_ok q 4).bind fun y =>
    some ((y.1,y.2))
   else
    some ((a0_done,x0_ok))
  else
   (BH a0_done x0_ok b q (h.text.size:Int)).bind fun y42 =>
   some ((y42.1,y42.2))
 else
  if decide (b.kind=8) then
   (BH a0_done x0_ok b q (h.list.length:Int)).bind fun s =>
   BB rec n b h q n 0 s.1 s.2
  else
   if decide (b.kind=9) then
    (HF rec n a0_done x0_ok b h q).bind fun y70 =>
    some ((y70.1,y70.2))
   else
    if decide (b.kind=10) then
     (C5 n b h.text).bind fun y74 =>
     if y74.2 then
      (Ci h.list 0).bind fun x77 =>
      if q.size+((⟨#[63]⟩:ByteArray)).size≤9223372036854775807 then
       if (q++((⟨#[63]⟩:ByteArray))).size+h.text.size≤9223372036854775807 then
        (rec a0_done x0_ok y74.1.2.2.2.1 x77 ((q++((⟨#[63]⟩:ByteArray)))++h.text)).bind fun y80 =>
        some ((y80.1,y80.2))
       else none
      else none
     else
      (Bn a0_done x0_ok q 7).bind fun y81 =>
      some ((y81.1,y81.2))
    else
     some ((a0_done,x0_ok))
def BP (rec:Bool→Bool→Ty→Vl→ByteArray→Option (Bool × Bool)) (n:Nat) (x0_ok:Bool) (a0_done:Bool) (g:Ty) (y:Vl) (a3:ByteArray) (b:Bool):Option (Bool × Bool) :=
 if b then
  (BH a0_done x0_ok g a3 y.int).bind fun s =>
  some ((s.1,s.2))
 else
  if decide (g.kind=3) then
   if !(decide (y.scale=g.scale)) then
    (Bn a0_done x0_ok a3 3).bind fun q =>
    some ((q.1,q.2))
   else
    (BH a0_done x0_ok g a3 y.int).bind fun h =>
    some ((h.1,h.2))
  else
   if decide (g.kind=4) then
    CL rec n x0_ok a0_done g y a3 true
   else
    CL rec n x0_ok a0_done g y a3 (decide (g.kind=5))
def GU (rec:Bool→Bool→Ty→Vl→ByteArray→Option (Bool × Bool)) (n:Nat) (a0_done:Bool) (x0_ok:Bool) (b:Ty) (h:Vl) (q:ByteArray):Option (Bool × Bool) :=
 if a0_done then
  some ((a0_done,x0_ok))
 else
  if ((decide (b.kind<1))||(decide (10<b.kind)))||(!(decide (h.kind=b.kind))) then
   (Bn a0_done x0_ok q 1).bind fun y =>
   some ((y.1,y.2))
  else
   (HC n h).bind fun s =>
   if !s then
    (Bn a0_done x0_ok q 8).bind fun g =>
    some ((g.1,g.2))
   else
    if decide (b.kind=2) then
     BP rec n x0_ok a0_done b h q true
    else
     if decide (b.kind=6) then
      BP rec n x0_ok a0_done b h q true
     else
      BP rec n x0_ok a0_done b h q (decide (b.kind=7))
def Cc:Nat→Bool→Bool→Ty→Vl→ByteArray→Option (Bool × Bool)
 | 0,_,_,_,_,_=>none
 | n+1,a0_done,x0_ok,b,h,g=>GU (Cc n) n a0_done x0_ok b h g
def II (w0:World) (F:Bool→Bool→Ty→Vl→ByteArray→Option (Bool × Bool)):Prop:=∀ (B:List (List AV)) (Rw:List RowA) (L:List LoopA) (lx0_ok:Nat) (la0:Nat) (a0_done:Bool) (hla0:B[la0]? = some ([.clo 92 [.box lx0_ok 0],.val (.bool a0_done)])) (x0_ok:Bool) (hlx0_ok:B[lx0_ok]? = some ([.val (.bool x0_ok)])) (hne_lx0_ok_la0:lx0_ok≠la0) (b:Ty) (h:Vl) (g:ByteArray) (r:Bool × Bool),F a0_done x0_ok b h g=some r→ACalls Tryz.prog w0 93 [.box la0 0,.agg (b.cs),.agg (h.cs),.val (.string g)] ⟨B,Rw,L⟩ fun x st=>x = .tup []∧st=⟨((B.set la0 ([.clo 92 [.box lx0_ok 0],.val (.bool r.1)])).set lx0_ok [.val (.bool r.2)]),Rw,L⟩
theorem OV (w0:World) (hP:Pow10 w0) (hT:Lib.Utf8Tabs 0 1 w0) (rec:Bool→Bool→Ty→Vl→ByteArray→Option (Bool × Bool)) (ih:II w0 rec) (n:Nat):II w0 (GU rec n):=by
 intro B Rw L j C t q y a v a1 a2 a3 r h
 rw [GU] at h
 refine hd [] Tryz.func93 Tryz.ntmps93 fun M0 W0 hN am ak g hu G hs=>?_
 simp only [As]
 have b1:=(Ag.1 q).1
 have a5:=(Ag.1 a).1
 have k:=Aa (An q) (Aa (An a) (Aa (C4 q v) (Aa (C4 a (Ne.symm v)) (Aa (Rj v) (Aa (LR q j) (Aa (LR a C) (Aa (LX q C j) (Aa (LX a C j) (Aa (JO j) (Aa (JO C) (Aa (X8 q v) (T0 a (Ne.symm v)))))))))))))
 have hs:=Aa k hs
 refine rg [0,3,5,6] hs ?_
 apply Ah;intro K2 ba
 apply Ak
 refine rg [0,3,5,6,13] hs ?_
 refine AK h hs (fun hs h=>?_) (fun hs h=>?_)
 ·have l:=hs.1
  apply A9;simp +decide only [go_sem,Nat.reduceAdd,k,l]
  have hgt:=Option.some.inj h;subst hgt
  first | refine DT g rfl G.pre ev ⟨?_,by first | rfl | (simp only [Aq q,Aq a];done)⟩ | refine Fg g rfl G.pre ev ⟨?_,by first | rfl | (simp only [Aq q,Aq a];done)⟩
  first | rfl | (simp +decide only [go_sem,Nat.reduceAdd,k,l];done) | (simp +decide only [go_sem,Nat.reduceAdd,Vl.cs,Ty.cs,k,l];done)
 have l:=hs.1
 refine rg [0,3,5,6,18] hs ?_
 refine AK h hs (fun hs h=>?_) (fun hs h=>?_)
 ·have p:=hs.1
  obtain ⟨y8,b5,h⟩:=bind_some h
  refine rc 2 [] hs ?_;intro K7 bv
  refine BE _ (Cd w0 _ _ _ j C t (ef hs) y (ef hs) nq a3 1 _ b5) (hv hs) ?_;rintro _ _ ⟨rfl,rfl⟩
  refine ne hs bv ?_
  clear bv
  apply A9;simp +decide only [go_sem,Nat.reduceAdd,k,l,p]
  have hgt:=Option.some.inj h;subst hgt
  first | refine DT (Ap (Ap g ow) ow) HT G.pre ev ⟨?_,by first | rfl | (simp only [Aq q,Aq a];done)⟩ | refine Fg (Ap (Ap g ow) ow) HT G.pre ev ⟨?_,by first | rfl | (simp only [Aq q,Aq a];done)⟩
  first | rfl | (simp +decide only [go_sem,Nat.reduceAdd,k,l,p];done) | (simp +decide only [go_sem,Nat.reduceAdd,Vl.cs,Ty.cs,k,l,p];done)
 have p:=hs.1
 obtain ⟨ck,br,h⟩:=bind_some h
 refine rc 2 [0,3,5,6,37] hs ?_;intro K9 bq
 refine Ai _ (PX w0 hT n _ _ _ a2 _ br) (hv hs) ?_
 refine ne hs bq ?_
 clear bq
 refine AK h hs (fun hs h=>?_) (fun hs h=>?_)
 ·have b:=hs.1
  obtain ⟨ch,bt,h⟩:=bind_some h
  refine rc 2 [] hs ?_;intro K12 ax
  refine BE _ (Cd w0 _ _ _ j C t (ef hs) y (ef hs) nq a3 8 _ bt) (hv hs) ?_;rintro _ _ ⟨rfl,rfl⟩
  refine ne hs ax ?_
  clear ax
  apply A9;simp +decide only [go_sem,Nat.reduceAdd,k,l,p,b]
  have hgt:=Option.some.inj h;subst hgt
  first | refine DT (Ap (Ap g ow) ow) HT G.pre ev ⟨?_,by first | rfl | (simp only [Aq q,Aq a];done)⟩ | refine Fg (Ap (Ap g ow) ow) HT G.pre ev ⟨?_,by first | rfl | (simp only [Aq q,Aq a];done)⟩
  first | rfl | (simp +decide only [go_sem,Nat.reduceAdd,k,l,p,b];done) | (simp +decide only [go_sem,Nat.reduceAdd,Vl.cs,Ty.cs,k,l,p,b];done)
 have b:=hs.1
 refine sk [0,3,5,6] hs ba ?_
 clear ba
 refine rg [0,3,5,6,45] hs ?_
 apply Ak
 refine Au (fun e st=>∃ (ad:Bool),Ck e st B Rw L [(0,true,.box C 0),(3,true,.val (.string a3)),(5,true,.box B.length 0),(6,true,.box (B.length+1) 0),(45,true,.val (.int .i64 a1.kind)),(46,true,.val (.bool ad))] [a1.cs,a2.cs] [] (BP rec n y t a1 a2 a3 ad=some r)) ?_ ?_
 ·intro K17 ai
  refine rg [0,3,5,6,45,46] hs ?_
  refine AK h hs (fun hs h=>?_) (fun hs h=>?_)
  ·refine sk [0,3,5,6,45,46] hs ai ?_
   exact ⟨true,([]),Rw,ef hs,ef hs,G,h⟩
  refine rg [0,3,5,6,45,46] hs ?_
  refine AK h hs (fun hs h=>?_) (fun hs h=>?_)
  ·refine sk [0,3,5,6,45,46] hs ai ?_
   exact ⟨true,([]),Rw,ef hs,ef hs,G,h⟩
  refine rl [0,3,5,6,45,46] hs ai ?_
  exact ⟨(decide (a1.kind=7)),([]),Rw,ef hs,ef hs,G,h⟩
 ·clear h;rintro e st ⟨ad,Xk16,Rk16,rfl,rfl,G,h⟩
  rw [BP] at h
  refine td hN am ak g G ?_
  refine AK h hs (fun hs h=>?_) (fun hs h=>?_)
  ·have c:=hs.1
   obtain ⟨cd,bi,h⟩:=bind_some h
   apply Ao 2 []
   rw [Am];simp +decide only [go_sem,Nat.reduceAdd,k,l,p,b,c]
   (repeat' apply Aa)<;>first | (refine BE _ (EP w0 _ _ _ j C t (ef hs) y (ef hs) nq a1 a3 a2.int _ bi) (hv hs) ?_;rintro _ _ ⟨rfl,rfl⟩) | exact cl
   rw [Am];simp +decide only [go_sem,Nat.reduceAdd,k,l,p,b,c]
   (repeat' with_reducible apply Aa)<;>first | exact cl | skip
   have hgt:=Option.some.inj h;subst hgt
   first | refine DT (Ap (Ap g ow) ow) HT G.pre ev ⟨?_,by first | rfl | (simp only [Aq q,Aq a];done)⟩ | refine Fg (Ap (Ap g ow) ow) HT G.pre ev ⟨?_,by first | rfl | (simp only [Aq q,Aq a];done)⟩
   first | rfl | (simp +decide only [go_sem,Nat.reduceAdd,k,l,p,b,c];done) | (simp +decide only [go_sem,Nat.reduceAdd,Vl.cs,Ty.cs,k,l,p,b,c];done)
  have c:=hs.1
  refine rg [0,3,5,6,45,56] hs ?_
  refine AK h hs (fun hs h=>?_) (fun hs h=>?_)
  ·have d:=hs.1
   refine rg [0,3,5,6,62] hs ?_
   refine AK h hs (fun hs h=>?_) (fun hs h=>?_)
   ·have aa:=hs.1
    obtain ⟨cc,bl,h⟩:=bind_some h
    apply Ao 2 []
    rw [Am];simp +decide only [go_sem,Nat.reduceAdd,k,l,p,b,c,d,aa]
    (repeat' apply Aa)<;>first | (refine BE _ (Cd w0 _ _ _ j C t (ef hs) y (ef hs) nq a3 3 _ bl) (hv hs) ?_;rintro _ _ ⟨rfl,rfl⟩) | exact cl
    rw [Am];simp +decide only [go_sem,Nat.reduceAdd,k,l,p,b,c,d,aa]
    (repeat' with_reducible apply Aa)<;>first | exact cl | skip
    have hgt:=Option.some.inj h;subst hgt
    first | refine DT (Ap (Ap g ow) ow) HT G.pre ev ⟨?_,by first | rfl | (simp only [Aq q,Aq a];done)⟩ | refine Fg (Ap (Ap g ow) ow) HT G.pre ev ⟨?_,by first | rfl | (simp only [Aq q,Aq a];done)⟩
    first | rfl | (simp +decide only [go_sem,Nat.reduceAdd,k,l,p,b,c,d,aa];done) | (simp +decide only [go_sem,Nat.reduceAdd,Vl.cs,Ty.cs,k,l,p,b,c,d,aa];done)
   have aa:=hs.1
   obtain ⟨cg,bb,h⟩:=bind_some h
   apply Ao 2 []
   rw [Am];simp +decide only [go_sem,Nat.reduceAdd,k,l,p,b,c,d,aa]
   (repeat' apply Aa)<;>first | (refine BE _ (EP w0 _ _ _ j C t (ef hs) y (ef hs) nq a1 a3 a2.int _ bb) (hv hs) ?_;rintro _ _ ⟨rfl,rfl⟩) | exact cl
   rw [Am];simp +decide only [go_sem,Nat.reduceAdd,k,l,p,b,c,d,aa]
   (repeat' with_reducible apply Aa)<;>first | exact cl | skip
   have hgt:=Option.some.inj h;subst hgt
   first | refine DT (Ap (Ap g ow) ow) HT G.pre ev ⟨?_,by first | rfl | (simp only [Aq q,Aq a];done)⟩ | refine Fg (Ap (Ap g ow) ow) HT G.pre ev ⟨?_,by first | rfl | (simp only [Aq q,Aq a];done)⟩
   first | rfl | (simp +decide only [go_sem,Nat.reduceAdd,k,l,p,b,c,d,aa];done) | (simp +decide only [go_sem,Nat.reduceAdd,Vl.cs,Ty.cs,k,l,p,b,c,d,aa];done)
  have d:=hs.1
  refine Au (fun e st=>∃ (ae:Bool),Ck e st B Rw L [(0,true,.box C 0),(3,true,.val (.string a3)),(5,true,.box B.length 0),(6,true,.box (B.length+1) 0),(45,true,.val (.int .i64 a1.kind)),(72,true,.val (.bool ae))] [a1.cs,a2.cs] [] (CL rec n y t a1 a2 a3 ae=some r)) ?_ ?_
  ·intro K32 ar
   refine rg [0,3,5,6,45,72] hs ?_
   refine AK h hs (fun hs h=>?_) (fun hs h=>?_)
   ·refine sk [0,3,5,6,45,72] hs ar ?_
    exact ⟨true,([]),Rk16,ef hs,ef hs,G,h⟩
   refine rl [0,3,5,6,45,72] hs ar ?_
   exact ⟨(decide (a1.kind=5)),([]),Rk16,ef hs,ef hs,G,h⟩
  ·clear h;rintro e st ⟨ae,Xk31,Rk31,rfl,rfl,G,h⟩
   rw [CL] at h
   refine td hN am ak g G ?_
   refine AK h hs (fun hs h=>?_) (fun hs h=>?_)
   ·have o:=hs.1
    refine rg [0,3,5,6,83] hs ?_
    refine AK h hs (fun hs h=>?_) (fun hs h=>?_)
    ·have V:=hs.1
     obtain ⟨cn,bp,h⟩:=bind_some h
     refine rc 2 [0,3,89] hs ?_;intro K38 ao
     refine Ai _ (ER w0 n _ _ _ a1.words a2.text _ bp) (hv hs) ?_
     refine ne hs ao ?_
     clear ao
     refine AK h hs (fun hs h=>?_) (fun hs h=>?_)
     ·have af:=hs.1
      obtain ⟨ce,bh,h⟩:=bind_some h
      apply Ao 2 []
      rw [Am];simp +decide only [go_sem,Nat.reduceAdd,k,l,p,b,c,d,o,V,af]
      (repeat' apply Aa)<;>first | (refine BE _ (Cd w0 _ _ _ j C t (ef hs) y (ef hs) nq a3 4 _ bh) (hv hs) ?_;rintro _ _ ⟨rfl,rfl⟩) | exact cl
      rw [Am];simp +decide only [go_sem,Nat.reduceAdd,k,l,p,b,c,d,o,V,af]
      (repeat' with_reducible apply Aa)<;>first | exact cl | skip
      have hgt:=Option.some.inj h;subst hgt
      first | refine DT (Ap (Ap g ow) ow) HT G.pre ev ⟨?_,by first | rfl | (simp only [Aq q,Aq a];done)⟩ | refine Fg (Ap (Ap g ow) ow) HT G.pre ev ⟨?_,by first | rfl | (simp only [Aq q,Aq a];done)⟩
      first | rfl | (simp +decide only [go_sem,Nat.reduceAdd,k,l,p,b,c,d,o,V,af];done) | (simp +decide only [go_sem,Nat.reduceAdd,Vl.cs,Ty.cs,k,l,p,b,c,d,o,V,af];done)
     have af:=hs.1
     refine D4 (DD [] _) ?_ (Bm _ _)
     apply Bt;simp +decide only [go_sem,Nat.reduceAdd]
     (repeat' with_reducible apply Aa)<;>first | exact cl | skip
     have hgt:=Option.some.inj h;subst hgt
     first | refine DT g rfl G.pre ev ⟨?_,by first | rfl | (simp only [Aq q,Aq a];done)⟩ | refine Fg g rfl G.pre ev ⟨?_,by first | rfl | (simp only [Aq q,Aq a];done)⟩
     first | rfl | (simp +decide only [go_sem,Nat.reduceAdd,k,l,p,b,c,d,o,V,af];done) | (simp +decide only [go_sem,Nat.reduceAdd,Vl.cs,Ty.cs,k,l,p,b,c,d,o,V,af];done)
    have V:=hs.1
    obtain ⟨cj,be,h⟩:=bind_some h
    apply Ao 2 []
    rw [Am];simp +decide only [go_sem,Nat.reduceAdd,k,l,p,b,c,d,o,V]
    (repeat' apply Aa)<;>first | (refine BE _ (EP w0 _ _ _ j C t (ef hs) y (ef hs) nq a1 a3 (a2.text.size:Int) _ be) (hv hs) ?_;rintro _ _ ⟨rfl,rfl⟩) | exact cl
    rw [Am];simp +decide only [go_sem,Nat.reduceAdd,k,l,p,b,c,d,o,V]
    (repeat' with_reducible apply Aa)<;>first | exact cl | skip
    have hgt:=Option.some.inj h;subst hgt
    first | refine DT (Ap (Ap g ow) ow) HT G.pre ev ⟨?_,by first | rfl | (simp only [Aq q,Aq a];done)⟩ | refine Fg (Ap (Ap g ow) ow) HT G.pre ev ⟨?_,by first | rfl | (simp only [Aq q,Aq a];done)⟩
    first | rfl | (simp +decide only [go_sem,Nat.reduceAdd,k,l,p,b,c,d,o,V];done) | (simp +decide only [go_sem,Nat.reduceAdd,Vl.cs,Ty.cs,k,l,p,b,c,d,o,V];done)
   have o:=hs.1
   refine rg [0,3,5,6,45,100] hs ?_
   refine AK h hs (fun hs h=>?_) (fun hs h=>?_)
   ·have u:=hs.1
    obtain ⟨bg,bn,h⟩:=bind_some h
    refine rc 2 [0,3,5,6] hs ?_;intro K45 au
    refine BE _ (EP w0 _ _ _ j C t (ef hs) y (ef hs) nq a1 a3 (a2.list.length:Int) _ bn) (hv hs) ?_;rintro _ _ ⟨rfl,rfl⟩
    refine ne hs au ?_
    clear au
    refine rg [0,3,5,110,111,112] hs ?_
    apply Ak
    refine Az (fun m e st=>∃ (w:Int) (D:Bool) (x:Bool) (Xl48:List (List AV)) (Rl48:List RowA),e=[(0,true,.box C 0),(3,true,.val (.string a3)),(5,true,.box B.length 0),(110,true,.list (a2.list.map Bq) .none),(111,true,.val (.int .i64 (a2.list.length:Int))),(112,true,.val (.int .i64 w))]∧st=⟨((B.set C ([.clo 92 [.box j 0],.val (.bool D)])).set j ([.val (.bool x)]))++([a1.cs,a2.cs]++Xl48),Rl48,L⟩∧Owns Rw Rl48 []∧BB rec n a1 a2 a3 m w D x=some r) n ⟨0,bg.1,bg.2,([]),Rk31,ef hs,ef hs,G,h⟩ ?_
    rintro ml48 e st ⟨w,D,x,Xl48,Rl48,rfl,rfl,G,h⟩ Ul48 Vl48
    cases ml48 with
    | zero=>cases h
    | succ ml48 =>
    rw [BB] at h
    refine AX hN am ak HT (Ap (Ap g ow) ow) G ow ow ?_
    refine rg [0,3,5,110,111,112,113] hs ?_
    apply Ah;intro K50 av
    refine AK h hs (fun hs h=>?_) (fun hs h=>?_)
    rotate_left
    ·have Z:=hs.1
     refine D4 (DD [] _) ?_ (Bm _ _)
     apply Lt;simp +decide only [go_sem,Nat.reduceAdd]
     (repeat' with_reducible apply Aa)<;>first | exact cl | skip
     have hgt:=Option.some.inj h;subst hgt
     first | refine DT (Ap (Ap g ow) ow) HT G.pre ev ⟨?_,by first | rfl | (simp only [Aq q,Aq a];done)⟩ | refine Fg (Ap (Ap g ow) ow) HT G.pre ev ⟨?_,by first | rfl | (simp only [Aq q,Aq a];done)⟩
     first | rfl | (simp +decide only [go_sem,Nat.reduceAdd,k,l,p,b,c,d,o,u,Z];done) | (simp +decide only [go_sem,Nat.reduceAdd,Vl.cs,Ty.cs,k,l,p,b,c,d,o,u,Z];done)
    have Z:=hs.1
    refine sk [0,3,5,110,111,112] hs av ?_
    clear av
    refine Au (fun e st=>∃ (H:Bool) (E:Bool) (Xk53:List (List AV)) (Rk53:List RowA),e=[(0,true,.box C 0),(3,true,.val (.string a3)),(5,true,.box B.length 0),(110,true,.list (a2.list.map Bq) .none),(111,true,.val (.int .i64 (a2.list.length:Int))),(112,true,.val (.int .i64 w))]∧st=⟨((B.set C ([.clo 92 [.box j 0],.val (.bool H)])).set j ([.val (.bool E)]))++([a1.cs,a2.cs]++Xk53),Rk53,L⟩∧Owns Rw Rk53 []∧CG rec n (BB rec n a1 a2 a3 ml48) w H E=some r) ?_ ?_
    ·intro K54 ap
     apply Ak
     obtain ⟨aj,bu,h⟩:=bind_some h
     obtain ⟨b6,b3,az⟩:=Aw bu
     have Y:=Ax (f:=Bq) az
     have hs:=Aa Y hs
     refine rg [0,3,5,8,9,110,111,112] hs ?_
     obtain ⟨bs,h⟩:=Aj h
     have ay:=bs
     try simp +decide only [go_sem] at ay
     obtain ⟨bf,h⟩:=Aj h
     obtain ⟨a9,h⟩:=Aj h
     have a7:=a9
     try simp +decide only [go_sem] at a7
     obtain ⟨bj,h⟩:=Aj h
     have a6:=bj
     try simp +decide only [go_sem] at a6
     refine rc 2 [0,3,5,9,10,110,111,112] hs ?_;intro K57 aq
     refine Ai _ (Zec w0 _ _ _ hP w bf) (hv hs) ?_
     refine ne hs aq ?_
     clear aq
     refine rg [0,3,5,9,10,110,111,112,126] hs ?_
     refine AK h hs (fun hs h=>?_) (fun hs h=>?_)
     ·have ab:=hs.1
      obtain ⟨b7,b2,b8,N,h⟩:=ix HE h
      have U:(a1.elem.map HE).getD 0 .junk=_:=N
      obtain ⟨bc,bd,h⟩:=bind_some h
      apply Ju HD [7] [0,3,5,110,111,112] kr (fun s=>∃ (X:List (List AV)) (rows:List RowA) (ag:List AV) (Q:List AV),s=⟨((B.set C ag).set j Q)++([a1.cs,a2.cs,aj.cs]++X),rows,L⟩) 2 (B.length+3)
      ·simp +decide only [go_sem,Nat.reduceAdd]
      ·rintro s ⟨X,rows,ag,Q,rfl⟩
       refine ⟨1,?_⟩
       rw [Am];simp +decide only [go_sem,Nat.reduceAdd,EM,k,l,p,b,c,d,o,u,Z,Y,ab,N,U]
       (repeat' apply Aa)<;>first | rfl | exact cl
      ·refine Good.mk [7] kr ⟨[],_,_,_,by first | rfl | simp only [List.append_nil,List.nil_append]⟩ ?_ ?_
       ·intro h;exact absurd h (by decide)
       ·intro i hi;simp only [List.mem_cons,List.not_mem_nil,or_false] at hi
        subst hi
        ·apply DG rfl rfl ev
         ·simp +decide only [go_sem,Nat.reduceAdd,FT,k,l,p,b,c,d,o,u,Z,Y,ab,N,U]
          have hs:=Aa N hs
          have hs:=Aa U hs
          (repeat' with_reducible apply Aa)<;>first | exact SE (ih _ _ _ j C D (ef hs) x (ef hs) nq b7 aj (((a3++((⟨#[91]⟩:ByteArray)))++((⟨(Lib.itoa w).toArray⟩:ByteArray)))++((⟨#[93]⟩:ByteArray))) _ bd) (hv hs) | rfl | exact cl
         ·simp +decide only [go_sem,Nat.reduceAdd,k,l,p,b,c,d,o,u,Z,Y,ab,N,U]
          refine Good.mk [] kr ⟨[],_,_,_,by first | rfl | simp only [List.append_nil,List.nil_append]⟩ ?_ ?_
          ·intro _;apply DF [0,3,5,110,111,112];first | (simp +decide only [go_sem,Nat.reduceAdd,k,l,p,b,c,d,o,u,Z,Y,ab,N,U];done) | (simp +decide only [go_sem,Nat.reduceAdd,k,l,p,b,c,d,o,u,Z,Y,ab,N,U];rfl)
          ·intro i hi;cases hi
      simp +decide only [go_sem,Nat.reduceAdd,k,l,p,b,c,d,o,u,Z,Y,ab,N,U]
      have hs:=Aa N hs
      have hs:=Aa U hs
      (repeat' apply Aa)<;>first | refine ap _ _ ⟨bc.1,bc.2,([aj.cs]),Rl48,ef hs,ef hs,G,h⟩ | exact cl
     have ab:=hs.1
     obtain ⟨bz,bo,h⟩:=bind_some h
     refine rk 2 [0,3,5,110,111,112] hs ?_
     refine BE _ (Cd w0 _ _ _ j C D (ef hs) x (ef hs) nq (((a3++((⟨#[91]⟩:ByteArray)))++((⟨(Lib.itoa w).toArray⟩:ByteArray)))++((⟨#[93]⟩:ByteArray))) 1 _ bo) (hv hs) ?_;rintro _ _ ⟨rfl,rfl⟩
     refine ne hs ap ?_
     exact ⟨bz.1,bz.2,([aj.cs]),Rl48,ef hs,ef hs,G,h⟩
    ·clear h;rintro e st ⟨H,E,Xk53,Rk53,rfl,rfl,G,h⟩
     rw [CG] at h
     refine AX hN am ak HT (Ap (Ap g ow) ow) G ow ow ?_
     obtain ⟨cb,h⟩:=Aj h
     refine rl [0,3,5,110,111,112] hs (fun e s=>Vl48 ml48 e s (Nat.lt_succ_self _)) ?_
     exact ⟨(w+1),H,E,([]),Rk53,ef hs,ef hs,G,h⟩
   have u:=hs.1
   refine rg [0,3,5,6,45,139] hs ?_
   refine AK h hs (fun hs h=>?_) (fun hs h=>?_)
   ·have z:=hs.1
    obtain ⟨co,bw,h⟩:=bind_some h
    apply Ao 2 []
    rw [Am];simp +decide only [go_sem,Nat.reduceAdd,k,l,p,b,c,d,o,u,z]
    (repeat' apply Aa)<;>first | (refine BE _ (O4 w0 rec ih n _ _ _ j C t (ef hs) y (ef hs) nq a1 a2 a3 _ bw) (hv hs) ?_;rintro _ _ ⟨rfl,rfl⟩) | exact cl
    rw [Am];simp +decide only [go_sem,Nat.reduceAdd,k,l,p,b,c,d,o,u,z]
    (repeat' with_reducible apply Aa)<;>first | exact cl | skip
    have hgt:=Option.some.inj h;subst hgt
    first | refine DT (Ap (Ap g ow) ow) HT G.pre ev ⟨?_,by first | rfl | (simp only [Aq q,Aq a];done)⟩ | refine Fg (Ap (Ap g ow) ow) HT G.pre ev ⟨?_,by first | rfl | (simp only [Aq q,Aq a];done)⟩
    first | rfl | (simp +decide only [go_sem,Nat.reduceAdd,k,l,p,b,c,d,o,u,z];done) | (simp +decide only [go_sem,Nat.reduceAdd,Vl.cs,Ty.cs,k,l,p,b,c,d,o,u,z];done)
   have z:=hs.1
   refine rg [0,3,5,6,146] hs ?_
   refine AK h hs (fun hs h=>?_) (fun hs h=>?_)
   ·have F:=hs.1
    obtain ⟨ah,bk,h⟩:=bind_some h
    refine rc 2 [0,3,6,11,12] hs ?_;intro K73 aw
    refine Ai _ (FR w0 n _ _ _ a1 a2.text _ bk) (hv hs) ?_
    refine ne hs aw ?_
    clear aw
    refine rg [0,3,6,11,155] hs ?_
    refine AK h hs (fun hs h=>?_) (fun hs h=>?_)
    ·have K:=hs.1
     obtain ⟨b4,b9,ca,J,h⟩:=ix Bq h
     have O:(a2.list.map Bq).getD 0 .junk=_:=J
     obtain ⟨bx,h⟩:=Aj h
     have a4:=bx
     try simp +decide only [go_sem] at a4
     obtain ⟨b0,h⟩:=Aj h
     have a0:=b0
     try simp +decide only [go_sem] at a0
     obtain ⟨ci,bm,h⟩:=bind_some h
     refine Zgl (B':=((B.set C ([.clo 92 [.box j 0],.val (.bool t)])).set j ([.val (.bool y)]))) (by simp only [Aq q,Aq a]) ?_
     apply Ju HD [12] [] kr (fun s=>∃ (X:List (List AV)) (rows:List RowA) (ag:List AV) (Q:List AV),s=⟨((B.set C ag).set j Q)++([a1.cs,a2.cs,.val (.int .i64 ah.1.1)::(.val (.string ah.1.2.1)::(.val (.int .i64 ah.1.2.2.1)::((ah.1.2.2.2.1.cs)++([.list (ah.1.2.2.2.2.map Bq) .none]))))]++X),rows,L⟩) 2 (B.length+3)
     ·simp +decide only [go_sem,Nat.reduceAdd]
     ·rintro s ⟨X,rows,ag,Q,rfl⟩
      refine ⟨1,?_⟩
      rw [Am];simp +decide only [go_sem,Nat.reduceAdd,EM,k,l,p,b,c,d,o,u,z,F,K,J,O]
      (repeat' apply Aa)<;>first | rfl | exact cl
     ·refine Good.mk [12] kr ⟨[],_,_,_,by first | rfl | simp only [List.append_nil,List.nil_append]⟩ ?_ ?_
      ·intro h;exact absurd h (by decide)
      ·intro i hi;simp only [List.mem_cons,List.not_mem_nil,or_false] at hi
       subst hi
       ·apply DG rfl rfl ev
        ·simp +decide only [go_sem,Nat.reduceAdd,FT,k,l,p,b,c,d,o,u,z,F,K,J,O]
         have hs:=Aa J hs
         have hs:=Aa O hs
         (repeat' with_reducible apply Aa)<;>first | exact SE (ih _ _ _ j C t (ef hs) y (ef hs) nq ah.1.2.2.2.1 b4 ((a3++((⟨#[63]⟩:ByteArray)))++a2.text) _ bm) (hv hs) | rfl | exact cl
        ·simp +decide only [go_sem,Nat.reduceAdd,k,l,p,b,c,d,o,u,z,F,K,J,O]
         refine Good.mk [] kr ⟨[],_,_,_,by first | rfl | simp only [List.append_nil,List.nil_append]⟩ ?_ ?_
         ·intro _;apply DF [];first | (simp +decide only [go_sem,Nat.reduceAdd,k,l,p,b,c,d,o,u,z,F,K,J,O];done) | (simp +decide only [go_sem,Nat.reduceAdd,k,l,p,b,c,d,o,u,z,F,K,J,O];rfl)
         ·intro i hi;cases hi
     simp +decide only [go_sem,Nat.reduceAdd,k,l,p,b,c,d,o,u,z,F,K,J,O]
     (repeat' with_reducible apply Aa)<;>first | exact cl | skip
     have hgt:=Option.some.inj h;subst hgt
     first | refine DT (Ap (Ap g ow) ow) HT G.pre ev ⟨?_,by first | rfl | (simp only [Aq q,Aq a];done)⟩ | refine Fg (Ap (Ap g ow) ow) HT G.pre ev ⟨?_,by first | rfl | (simp only [Aq q,Aq a];done)⟩
     first | rfl | (simp +decide only [go_sem,Nat.reduceAdd,k,l,p,b,c,d,o,u,z,F,K,J,O];done) | (simp +decide only [go_sem,Nat.reduceAdd,Vl.cs,Ty.cs,k,l,p,b,c,d,o,u,z,F,K,J,O];done)
    have K:=hs.1
    obtain ⟨cf,a8,h⟩:=bind_some h
    apply Ao 2 []
    rw [Am];simp +decide only [go_sem,Nat.reduceAdd,k,l,p,b,c,d,o,u,z,F,K]
    (repeat' apply Aa)<;>first | (refine BE _ (Cd w0 _ _ _ j C t (ef hs) y (ef hs) nq a3 7 _ a8) (hv hs) ?_;rintro _ _ ⟨rfl,rfl⟩) | exact cl
    rw [Am];simp +decide only [go_sem,Nat.reduceAdd,k,l,p,b,c,d,o,u,z,F,K]
    (repeat' with_reducible apply Aa)<;>first | exact cl | skip
    have hgt:=Option.some.inj h;subst hgt
    first | refine DT (Ap (Ap g ow) ow) HT G.pre ev ⟨?_,by first | rfl | (simp only [Aq q,Aq a];done)⟩ | refine Fg (Ap (Ap g ow) ow) HT G.pre ev ⟨?_,by first | rfl | (simp only [Aq q,Aq a];done)⟩
    first | rfl | (simp +decide only [go_sem,Nat.reduceAdd,k,l,p,b,c,d,o,u,z,F,K];done) | (simp +decide only [go_sem,Nat.reduceAdd,Vl.cs,Ty.cs,k,l,p,b,c,d,o,u,z,F,K];done)
   have F:=hs.1
   refine D4 (DD [] _) ?_ (Bm _ _)
   apply Bt;simp +decide only [go_sem,Nat.reduceAdd]
   (repeat' with_reducible apply Aa)<;>first | exact cl | skip
   have hgt:=Option.some.inj h;subst hgt
   first | refine DT g rfl G.pre ev ⟨?_,by first | rfl | (simp only [Aq q,Aq a];done)⟩ | refine Fg g rfl G.pre ev ⟨?_,by first | rfl | (simp only [Aq q,Aq a];done)⟩
   first | rfl | (simp +decide only [go_sem,Nat.reduceAdd,k,l,p,b,c,d,o,u,z,F];done) | (simp +decide only [go_sem,Nat.reduceAdd,Vl.cs,Ty.cs,k,l,p,b,c,d,o,u,z,F];done)
theorem Ll (w0:World) (hP:Pow10 w0) (hT:Lib.Utf8Tabs 0 1 w0):∀ n:Nat,II w0 (Cc n)
 | 0=>fun _ _ _ _ _ _ _ _ _ _ _ _ _ _ h=>(nomatch h)
 | n+1=>OV w0 hP hT (Cc n) (Ll w0 hP hT n) n
def Ln (n:Nat) (h:Ty) (b:Vl):Option Bool :=
 (Cc n false true h b ((⟨#[]⟩:ByteArray))).bind fun g =>
 some (g.2)
theorem ZA (w0:World) (hP:Pow10 w0) (hT:Lib.Utf8Tabs 0 1 w0) (n:Nat) (B:List (List AV)) (Rw:List RowA) (L:List LoopA) (a0:Ty) (a1:Vl) (r:Bool) (h:Ln n a0 a1=some r) :
  ACalls Tryz.prog w0 39 [.agg (a0.cs),.agg (a1.cs)] ⟨B,Rw,L⟩ fun x st=>x = .val (.bool r)∧st=⟨B,Rw,L⟩:=by
 rw [Ln] at h
 refine hd [.tmp 4] Tryz.func39 Tryz.ntmps39 fun M0 W0 j d f a i e hs=>?_
 simp only [As]
 refine rg [2,3] hs ?_
 refine rg [2,3,5] hs ?_
 refine rg [2,3,5,6] hs ?_
 obtain ⟨g,c,h⟩:=bind_some h
 refine rc 2 [5] hs ?_;intro K4 b
 refine BE _ (Ll w0 hP hT n _ _ _ (B.length+2) (B.length+3) false ev true ev nq a0 a1 ((⟨#[]⟩:ByteArray)) _ c) (hv hs) ?_;rintro _ _ ⟨rfl,rfl⟩
 refine ne hs b ?_
 clear b
 refine rg [4] hs ?_
 exact rt h hs a e
def FN (n:Nat) (g:Ty) (q:Vl):Option (Vl × Int) :=
 (CX n g q).bind fun h =>
 (Ln n g h).bind fun s =>
 if !s then
  some ((Vl.mk 0 0 0 ((⟨#[]⟩:ByteArray)) ([]) ([]),18))
 else
  (BU n h).bind fun b =>
  some ((b,0))
theorem Oe (w0:World) (hP:Pow10 w0) (hT:Lib.Utf8Tabs 0 1 w0) (n:Nat) (B:List (List AV)) (Rw:List RowA) (L:List LoopA) (a0:Ty) (a1:Vl) (r:Vl × Int) (h:FN n a0 a1=some r) :
  ACalls Tryz.prog w0 31 [.agg (a0.cs),.agg (a1.cs)] ⟨B,Rw,L⟩ fun x st=>x = .tup [.agg (r.1.cs),.val (.int .i64 r.2)]∧st=⟨B,Rw,L⟩:=by
 rw [FN] at h
 refine hd [.cell 4 46,.tmp 5] Tryz.func31 Tryz.ntmps31 fun M0 W0 s l o a q j hs=>?_
 simp only [As]
 refine rg [2,3,4] hs ?_
 obtain ⟨k,i,h⟩:=bind_some h
 refine rc 2 [2,4,6] hs ?_;intro K2 b
 refine Ai _ (Oc w0 hT n _ _ _ a0 a1 _ i) (hv hs) ?_
 refine ne hs b ?_
 clear b
 apply Ah;intro K4 c
 obtain ⟨p,g,h⟩:=bind_some h
 refine rc 2 [4,6,13] hs ?_;intro K5 d
 refine Ai _ (ZA w0 hP hT n _ _ _ a0 k _ g) (hv hs) ?_
 refine ne hs d ?_
 clear d
 refine AK h hs (fun hs h=>?_) (fun hs h=>?_)
 ·refine rg [4,5] hs ?_
  exact rt h hs a j
 refine sk [4,6] hs c ?_
 clear c
 obtain ⟨m,f,h⟩:=bind_some h
 refine rc 2 [4,5] hs ?_;intro K9 e
 refine Ai _ (G3 w0 n _ _ _ k _ f) (hv hs) ?_
 refine ne hs e ?_
 clear e
 exact rt h hs a j
def ssB:List (ByteArray × Vl)→Bool
 | p::q::r=>WL p.1 q.1&&ssB (q::r)
 | _=>true
theorem X5:∀ l,ssB l=true↔SS l
 | []=>by simp [ssB,SS]
 | [p]=>by simp [ssB,SS]
 | p::q::r=>by
  rw [ssB,Bool.and_eq_true,X5 (q::r),T8,decide_eq_true_eq]
  unfold SS
  rw [List.pairwise_cons (a:=p)]
  constructor
  ·rintro ⟨b,c⟩
   refine ⟨fun x hx=>?_,c⟩
   rcases List.mem_cons.1 hx with rfl | hx
   ·exact b
   ·exact Po b ((List.pairwise_cons.1 c).1 x hx)
  ·rintro ⟨b,c⟩
   exact ⟨b q (by simp),c⟩
def bare (i s t l f:Bool) (v:Vl):Bool:=(i||decide (v.int=0))&&(s||decide (v.scale=0))&&(t||DR v.text ⟨#[]⟩)&&(l||decide (v.list.length=0))&&(f||decide (v.fields.length=0))
def AB (v:Vl):Bool :=
 if v.kind=1 then (decide (v.int=0)||decide (v.int=1))&&bare true false false false false v
 else if v.kind=2∨v.kind=6∨v.kind=7 then bare true false false false false v
 else if v.kind=3 then bare true true false false false v
 else if v.kind=4 then Lib.validD v.text.data.toList&&bare false false true false false v
 else if v.kind=5 then bare false false true false false v
 else if v.kind=8 then bare false false false true false v
 else if v.kind=9 then ssB v.fields&&bare false false false false true v
 else if v.kind=10 then decide (v.list.length=1)&&bare false false true true false v
 else bare false false false false false v
theorem Zke (k:Nat):decide ((k:Int)=0)=decide (k=0):=by rw [decide_eq_decide];omega
theorem OX (n:Nat) (k i s:Int) (t:ByteArray) (l:List Vl) (f:List (ByteArray × Vl)):B5 n (Vl.mk k i s t l f)=some (decide (i=0)&&decide (s=0)&&DR t ⟨#[]⟩&&decide (l.length=0)&&decide (f.length=0)):=by
 unfold B5
 change some ((((decide (i=0)&&decide (s=0))&&DR t ⟨#[]⟩)&&decide ((l.length:Int)=0))&&decide ((f.length:Int)=0))=_
 rw [Zke,Zke]
theorem QA (n:Nat) (v:Vl) (hl:v.fields.length≤1000000000):∀ (k m j:Nat),v.fields.length≤j+1+k→k<m→D9 n v m ((j+1:Nat):Int)=some (ssB (v.fields.drop j)&&bare false false false false true v)
 | k,0,j,_,h=>absurd h (Nat.not_lt_zero _)
 | 0,m+1,j,hj,_=>by
  rw [D9,Av,Ac (by omega),Af (by decide),IU,OX]
  have:ssB (v.fields.drop j)=true:=by
   match h:v.fields.drop j with
   | []=>rfl
   | [_]=>rfl
   | a::b::r =>
    have:=congrArg List.length h
    simp at this;omega
  rw [this];simp [bare]
 | k+1,m+1,j,hj,hm=>by
  rw [D9,Av]
  by_cases q:j+1<v.fields.length
  ·have d:j<v.fields.length:=by omega
   have e:((j+1:Nat):Int)-1=(j:Int):=by omega
   rw [Ad q,Ae rfl,e,Ae (by unfold B2;omega),AD d,Ab,AD q,Ab,List.drop_eq_getElem_cons d,List.drop_eq_getElem_cons q,ssB]
   cases c:WL v.fields[j].1 v.fields[j+1].1 with
   | false=>rw [Ae (by rfl)];rfl
   | true =>
    rw [Af (by decide),Ae (AA (by omega)),Bool.true_and,←List.drop_eq_getElem_cons q]
    exact QA n v hl k m (j+1) (by omega) (by omega)
  ·have:=QA n v hl 0 (m+1) j (by omega) (by omega)
   rw [D9,Av] at this
   exact this
theorem Wv (n:Nat) (v:Vl) (hn:v.fields.length+1<n) (hl:v.fields.length≤1000000000) (ht:v.text.size≤maxLen):HC n v=some (AB v):=by
 have a:=QA n v hl v.fields.length n 0 (by omega) (by omega)
 rw [List.drop_zero,show ((0+1:Nat):Int)=1 from rfl] at a
 have z:DR (⟨#[]⟩:ByteArray) ⟨#[]⟩=true:=Eb _
 rw [HC,AB]
 by_cases h1:v.kind=1
 ·rw [Ad h1,Ae rfl,Ae h1,OX]
  by_cases q0:v.int=0
  ·rw [Ad q0,Bool.not_true,Bool.false_and,Af (by decide)];simp [bare]
  ·by_cases q1:v.int=1
   ·rw [Ad q1,Ac q0,Af (by decide)];simp [bare]
   ·rw [Ac q1,Ac q0,Ae (by rfl)];rfl
 rw [Ac h1,Af (by decide),Af h1]
 by_cases h2:v.kind=2
 ·rw [Ad h2,Ae rfl,Ae (by omega),DC,Ae rfl,OX];simp [bare]
 rw [Ac h2,Af (by decide)]
 by_cases h6:v.kind=6
 ·rw [Ad h6,Ae rfl,Ae (by omega),DC,Ae rfl,OX];simp [bare]
 rw [Ac h6,Af (by decide)]
 by_cases h7:v.kind=7
 ·rw [Ad h7,Ae (by omega),DC,Ae rfl,OX];simp [bare]
 rw [Ac h7,Af (by omega),DC,Af (by decide)]
 by_cases h3:v.kind=3
 ·rw [Ad h3,Ae rfl,Ae h3,OX];simp [bare]
 rw [Ac h3,Af (by decide),Af h3]
 by_cases h4:v.kind=4
 ·rw [Ad h4,Ae rfl,Ae h4,N7,Ae ht,Ab]
  cases Lib.validD v.text.data.toList with
  | false=>rfl
  | true=>rw [Af (by decide),OX,z];simp [bare]
 rw [Ac h4,Af (by decide),Af h4]
 by_cases h5:v.kind=5
 ·rw [Ad h5,Ae rfl,Ae h5,OX,z];simp [bare]
 rw [Ac h5,Af (by decide),Af h5]
 by_cases h8:v.kind=8
 ·rw [Ad h8,Ae rfl,Ae h8,OX];simp [bare]
 rw [Ac h8,Af (by decide),Af h8]
 by_cases h9:v.kind=9
 ·rw [Ad h9,Ae rfl,Ae h9,a]
 rw [Ac h9,Af (by decide),Af h9]
 by_cases h10:v.kind=10
 ·rw [Ad h10,Ae rfl,Ae h10]
  by_cases q:v.list.length=1
  ·rw [Ad (show (v.list.length:Int)=1 by omega),Af (by decide),OX,z,Ad q];simp [bare]
  ·rw [Ac (show ¬ (v.list.length:Int)=1 by omega),Ae (by rfl),Ac q];rfl
 ·rw [Ac h10,Af (by decide),Af h10]
  have:=OX n v.kind v.int v.scale v.text v.list v.fields
  rw [Vl.eta] at this
  rw [this];simp [bare]
def Rx (l:List (ByteArray × Vl)) (w:ByteArray):Nat:=(l.takeWhile fun q=>decide (Eo q.1 w<0)).length
theorem Zen (l:List (ByteArray × Vl)) (w:ByteArray):Rx l w≤l.length:=(List.takeWhile_sublist _).length_le
theorem ZgK {p:ByteArray × Vl} {r:List (ByteArray × Vl)} {w:ByteArray}:Rx (p::r) w=if Eo p.1 w<0 then Rx r w+1 else 0:=by
 unfold Rx
 by_cases q:Eo p.1 w<0
 ·rw [List.takeWhile_cons_of_pos (by simpa using q),Ae q];rfl
 ·rw [List.takeWhile_cons_of_neg (by simpa using q),Af q];rfl
theorem OB (w:ByteArray):∀ (l:List (ByteArray × Vl)),∀ p∈l.take (Rx l w),Eo p.1 w<0
 | [],p,hp=>by simp at hp
 | q::r,p,hp=>by
  rw [ZgK] at hp
  by_cases c:Eo q.1 w<0
  ·rw [Ae c,List.take_succ_cons] at hp
   rcases List.mem_cons.1 hp with rfl | hp
   ·exact c
   ·exact OB w r p hp
  ·rw [Af c] at hp;simp at hp
theorem Zej (l:List (ByteArray × Vl)) (w:ByteArray) (h:Rx l w<l.length):¬ Eo l[Rx l w].1 w<0:=by
 induction l with
 | nil=>simp at h
 | cons p r ih =>
  by_cases q:Eo p.1 w<0
  ·have e:Rx (p::r) w=Rx r w+1:=by unfold Rx;rw [List.takeWhile_cons_of_pos (by simpa using q)];rfl
   simp only [e,List.getElem_cons_succ]
   exact ih (by rw [e] at h;simpa using h)
  ·have e:Rx (p::r) w=0:=by unfold Rx;rw [List.takeWhile_cons_of_neg (by simpa using q)];rfl
   simp only [e,List.getElem_cons_zero]
   exact q
theorem Xc {l:List (ByteArray × Vl)} {w:ByteArray} {k:Nat} (hk:k≤l.length) (h1:∀ i (h:i<k),Eo (l[i]'(by omega)).1 w<0) (h2:∀ h:k<l.length,¬ Eo l[k].1 w<0):k=Rx l w:=by
 rcases Nat.lt_trichotomy k (Rx l w) with q | q | q
 ·have b:=Zen l w
  have a:l[k]'(by omega)∈l.take (Rx l w):=List.mem_take_iff_getElem.2 ⟨k,by omega,rfl⟩
  exact absurd (OB w l _ a) (h2 (by omega))
 ·exact q
 ·exact absurd (h1 (Rx l w) q) (Zej l w (by omega))
def YM (l:List (ByteArray × Vl)) (w:ByteArray):Bool:=l.any fun q=>DR q.1 w
theorem NT {l:List (ByteArray × Vl)} {w:ByteArray}:YM l w=true↔∃ q∈l,q.1=w:=by
 unfold YM
 rw [List.any_eq_true]
 exact ⟨fun ⟨q,h,e⟩=>⟨q,h,(D5 _ _).1 e⟩,fun ⟨q,h,e⟩=>⟨q,h,(D5 _ _).2 e⟩⟩
theorem ZiC {l:List (ByteArray × Vl)} (hs:SS l) (w:ByteArray) (h:Rx l w<l.length):decide (Eo l[Rx l w].1 w=0)=YM l w:=by
 have a:=Zej l w h
 cases q:YM l w with
 | true =>
  obtain ⟨x,b,e⟩:=NT.1 q
  obtain ⟨i,d,rfl⟩:=List.mem_iff_getElem.1 b
  have z:Eo l[i].1 w=0:=(Jd _ _).2 e
  rcases Nat.lt_trichotomy i (Rx l w) with c | c | c
  ·have:=OB w l l[i] (List.mem_take_iff_getElem.2 ⟨i,by omega,rfl⟩)
   omega
  ·subst c;exact Ad z
  ·have:=List.pairwise_iff_getElem.1 hs _ _ h d c
   rw [e] at this
   exact absurd this a
 | false =>
  refine Ac fun z=>?_
  have:=NT.2 ⟨_,List.getElem_mem h,(Jd _ _).1 z⟩
  rw [this] at q;cases q
theorem ZfQ {l:List (ByteArray × Vl)} (w:ByteArray) (h:Rx l w=l.length):YM l w=false:=by
 cases q:YM l w with
 | false=>rfl
 | true =>
  obtain ⟨x,a,e⟩:=NT.1 q
  have:=OB w l x (by rw [h,List.take_length];exact a)
  rw [e,I7] at this
  omega
theorem ZdO (n:Nat) (l:List (ByteArray × Vl)) (w:ByteArray) (f:ByteArray × Vl→ByteArray→Option Int) (hf:∀ x,f x w=some (Eo x.1 w)) (hs:SS l) (hl:l.length≤1000000000):∀ (k m lo hi:Nat),hi-lo≤k→lo≤hi→hi≤l.length →
  (∀ i (h:i<lo) (h2:i<l.length),Eo l[i].1 w<0)→(∀ i (h:hi≤i) (h2:i<l.length),¬ Eo l[i].1 w<0)→k<m→Bd n l w f m lo hi=some ((Rx l w:Int),YM l w)
 | k,0,lo,hi,_,_,_,_,_,h=>absurd h (Nat.not_lt_zero _)
 | k,m+1,lo,hi,hk,h1,h2,h3,h4,hm=>by
  rw [Bd,Av]
  by_cases q:lo<hi
  ·have e:(lo:Int)+(hi:Int)=((lo+hi:Nat):Int):=by omega
   have g:((lo+hi:Nat):Int) / 2=(((lo+hi) / 2:Nat):Int):=by omega
   have d:(lo+hi) / 2<l.length:=by omega
   rw [Ad q,Ae rfl,e,Ae (by unfold B2;omega),Ae (by omega),Ae (by omega),g,Ae (by unfold B2;omega),AD d,Ab,hf,Ab]
   obtain ⟨k,rfl⟩:∃ j,k=j+1:=⟨k-1,by omega⟩
   by_cases c:Eo l[(lo+hi) / 2].1 w<0
   ·rw [Ad c,Ae rfl,Ae (AA (by omega))]
    refine ZdO n l w f hf hs hl k m ((lo+hi) / 2+1) hi (by omega) (by omega) h2 (fun i a b=>?_) h4 (by omega)
    rcases Nat.lt_or_ge i ((lo+hi) / 2) with z | z
    ·exact Po (List.pairwise_iff_getElem.1 hs i _ b d z) c
    ·obtain rfl:i=(lo+hi) / 2:=by omega
     exact c
   ·rw [Ac c,Af (by decide)]
    refine ZdO n l w f hf hs hl k m lo ((lo+hi) / 2) (by omega) (by omega) (by omega) h3 (fun i a b=>?_) (by omega)
    rcases Nat.lt_or_ge ((lo+hi) / 2) i with z | z
    ·exact fun y=>c (Po (List.pairwise_iff_getElem.1 hs _ i d b z) y)
    ·obtain rfl:i=(lo+hi) / 2:=by omega
     exact c
  ·obtain rfl:lo=hi:=by omega
   have e:=Xc (l:=l) (w:=w) h2 (fun i a=>h3 i a (by omega)) (fun a=>h4 lo (Nat.le_refl _) a)
   rw [Ac q,Af (by decide),CO,Av,e]
   by_cases c:Rx l w<l.length
   ·rw [Ad c,Ae rfl,AD c,Ab,hf,Ab,ZiC hs w c]
   ·rw [Ac c,Af (by decide),ZfQ w (by have:=Zen l w;omega)]
theorem Zk6 (n:Nat) (l:List (ByteArray × Vl)) (w:ByteArray) (f:ByteArray × Vl→ByteArray→Option Int) (hf:∀ x,f x w=some (Eo x.1 w)) (hs:SS l) (hl:l.length≤1000000000) (hn:l.length<n):C3 n l w f=some ((Rx l w:Int),YM l w) :=
 ZdO n l w f hf hs hl l.length n 0 l.length (by omega) (by omega) (Nat.le_refl _) (fun i h=>by omega) (fun i h a=>by omega) hn
def Zdj (p:TF):Option Vl:=if p.2.2.1=3∧p.2.2.2.2.length=1 then p.2.2.2.2[0]? else none
def TG (l:List (ByteArray × Vl)) (w:ByteArray) (x:Vl):List (ByteArray × Vl):=MZ l (Rx l w:Int) (w,x)
def O2:List TF→List (ByteArray × Vl)→List (ByteArray × Vl)
 | [],l=>l
 | p::ps,l=>match Zdj p with
  | some x=>if YM l p.2.1=true then O2 ps l else O2 ps (TG l p.2.1 x)
  | none=>O2 ps l
theorem Zbj {l:List (ByteArray × Vl)} (hs:SS l) {w:ByteArray} (h:YM l w=false) (x:Vl):SS (TG l w x):=by
 unfold TG MZ
 rw [Int.toNat_natCast]
 have:=Zb4 hs (w,x) (fun p a e=>by rw [NT.2 ⟨p,a,e⟩] at h;cases h) (j:=Rx l w) (OB w l) (fun q=>Zej l w q)
 simpa using this
theorem SG (l:List (ByteArray × Vl)) (w:ByteArray) (x:Vl):(TG l w x).Perm ((w,x)::l):=by
 unfold TG MZ
 rw [Int.toNat_natCast]
 have:=(List.perm_middle (a:=(w,x)) (l₁:=l.take (Rx l w)) (l₂:=l.drop (Rx l w)))
 rwa [List.take_append_drop] at this
theorem ZI (l:List (ByteArray × Vl)) (w:ByteArray) (x:Vl):(TG l w x).length=l.length+1:=(SG l w x).length_eq
def V9 (v:Vl) (l:List (ByteArray × Vl)):Vl:=Vl.mk v.kind v.int v.scale v.text v.list l
theorem ZG (rec:Ty→Vl→Option Vl) (n:Nat) (t:Ty) (y:Vl) (hl:t.fields.length≤1000000) (hn:1000000000<n):∀ (k m i:Nat) (l:List (ByteArray × Vl)),i+k=t.fields.length→k<m→SS l→l.length+k≤100000000 →
  BD rec n t y m i l=some (V9 y (O2 (t.fields.drop i) l))
 | k,0,i,l,_,h,_,_=>absurd h (Nat.not_lt_zero _)
 | 0,m+1,i,l,hi,_,_,_=>by
  rw [BD,Av,Ac (by omega),Af (by decide),List.drop_eq_nil_of_le (by omega)];rfl
 | k+1,m+1,i,l,hi,hm,hs,hk=>by
  have d:i<t.fields.length:=by omega
  have f:∀ e,SS e→e.length+k≤100000000→DY rec n (BD rec n t y m) i e=some (V9 y (O2 (t.fields.drop (i+1)) e)):=fun e a b=>by
   rw [DY,Ae (AA (by omega))]
   exact ZG rec n t y hl hn k m (i+1) e (by omega) (by omega) a b
  rw [BD,Av,Ad d,Ae rfl,AD d,Ab,List.drop_eq_getElem_cons d,O2,Zdj]
  by_cases c:t.fields[i].2.2.1=3∧t.fields[i].2.2.2.2.length=1
  ·have g:0<t.fields[i].2.2.2.2.length:=by omega
   rw [Ad c.1,Ad (show (t.fields[i].2.2.2.2.length:Int)=1 by omega),Af (by decide),Zk6 n l _ _ (fun x=>rfl) hs (by omega) (by omega),Ab,Ae c,List.getElem?_eq_getElem g]
   simp only
   cases q:YM l t.fields[i].2.1 with
   | true=>rw [Af (by decide),Ae rfl];exact f l hs (by omega)
   | false =>
    have j:=Zen l t.fields[i].2.1
    rw [Ae (by rfl),Af (by decide),show Ci t.fields[i].2.2.2.2 0=some t.fields[i].2.2.2.2[0] from AD (k:=0) g,Ab,Ae (by omega)]
    exact f _ (Zbj hs q _) (by have:=ZI l t.fields[i].2.1 t.fields[i].2.2.2.2[0];rw [TG] at this;rw [this];omega)
  ·rw [Ae,Af c]
   ·exact f l hs (by omega)
   ·rw [Bool.or_eq_true,Bool.not_eq_true',Bool.not_eq_true',decide_eq_false_iff_not,decide_eq_false_iff_not];omega
def DL (f:Ty→Vl→Vl) (t:Ty) (v:Vl):Vl :=
 if t.kind=8 then (match t.elem with | [x]=>Vl.mk v.kind v.int v.scale v.text (v.list.map (f x)) v.fields | _=>v)
 else if t.kind=9 then V9 v (v.fields.map fun q=>match A5 t q.1 with | some p=>(q.1,f p.2.2.2.1 q.2) | none=>q)
 else if t.kind=10 then (match A5 t v.text,v.list with | some p,x::_=>Vl.mk v.kind v.int v.scale v.text [f p.2.2.2.1 x] v.fields | _,_=>v)
 else v
def Cb:Nat→Ty→Vl→Vl
 | 0,_,v=>v
 | d+1,t,v=>if v.kind≠t.kind∨AB v=false then v else if t.kind=9 then V9 (DL (Cb d) t v) (O2 t.fields (DL (Cb d) t v).fields) else DL (Cb d) t v
theorem Zc4 (n:Nat) (t:Ty) (v:Vl) (a2:Ty→Vl→Option Vl) (f:Ty→Vl→Vl) (hf:∀ q∈v.fields,∀ p,A5 t q.1=some p→a2 p.2.2.2.1 q.2=some (f p.2.2.2.1 q.2)) (ht:t.fields.length≤1000000000) (htn:t.fields.length<n) (hl:v.fields.length≤1000000000):∀ (k m i:Nat),i+k=v.fields.length→k<m →
  Dy n t v a2 m i ((v.fields.take i).map fun q=>match A5 t q.1 with | some p=>(q.1,f p.2.2.2.1 q.2) | none=>q)=some (V9 v (v.fields.map fun q=>match A5 t q.1 with | some p=>(q.1,f p.2.2.2.1 q.2) | none=>q))
 | k,0,i,_,h=>absurd h (Nat.not_lt_zero _)
 | 0,m+1,i,hi,_=>by
  rw [Dy,Av,Ac (by omega),Af (by decide),List.take_of_length_le (by omega)];rfl
 | k+1,m+1,i,hi,hm=>by
  have a:i<v.fields.length:=by omega
  have ih:=Zc4 n t v a2 f hf ht htn hl k m (i+1) (by omega) (by omega)
  rw [List.take_succ_eq_append_getElem a,List.map_append,List.map_singleton] at ih
  rw [Dy,Av,Ad a,Ae rfl,AD a,Ab,KA n t _ ht htn,Ab]
  cases c:A5 t v.fields[i].1 with
  | none =>
   rw [c] at ih
   rw [Af (by decide),FI,Ae (by rw [List.length_map,List.length_take];omega),Ae (AA (by omega))]
   exact ih
  | some p =>
   rw [c] at ih
   have e:=hf _ (List.getElem_mem a) p c
   simp only [Option.isSome_some,if_true,Option.getD_some,e,Ab]
   rw [FI,Ae (by rw [List.length_map,List.length_take];omega),Ae (AA (by omega))]
   exact ih
theorem Zhb (n:Nat) (t x:Ty) (v:Vl) (a2:Ty→Vl→Option Vl) (f:Ty→Vl→Vl) (he:t.elem=[x]) (hf:∀ u∈v.list,a2 x u=some (f x u)) (hl:v.list.length≤1000000000):∀ (k m i:Nat),i+k=v.list.length→k<m →
  E8 n t v a2 m i ((v.list.take i).map (f x))=some (Vl.mk v.kind v.int v.scale v.text (v.list.map (f x)) v.fields)
 | k,0,i,_,h=>absurd h (Nat.not_lt_zero _)
 | 0,m+1,i,hi,_=>by
  rw [E8,Av,Ac (by omega),Af (by decide),List.take_of_length_le (by omega)];rfl
 | k+1,m+1,i,hi,hm=>by
  have a:i<v.list.length:=by omega
  have ih:=Zhb n t x v a2 f he hf hl k m (i+1) (by omega) (by omega)
  rw [List.take_succ_eq_append_getElem a,List.map_append,List.map_singleton] at ih
  rw [E8,Av,Ad a,Ae rfl,AD a,Ab,he,show Ci [x] 0=some x from rfl,Ab,hf _ (List.getElem_mem a),Ab,Ae (by rw [List.length_map,List.length_take];omega),Ae (AA (by omega))]
  exact ih
theorem KF {v:Vl} (h:AB v=true) (hk:v.kind=9):SS v.fields:=by
 rw [AB,Af (by omega),Af (by omega),Af (by omega),Af (by omega),Af (by omega),Af (by omega),Ae hk,Bool.and_eq_true] at h
 exact (X5 _).1 h.1
theorem Jf {v:Vl} (h:AB v=true) (hk:v.kind=10):v.list.length=1:=by
 rw [AB,Af (by omega),Af (by omega),Af (by omega),Af (by omega),Af (by omega),Af (by omega),Af (by omega),Ae hk,Bool.and_eq_true,decide_eq_true_eq] at h
 exact h.1
theorem Zdq {l m:List (ByteArray × Vl)} (h:l.map Prod.fst=m.map Prod.fst) (hs:SS m):SS l:=by
 have c:∀ l:List (ByteArray × Vl),SS l↔(l.map Prod.fst).Pairwise fun a b=>Eo a b<0:=fun l=>by unfold SS;rw [List.pairwise_map]
 rw [c] at hs ⊢
 rwa [h]
theorem S5 (f:Ty→Vl→Vl) (t:Ty) (v:Vl) (hk:t.kind=9):(DL f t v).fields.map Prod.fst=v.fields.map Prod.fst:=by
 rw [DL,Af (by omega),Ae hk]
 simp only [V9,Vl.fields,List.map_map]
 refine List.map_congr_left fun q _=>?_
 simp only [Function.comp]
 cases A5 t q.1<;>rfl
theorem LZ:∀ (d n:Nat) (t:Ty) (v:Vl),t.depth≤d→t.size≤200→v.size≤1048576→v.ok→2000000000+d<n→CX n t v=some (Cb d t v)
 | 0,n,t,v,h,_,_,_,_=>by have:=t.depth_eq;omega
 | d+1,0,t,v,_,_,_,_,h=>absurd h (by omega)
 | d+1,n+1,t,v,hd,ht,hv,ho,hn=>by
  have H:=t.lens
  have J:=Iw v
  obtain ⟨D,z,E⟩:=v.ok_eq.1 ho
  rw [CX,ID,Cb]
  by_cases hk:v.kind=t.kind
  rotate_left
  ·rw [Ac hk,Ae (by rfl),Ae (.inl hk)]
  rw [Ad hk,Af (by decide),Wv n v (by omega) (by omega) (UW D),Ab]
  cases hf:AB v with
  | false=>rw [Ae (by rfl),Ae (.inr rfl)]
  | true =>
   rw [Af (by decide),Af (show ¬ (v.kind≠t.kind∨true=false) by simp [hk])]
   by_cases k9:t.kind=9
   ·rw [Ad k9,Ae rfl,Ae k9]
    have e:=Zc4 n t v (fun k m=>CX n k m) (Cb d) (fun q s p i=>LZ d n _ _ (by have:=Ty.depth_field (Bg i).1;omega) (by have:=t.field_size p (Bg i).1;omega) (by have:=v.field_size q s;omega) (E q s).2 (by omega)) (by omega) (by omega) (by omega) v.fields.length n 0 (by omega) (by omega)
    have F:V9 v (v.fields.map fun q=>match A5 t q.1 with | some p=>(q.1,Cb d p.2.2.2.1 q.2) | none=>q)=DL (Cb d) t v:=by rw [DL,Af (by omega),Ae k9]
    rw [List.take_zero,List.map_nil,F] at e
    have l:SS (DL (Cb d) t v).fields:=Zdq (S5 _ t v k9) (KF hf (by omega))
    have C:(DL (Cb d) t v).fields.length=v.fields.length:=by have:=congrArg List.length (S5 (Cb d) t v k9);simpa using this
    have:=ZG (CX n) n t (DL (Cb d) t v) (by omega) (by omega) t.fields.length n 0 (DL (Cb d) t v).fields (by omega) (by omega) l (by omega)
    rw [KB,Ae k9]
    rw [List.drop_zero] at this
    refine Eq.trans ?_ this
    exact congrArg (fun o=>Option.bind o fun g=>BD (CX n) n t g n 0 g.fields) e
   ·rw [Ac k9,Af (by decide),Af k9,DL,LI]
    by_cases k8:t.kind=8
    ·rw [Ae k8,Ad k8,Bool.true_and]
     match he:t.elem with
     | [x] =>
      have f:x∈t.elem:=by rw [he];simp
      have e:=Zhb n t x v (fun k m=>CX n k m) (Cb d) he (fun u w=>LZ d n x u (by have:=Ty.depth_elem f;omega) (by have:=t.elem_size x f;omega) (by have:=v.list_size u w;omega) (z u w) (by omega)) (by omega) v.list.length n 0 (by omega) (by omega)
      rw [List.take_zero,List.map_nil] at e
      rw [Ae (by rfl)]
      exact congrArg (fun o=>Option.bind o fun y=>some y) e
     | []=>rw [Af (by decide),Ac k9,Af (by decide),Ac (show ¬ t.kind=10 by omega),Af (by decide),C2,Ab,Vl.eta]
     | a::b::r=>rw [Af (by rw [decide_eq_true_eq];simp;omega),Ac k9,Af (by decide),Ac (show ¬ t.kind=10 by omega),Af (by decide),C2,Ab,Vl.eta]
    rw [Af k8,Af k9,Ac k8,Bool.false_and,Af (by decide),Ac k9,Af (by decide)]
    by_cases k10:t.kind=10
    ·have G:=Jf hf (by omega)
     obtain ⟨x,f⟩:=List.length_eq_one_iff.1 G
     have j:x∈v.list:=by rw [f];simp
     rw [Ad k10,Ae rfl,Ae k10,KA n t v.text (by omega) (by omega),Ab,f]
     cases c:A5 t v.text with
     | none=>rw [Af (by decide),C2,Ab,←f,Vl.eta]
     | some p =>
      have i:=(Bg c).1
      have e:=LZ d n p.2.2.2.1 x (by have:=Ty.depth_field i;omega) (by have:=t.field_size p i;omega) (by have:=v.list_size x j;omega) (z x j) (by omega)
      rw [Ae (by rfl),show Ci [x] 0=some x from rfl,Ab]
      simp only [Option.getD_some,e,Ab,C2]
    ·rw [Ac k10,Af (by decide),Af k10,C2,Ab,Vl.eta]
inductive Vl.Nar:Vl→Prop
 | mk (v:Vl) (hl:v.list.length≤100000000) (hf:v.fields.length≤100000000) (ht:v.text.size≤1048576) (h1:∀ x∈v.list,Vl.Nar x) (h2:∀ p∈v.fields,p.1.size≤1048576) (h3:∀ p∈v.fields,Vl.Nar p.2):Vl.Nar v
theorem Vl.Nar.inv {v:Vl} (h:v.Nar):v.list.length≤100000000∧v.fields.length≤100000000∧v.text.size≤1048576∧(∀ x∈v.list,Vl.Nar x)∧∀ p∈v.fields,p.1.size≤1048576∧Vl.Nar p.2:=by
 cases h with
 | mk _ a b c d e f=>exact ⟨a,b,c,d,fun p g=>⟨e p g,f p g⟩⟩
theorem Vl.Nar.wide {v:Vl} (h:v.Nar):v.wide=true:=by
 induction h with
 | mk v a b c d e f i1 i2=>exact v.wide_iff.2 ⟨by omega,by omega,i1,i2⟩
theorem Vl.Nar.ok {v:Vl} (h:v.Nar):v.ok:=by
 induction h with
 | mk v a b c d e f i1 i2=>exact v.ok_eq.2 ⟨c,i1,fun p g=>⟨e p g,i2 p g⟩⟩
theorem OT:∀ (k:Nat) (v:Vl),v.size≤k→v.size≤1048576→v.ok→v.Nar
 | 0,v,h,_,_=>by have:=v.size_pos;omega
 | k+1,v,h,hs,ho=>by
  obtain ⟨d,e,b⟩:=v.ok_eq.1 ho
  have f:=Iw v
  exact .mk v (by omega) (by omega) d (fun x c=>by have:=v.list_size x c;exact OT k x (by omega) (by omega) (e x c)) (fun p a=>(b p a).1) (fun p a=>by have:=v.field_size p a;exact OT k p.2 (by omega) (by omega) (b p a).2)
theorem Vl.Nar.list {v x:Vl} (h:v.Nar) (hx:x∈v.list):x.Nar:=h.inv.2.2.2.1 x hx
theorem Vl.Nar.field {v:Vl} {p:ByteArray × Vl} (h:v.Nar) (hp:p∈v.fields):p.2.Nar:=(h.inv.2.2.2.2 p hp).2
theorem Vl.depth_list {v x:Vl} (hx:x∈v.list):x.depth<v.depth:=by
 have e:=v.depth_eq
 have:=(Ho v.list _).1 (Nat.le_refl _) x hx
 omega
theorem Vl.depth_fld {v:Vl} {p:ByteArray × Vl} (hp:p∈v.fields):p.2.depth<v.depth:=by
 have e:=v.depth_eq
 have:=(Ia v.fields _).1 (Nat.le_refl _) p hp
 omega
theorem Il:∀ (n:Nat) (v:Vl),v.Nar→v.depth+1000000000<n→BU n v=some v
 | 0,v,_,h=>absurd h (Nat.not_lt_zero _)
 | n+1,v,hv,h=>by
  obtain ⟨d,c,_,_,_⟩:=hv.inv
  rw [BU,MS]
  have:=Sr (BU n) n v ⟨by omega,by omega⟩ (by omega) ⟨fun x a=>Il n x (hv.list a) (by have:=Vl.depth_list a;omega),fun p b=>Il n p.2 (hv.field b) (by have:=Vl.depth_fld b;omega)⟩ v.list.length n 0 (by omega) (by omega)
  rw [List.take_zero] at this
  exact this
def Dp:Nat→Ty→Vl→Bool
 | 0,_,_=>false
 | d+1,t,v =>
  if (t.kind<1∨10<t.kind)∨v.kind≠t.kind∨AB v=false then false
  else if t.kind=2∨t.kind=6∨t.kind=7 then JX v.int t
  else if t.kind=3 then decide (v.scale=t.scale)&&JX v.int t
  else if t.kind=4 then GA v.text t
  else if t.kind=5 then JX v.text.size t
  else if t.kind=8 then JX v.list.length t&&v.list.all fun u=>(match t.elem with | [x]=>Dp d x u | _=>false)
  else if t.kind=9 then (t.fields.all fun p=>match B9 v p.2.1 with | some y=>Dp d p.2.2.2.1 y | none=>decide (p.2.2.1=2))&&v.fields.all fun q=>(A5 t q.1).isSome
  else if t.kind=10 then (match A5 t v.text,v.list with | some p,x::_=>Dp d p.2.2.2.1 x | _,_=>false)
  else true
theorem Sj (b:Bool) (p:ByteArray) (c:Int):Bn (!b) b p c=some (true,false):=by cases b<;>rfl
theorem Up (b:Bool) (t:Ty) (p:ByteArray) (k:Int):BH (!b) b t p k=some (!(b&&JX k t),b&&JX k t):=by
 rw [BH,Sj]
 by_cases h1:k<t.min
 ·rw [Ad h1,Ae (by rfl)]
  rw [JX,Ac (by omega)];simp
 ·by_cases h2:t.max<k
  ·rw [Ad h2,Ae (by simp)]
   rw [JX,Ac (show ¬ k≤t.max by omega)];simp
  ·rw [Ac h1,Ac h2,Af (by decide),JX,Ad (show t.min≤k by omega),Ad (show k≤t.max by omega)];simp
theorem Zik (l:List UInt8):(⟨l.toArray⟩:ByteArray).size=l.length:=by simp [ByteArray.size]
theorem J4 (a b:ByteArray):(a++b).size=a.size+b.size:=ByteArray.size_append
theorem ZS (p w:ByteArray) (hp:p.size≤1000000000000000) (hw:w.size≤1048576):∃ s,G0 p w=some s∧s.size≤p.size+1048577:=by
 rw [G0]
 cases DR p ⟨#[]⟩ with
 | true=>exact ⟨w,rfl,by omega⟩
 | false =>
  have e:(⟨#[46]⟩:ByteArray).size=1:=rfl
  rw [Af (by decide),Ae (by omega),Ae (by rw [J4];omega)]
  exact ⟨_,rfl,by rw [J4,J4];omega⟩
theorem Za (rec:Bool→Bool→Ty→Vl→ByteArray→Option (Bool × Bool)) (n:Nat) (t:Ty) (v:Vl) (p:ByteArray) (g:Ty→Vl→Bool) (hp:p.size≤1000000000000000) (hl:v.list.length≤1000000000)
  (hr:∀ x,t.elem=[x]→∀ u∈v.list,∀ (b:Bool) (s:ByteArray),s.size≤p.size+1048577→rec (!b) b x u s=some (!(b&&g x u),b&&g x u)):∀ (k m i:Nat) (b:Bool),i+k=v.list.length→k<m →
  BB rec n t v p m i (!b) b=some (!(b&&(v.list.drop i).all fun u=>(match t.elem with | [x]=>g x u | _=>false)),b&&(v.list.drop i).all fun u=>(match t.elem with | [x]=>g x u | _=>false))
 | k,0,i,b,_,h=>absurd h (Nat.not_lt_zero _)
 | 0,m+1,i,b,hi,_=>by
  rw [BB,Av,Ac (by omega),Af (by decide),List.drop_eq_nil_of_le (by omega),List.all_nil,Bool.and_true]
 | k+1,m+1,i,b,hi,hm=>by
  have d:i<v.list.length:=by omega
  have ih:=fun b=>Za rec n t v p g hp hl hr k m (i+1) b (by omega) (by omega)
  have e:(⟨#[91]⟩:ByteArray).size=1:=rfl
  have j:(⟨#[93]⟩:ByteArray).size=1:=rfl
  have l:=Lib.itoa_length_le (i:Int) (by omega) (by omega)
  have f:(⟨(Lib.itoa i).toArray⟩:ByteArray).size=(Lib.itoa i).length:=Zik _
  rw [BB,Av,Ad d,Ae rfl,AD d,Ab,Ae (by omega),Ae (by unfold B2;omega),Ae (by rw [J4];omega),Ae (by rw [J4,J4];omega),List.drop_eq_getElem_cons d,List.all_cons]
  match he:t.elem with
  | [x] =>
   have:=hr x he _ (List.getElem_mem d) b (((p++(⟨#[91]⟩:ByteArray))++(⟨(Lib.itoa i).toArray⟩:ByteArray))++(⟨#[93]⟩:ByteArray)) (by rw [J4,J4,J4];omega)
   have ih:=ih (b&&g x v.list[i])
   rw [he] at ih
   rw [Ae (by rfl),show Ci [x] 0=some x from rfl,Ab,this,Ab,CG,Ae (AA (by omega))]
   simp only [Bool.and_assoc] at ih ⊢
   exact ih
  | [] =>
   have ih:=ih false
   rw [he] at ih
   rw [Af (by decide),Sj,Ab,CG,Ae (AA (by omega)),Bool.false_and,Bool.and_false]
   exact ih
  | a::c::r =>
   have ih:=ih false
   rw [he] at ih
   rw [Af (by rw [decide_eq_true_eq];simp;omega),Sj,Ab,CG,Ae (AA (by omega)),Bool.false_and,Bool.and_false]
   exact ih
theorem Zbk (rec:Bool→Bool→Ty→Vl→ByteArray→Option (Bool × Bool)) (n:Nat) (t:Ty) (v:Vl) (p:ByteArray) (hp:p.size≤1000000000000000) (ht:t.fields.length≤1000000000) (htn:t.fields.length<n) (hl:v.fields.length≤1000000000) (hv:∀ q∈v.fields,q.1.size≤1048576):∀ (k m i:Nat) (b:Bool),i+k=v.fields.length→k<m →
  BA rec n t v p m i (!b) b=some (!(b&&(v.fields.drop i).all fun q=>(A5 t q.1).isSome),b&&(v.fields.drop i).all fun q=>(A5 t q.1).isSome)
 | k,0,i,b,_,h=>absurd h (Nat.not_lt_zero _)
 | 0,m+1,i,b,hi,_=>by
  rw [BA,Av,Ac (by omega),Af (by decide),List.drop_eq_nil_of_le (by omega),List.all_nil,Bool.and_true]
 | k+1,m+1,i,b,hi,hm=>by
  have a:i<v.fields.length:=by omega
  have ih:=fun b=>Zbk rec n t v p hp ht htn hl hv k m (i+1) b (by omega) (by omega)
  rw [BA,Av,Ad a,Ae rfl,AD a,Ab,KA n t _ ht htn,Ab,List.drop_eq_getElem_cons a,List.all_cons]
  cases c:A5 t v.fields[i].1 with
  | none =>
   obtain ⟨s,d,_⟩:=ZS p v.fields[i].1 hp (hv _ (List.getElem_mem a))
   have ih:=ih false
   rw [Ae (by rfl),d,Ab,Sj,Ab,CS,Ae (AA (by omega)),Option.isSome_none,Bool.false_and,Bool.and_false]
   exact ih
  | some q =>
   rw [Af (by simp),CS,Ae (AA (by omega)),Option.isSome_some,Bool.true_and]
   exact ih b
theorem H6 {v y:Vl} {w:ByteArray} (h:B9 v w=some y):∃ q∈v.fields,q.1=w∧q.2=y:=by
 rw [B9] at h
 obtain ⟨q,a,b⟩:=Option.map_eq_some_iff.1 h
 exact ⟨q,List.mem_of_find?_eq_some a,(D5 _ _).1 (List.find?_some (p:=fun q:ByteArray × Vl=>DR q.1 w) a),b⟩
theorem Zh5 (rec:Bool→Bool→Ty→Vl→ByteArray→Option (Bool × Bool)) (n:Nat) (t:Ty) (v:Vl) (p:ByteArray) (g:Ty→Vl→Bool) (hk:v.kind=9) (hc:∀ q∈v.fields,BU n q.2=some q.2) (hs:v.fields.length<n) (hp:p.size≤1000000000000000) (ht:t.fields.length≤1000000000) (htn:t.fields.length<n) (hl:v.fields.length≤1000000000) (hv:∀ q∈v.fields,q.1.size≤1048576) (hn:∀ q∈t.fields,q.2.1.size≤1048576)
  (hr:∀ q∈t.fields,∀ y,B9 v q.2.1=some y→∀ (b:Bool) (s:ByteArray),s.size≤p.size+1048577→rec (!b) b q.2.2.2.1 y s=some (!(b&&g q.2.2.2.1 y),b&&g q.2.2.2.1 y)):∀ (k m i:Nat) (b:Bool),i+k=t.fields.length→k<m →
  Bl rec n t v p m i (!b) b=some (!(b&&(((t.fields.drop i).all fun q=>match B9 v q.2.1 with | some y=>g q.2.2.2.1 y | none=>decide (q.2.2.1=2))&&v.fields.all fun q=>(A5 t q.1).isSome)),b&&(((t.fields.drop i).all fun q=>match B9 v q.2.1 with | some y=>g q.2.2.2.1 y | none=>decide (q.2.2.1=2))&&v.fields.all fun q=>(A5 t q.1).isSome)):=by
 intro k
 induction k with
 | zero =>
  intro m i b r j
  obtain ⟨m,rfl⟩:∃ q,m=q+1:=⟨m-1,by omega⟩
  have:=Zbk rec n t v p hp ht htn hl hv v.fields.length n 0 b (by omega) (by omega)
  rw [List.drop_zero] at this
  rw [Bl,Av,Ac (by omega),Af (by decide),E1,List.drop_eq_nil_of_le (by omega),List.all_nil,Bool.true_and]
  exact this
 | succ k ih =>
  intro m i b r j
  obtain ⟨m,rfl⟩:∃ q,m=q+1:=⟨m-1,by omega⟩
  have d:i<t.fields.length:=by omega
  have f:=List.getElem_mem d
  have ih:=fun b=>ih m (i+1) b (by omega) (by omega)
  obtain ⟨s,h,l⟩:=ZS p t.fields[i].2.1 hp (hn _ f)
  rw [Bl,Av,Ad d,Ae rfl,AD d,Ab,Zw n v _ hk hl hs hc,Ab,List.drop_eq_getElem_cons d,List.all_cons]
  cases c:B9 v t.fields[i].2.1 with
  | some y =>
   have e:=hr _ f y c b s l
   have ih:=ih (b&&g t.fields[i].2.2.2.1 y)
   have o:∀ a g x y:Bool,(a&&g&&(x&&y))=(a&&(g&&x&&y)):=by decide
   rw [o] at ih
   rw [Ae Option.isSome_some,h,Ab,Option.getD_some,e,Ab,BM,Ae (AA (by omega))]
   exact ih
  | none =>
   rw [Af (by simp)]
   by_cases q:t.fields[i].2.2.1=2
   ·rw [Ad q,Af (by decide),BM,Ae (AA (by omega))]
    simp only [Bool.true_and]
    exact ih b
   ·have ih:=ih false
    rw [Ac q,Ae (by rfl),h,Ab,Sj,Ab,BM,Ae (AA (by omega))]
    simp only [Bool.false_and,Bool.and_false] at ih ⊢
    exact ih
theorem Q7:∀ (d n:Nat) (t:Ty) (v:Vl) (p:ByteArray) (b:Bool),t.depth≤d→t.size≤200→t.ok→v.Nar→v.depth+1000000000<n→2000000000+d<n→p.size+d*2000000≤100000000000000→Cc n (!b) b t v p=some (!(b&&Dp d t v),b&&Dp d t v)
 | 0,n,t,v,p,b,h,_,_,_,_,_,_=>by have:=t.depth_eq;omega
 | d+1,0,t,v,p,b,_,_,_,_,_,h,_=>absurd h (by omega)
 | d+1,n+1,t,v,p,b,hd,ht,hto,hv,hvs,hn,hp=>by
  have Z:=t.lens
  have Q:=Iw v
  obtain ⟨N,J,F,C,w⟩:=hv.inv
  obtain ⟨U,O,H,r⟩:=t.ok_eq.1 hto
  rw [Cc,GU,Dp]
  cases b with
  | false=>rw [Ae (by rfl)];rfl
  | true =>
   rw [Af (by decide),Bool.true_and]
   have a:∀ c,(Bn (!true) true p c).bind (fun y=>some (y.1,y.2))=some (!false,false):=fun c=>by rw [Sj];rfl
   by_cases c:(t.kind<1∨10<t.kind)∨v.kind≠t.kind
   ·rw [Ae (by simp only [Bool.or_eq_true,decide_eq_true_eq,Bool.not_eq_true',decide_eq_false_iff_not];exact c),Ae (by rcases c with c | c;exact .inl c;exact .inr (.inl c))]
    exact a 1
   rw [Af (by simp only [Bool.or_eq_true,decide_eq_true_eq,Bool.not_eq_true',decide_eq_false_iff_not];exact c),Wv n v (by omega) (by omega) (UW F),Ab]
   cases hf:AB v with
   | false=>rw [Ae (by rfl),Ae (.inr (.inr rfl))];exact a 8
   | true =>
    have K:v.kind=t.kind:=by
     by_cases q:v.kind=t.kind
     ·exact q
     ·exact absurd (.inr q) c
    have g:∀ k,(BH (!true) true t p k).bind (fun y=>some (y.1,y.2))=some (!JX k t,JX k t):=fun k=>by rw [Up];rfl
    rw [Af (by decide),Af (show ¬ ((t.kind<1∨10<t.kind)∨v.kind≠t.kind∨true=false) by rintro (q | q | q);exact c (.inl q);exact c (.inr q);cases q)]
    by_cases k2:t.kind=2
    ·rw [Ad k2,Ae rfl,Ae (.inl k2),BP,Ae rfl];exact g v.int
    rw [Ac k2,Af (by decide)]
    by_cases k6:t.kind=6
    ·rw [Ad k6,Ae rfl,Ae (.inr (.inl k6)),BP,Ae rfl];exact g v.int
    rw [Ac k6,Af (by decide)]
    by_cases k7:t.kind=7
    ·rw [Ad k7,Ae (.inr (.inr k7)),BP,Ae rfl];exact g v.int
    rw [Ac k7,Af (by omega),BP,Af (by decide)]
    by_cases k3:t.kind=3
    ·rw [Ad k3,Ae rfl,Ae k3]
     by_cases q:v.scale=t.scale
     ·rw [Ad q,Af (by decide),Bool.true_and];exact g v.int
     ·rw [Ac q,Ae (by rfl),Bool.false_and];exact a 3
    rw [Ac k3,Af (by decide),Af k3]
    by_cases k4:t.kind=4
    ·rw [Ad k4,Ae rfl,Ae k4,CL,Ae rfl,Ad k4,GA]
     by_cases q:t.words=[]
     ·rw [Ae q,q,Af (by decide)];exact g v.text.size
     ·have V:0<t.words.length:=List.length_pos_iff.2 q
      rw [Af q,Ae (by simp only [Bool.true_and,decide_eq_true_eq];omega),Js n _ t (by omega) (by omega),Ab]
      cases t.words.any fun x=>DR x v.text with
      | true=>rfl
      | false=>rw [Ae (by rfl)];exact a 4
    rw [Ac k4,Af (by decide),Af k4]
    by_cases k5:t.kind=5
    ·rw [Ad k5,Ae k5,CL,Ae rfl,Ac k4,Bool.false_and,Af (by decide)];exact g v.text.size
    rw [Ac k5,Af k5,CL,Af (by decide)]
    by_cases k8:t.kind=8
    ·rw [Ad k8,Ae rfl,Ae k8]
     have e:=Za (Cc n) n t v p (Dp d) (by omega) (by omega) (fun x m u E b s hs=>by
      have j:x∈t.elem:=by rw [m];simp
      exact Q7 d n x u s b (by have:=Ty.depth_elem j;omega) (by have:=t.elem_size x j;omega) (H x j) (C u E) (by have:=Vl.depth_list E;omega) (by omega) (by omega)) v.list.length n 0 (JX v.list.length t) (by omega) (by omega)
     rw [List.drop_zero] at e
     refine Eq.trans ?_ e
     exact congrArg (fun o=>Option.bind o fun y46:Bool × Bool=>BB (Cc n) n t v p n 0 y46.1 y46.2) (Up true t p v.list.length)
    rw [Ac k8,Af (by decide),Af k8]
    by_cases k9:t.kind=9
    ·rw [Ad k9,Ae rfl,Ae k9]
     have e:=Zh5 (Cc n) n t v p (Dp d) (by omega) (fun q i=>Il n q.2 (w q i).2 (by have:=Vl.depth_fld i;omega)) (by omega) (by omega) (by omega) (by omega) (by omega) (fun q i=>(w q i).1) (fun q i=>(r q i).1) (fun q i y G b s hs=>by
       obtain ⟨z,D,_,rfl⟩:=H6 G
       exact Q7 d n _ _ s b (by have:=Ty.depth_field i;omega) (by have:=t.field_size q i;omega) (r q i).2.1 (w z D).2 (by have:=Vl.depth_fld D;omega) (by omega) (by omega)) t.fields.length n 0 true (by omega) (by omega)
     rw [List.drop_zero,Bool.true_and] at e
     exact congrArg (fun o=>Option.bind o fun y70:Bool × Bool=>some (y70.1,y70.2)) e
    rw [Ac k9,Af (by decide),Af k9]
    by_cases k10:t.kind=10
    ·obtain ⟨x,m⟩:=List.length_eq_one_iff.1 (Jf hf (by omega))
     have l:x∈v.list:=by rw [m];simp
     have Y:(⟨#[63]⟩:ByteArray).size=1:=rfl
     rw [Ad k10,Ae rfl,Ae k10,KA n t v.text (by omega) (by omega),Ab,m]
     cases q:A5 t v.text with
     | none=>rw [Af (by decide)];exact a 7
     | some f =>
      have j:=(Bg q).1
      have e:=Q7 d n f.2.2.2.1 x ((p++(⟨#[63]⟩:ByteArray))++v.text) true (by have:=Ty.depth_field j;omega) (by have:=t.field_size f j;omega) (r f j).2.1 (C x l) (by have:=Vl.depth_list l;omega) (by omega) (by rw [J4,J4];omega)
      rw [Ae (by rfl),show Ci [x] 0=some x from rfl,Ab,Ae (by omega),Ae (by rw [J4];omega)]
      rw [Bool.true_and] at e
      exact congrArg (fun o=>Option.bind o fun y80:Bool × Bool=>some (y80.1,y80.2)) e
    ·rw [Ac k10,Af (by decide),Af k10]
theorem ZfT (n d:Nat) (t:Ty) (v:Vl) (hd:t.depth≤d) (hdd:d≤100) (ht:t.size≤200) (hto:t.ok) (hv:v.Nar) (hvs:v.depth+1000000000<n) (hn:2000000000+d<n):Ln n t v=some (Dp d t v):=by
 rw [Ln]
 have:=Q7 d n t v ⟨#[]⟩ true hd ht hto hv hvs hn (by have:(⟨#[]⟩:ByteArray).size=0:=rfl;omega)
 rw [Bool.true_and] at this
 exact congrArg (fun o=>Option.bind o fun y5:Bool × Bool=>some y5.2) this
inductive Ty.Fine:Nat→Ty→Prop
 | mk (d:Nat) (t:Ty) (own:Rh t=0) (he:∀ x∈t.elem,Ty.Fine d x) (hf:∀ p∈t.fields,Ty.Fine d p.2.2.2.1) (hd:∀ p∈t.fields,∀ v∈p.2.2.2.2,Oo v=0∧Ls 12 p.2.2.2.1 v=true):Ty.Fine (d+1) t
theorem Ty.Fine.depth:∀ (d:Nat) (t:Ty),t.Fine d→t.depth≤d
 | 0,t,h=>by cases h
 | d+1,t,h=>by
  cases h with
  | mk _ _ own he hf hd =>
   have b:=(Nu t.elem d).2 fun x a=>Ty.Fine.depth d x (he x a)
   have c:=(LO t.fields d).2 fun x a=>Ty.Fine.depth d _ (hf x a)
   have:=t.depth_eq
   omega
instance (k:IntKind) (n:Int):Decidable (inK k n):=by cases k<;>exact inferInstanceAs (Decidable (_∧_))
@[go_sem] theorem Zcc (n:Int):Ux (.val (.int .u8 n))=(0≤n∧n≤255):=rfl
@[go_sem] theorem Zhy:GZ []=(⟨#[]⟩:ByteArray):=rfl
@[go_sem] theorem ZfU (k:Nat):(∀ y∈List.replicate k (AV.val (.int .u8 0)),Ux y)↔True:=iff_true_intro fun y a=>by
 rw [List.eq_of_mem_replicate a,Zcc];omega
theorem Ty.Fine.own {d:Nat} {t:Ty} (h:t.Fine d):Rh t=0:=by cases h with | mk _ _ a _ _ _=>exact a
theorem Ty.Fine.good:∀ {d:Nat} {t:Ty},t.Fine d→t.Good
 | 0,t,h=>by cases h
 | d+1,t,h=>by
  cases h with
  | mk _ _ own he hf hd=>exact .mk t own (fun x a=>(he x a).good) fun p b=>(hf p b).good
theorem Ty.Fine.elem {d:Nat} {t x:Ty} (h:t.Fine (d+1)) (hx:x∈t.elem):x.Fine d:=by cases h with | mk _ _ _ a _ _=>exact a x hx
theorem Ty.Fine.field {d:Nat} {t:Ty} {p:TF} (h:t.Fine (d+1)) (hx:p∈t.fields):p.2.2.2.1.Fine d:=by cases h with | mk _ _ _ _ a _=>exact a p hx
theorem Ty.Fine.dfl {d:Nat} {t:Ty} {p:TF} (h:t.Fine (d+1)) (hx:p∈t.fields):∀ v∈p.2.2.2.2,Oo v=0∧Ls 12 p.2.2.2.1 v=true:=by cases h with | mk _ _ _ _ _ a=>exact a p hx
theorem Zb2 {v:Vl} (h:v.kind≠0):BJ v=false:=by
 rw [BJ,Ac h];simp
theorem ZaQ {v:Vl} (h:v.Good):1≤v.kind∧v.kind≤10:=by
 have:=(KJ (Iz h)).1
 omega
theorem FU (k:Int):∀ (l b:List TF),HG k b l=0→(l.map fun p=>p.2.1).Nodup∧∀ p∈l,∀ q∈b,q.2.1≠p.2.1
 | [],_,_=>⟨.nil,by simp⟩
 | x::r,b,h=>by
  rw [HG] at h
  by_cases q:J8 k b x=0
  rotate_left
  ·rw [Af q] at h;exact absurd h q
  rw [Ae q] at h
  obtain ⟨g,c⟩:=FU k r (b++[x]) h
  have f:∀ y∈b,y.2.1≠x.2.1:=by
   intro y a e
   unfold J8 at q
   by_cases c1:EU x.2.1=true
   ·rw [Ae c1] at q
    by_cases c2:¬ (1≤x.1∧x.1≤9999)
    ·rw [Ae c2] at q;exact absurd q (by decide)
    rw [Af c2,Ae (List.any_eq_true.2 ⟨y,a,by rw [Ed,(D5 _ _).2 e];simp⟩)] at q
    exact absurd q (by decide)
   ·rw [Af c1] at q;exact absurd q (by decide)
  refine ⟨List.nodup_cons.2 ⟨fun d=>?_,g⟩,fun p hp y a=>?_⟩
  ·obtain ⟨p,hp,e⟩:=List.mem_map.1 d
   exact c p hp x (by simp) e.symm
  ·rcases List.mem_cons.1 hp with rfl | hp
   ·exact f y a
   ·exact c p hp y (by simp [a])
theorem Ny {t:Ty} (hn:(t.fields.map fun p=>p.2.1).Nodup) {p:TF} (hp:p∈t.fields):A5 t p.2.1=some p:=by
 unfold A5
 revert hn hp
 generalize t.fields=l
 intro hn hp
 induction l with
 | nil=>simp at hp
 | cons x r ih =>
  rw [List.map_cons] at hn
  obtain ⟨a,b⟩:=List.nodup_cons.1 hn
  rw [List.find?_cons]
  rcases List.mem_cons.1 hp with rfl | hp
  ·rw [Eb]
  ·have:DR x.2.1 p.2.1=false:=by
    rw [Bool.eq_false_iff]
    intro q
    exact a (List.mem_map.2 ⟨p,hp,((D5 _ _).1 q).symm⟩)
   rw [this]
   exact ih b hp
def DV (b:Int):Bool :=
 (decide (b=2))||(decide (b=3))
theorem Q0 (w0:World) (B:List (List AV)) (Rw:List RowA) (L:List LoopA) (a0:Int) (r:Bool) (h:DV a0=r) :
  ACalls Tryz.prog w0 189 [.val (.int .i64 a0)] ⟨B,Rw,L⟩ fun x st=>x = .val (.bool r)∧st=⟨B,Rw,L⟩:=by
 rw [DV] at h
 refine hd [.tmp 2] Tryz.func189 Tryz.ntmps189 fun M0 W0 f b d a e c hs=>?_
 simp only [As]
 refine rg [0] hs ?_
 refine rg [2] hs ?_
 exact rT h hs a c
theorem Lh (w0:World) (B:List (List AV)) (Rw:List RowA) (L:List LoopA) (a0:Int) :
  ACalls Tryz.prog w0 189 [.val (.int .i64 a0)] ⟨B,Rw,L⟩ fun x st=>x = .val (.bool (DV a0))∧st=⟨B,Rw,L⟩:=Q0 w0 B Rw L a0 _ rfl
def Dt (g:Int) (b:Int):Bool :=
 (decide (g=b))||((DV g)&&(DV b))
theorem Uw (w0:World) (B:List (List AV)) (Rw:List RowA) (L:List LoopA) (a0:Int) (a1:Int) (r:Bool) (h:Dt a0 a1=r) :
  ACalls Tryz.prog w0 128 [.val (.int .i64 a0),.val (.int .i64 a1)] ⟨B,Rw,L⟩ fun x st=>x = .val (.bool r)∧st=⟨B,Rw,L⟩:=by
 rw [Dt] at h
 refine hd [.tmp 4] Tryz.func128 Tryz.ntmps128 fun M0 W0 g c e a f d hs=>?_
 simp only [As]
 refine rg [0,1] hs ?_
 refine rc 3 [4] hs ?_;intro K2 b
 refine EL _ (fun _=>Lh w0 _ _ _ a0) (hv hs) ?_
 refine nc hs ?_
 refine EL _ (fun _=>Lh w0 _ _ _ a1) (hv hs) ?_
 refine ne hs b ?_
 clear b
 exact rT h hs a d
theorem J0 (w0:World) (B:List (List AV)) (Rw:List RowA) (L:List LoopA) (a0:Int) (a1:Int) :
  ACalls Tryz.prog w0 128 [.val (.int .i64 a0),.val (.int .i64 a1)] ⟨B,Rw,L⟩ fun x st=>x = .val (.bool (Dt a0 a1))∧st=⟨B,Rw,L⟩:=Uw w0 B Rw L a0 a1 _ rfl
def Bo (g:Int) (b:Ty):Bool :=
 (decide (b.min≤g))&&(decide (g≤b.max))
theorem QM (w0:World) (B:List (List AV)) (Rw:List RowA) (L:List LoopA) (a0:Int) (a1:Ty) (r:Bool) (h:Bo a0 a1=r) :
  ACalls Tryz.prog w0 130 [.val (.int .i64 a0),.agg (a1.cs)] ⟨B,Rw,L⟩ fun x st=>x = .val (.bool r)∧st=⟨B,Rw,L⟩:=by
 rw [Bo] at h
 refine hd [.tmp 4] Tryz.func130 Tryz.ntmps130 fun M0 W0 f b d a e c hs=>?_
 simp only [As]
 refine rg [0,3] hs ?_
 refine rg [4] hs ?_
 exact rT h hs a c
theorem C7 (w0:World) (B:List (List AV)) (Rw:List RowA) (L:List LoopA) (a0:Int) (a1:Ty) :
  ACalls Tryz.prog w0 130 [.val (.int .i64 a0),.agg (a1.cs)] ⟨B,Rw,L⟩ fun x st=>x = .val (.bool (Bo a0 a1))∧st=⟨B,Rw,L⟩:=QM w0 B Rw L a0 a1 _ rfl
def Ba (rec:Ty→Ty→Vl→Option (Vl × Bool)) (n:Nat) (g:(List (ByteArray × Vl))→Int→Option (Vl × Bool)) (b:Int) (h:List (ByteArray × Vl)):Option (Vl × Bool) :=
 if B2 (b+1) then
  g h (b+1)
 else none
def Eg (rec:Ty→Ty→Vl→Option (Vl × Bool)) (n:Nat)  (b:List (ByteArray × Vl)):Option (Vl × Bool) :=
 (KP n b).bind fun g =>
 some ((g,true))
def AH (rec:Ty→Ty→Vl→Option (Vl × Bool)) (n:Nat) (a0:Ty) (s:Ty) (a2:Vl):Nat→(List (ByteArray × Vl))→Int→Option (Vl × Bool)
 | 0,_,_=>none
 | m+1,b,g =>
  if decide (g<(s.fields.length:Int)) then
   (Ci s.fields g).bind fun h =>
   (CY n a0.fields h.1).bind fun q =>
   (Hr n a2 q.1.2.1).bind fun y =>
   if q.2&&y.2 then
    (rec q.1.2.2.2.1 h.2.2.2.1 y.1).bind fun y23 =>
    if !y23.2 then
     some ((Vl.mk 0 0 0 ((⟨#[]⟩:ByteArray)) ([]) ([]),false))
    else
     if (b.length+1)*104≤140737488355328∧b.length+1≤4611686018427387904 then
      Ba rec n (AH rec n a0 s a2 m) g (b++([(h.2.1,y23.1)]))
     else none
   else
    if decide (h.2.2.1=1) then
     some ((Vl.mk 0 0 0 ((⟨#[]⟩:ByteArray)) ([]) ([]),false))
    else
     if decide (h.2.2.1=3) then
      (Ci h.2.2.2.2 0).bind fun x37 =>
      if (b.length+1)*104≤140737488355328∧b.length+1≤4611686018427387904 then
       Ba rec n (AH rec n a0 s a2 m) g (b++([(h.2.1,x37)]))
      else none
     else
      Ba rec n (AH rec n a0 s a2 m) g b
  else
   Eg rec n b
def Eu (rec:Ty→Ty→Vl→Option (Vl × Bool)) (n:Nat) (h:Ty) (b:Ty) (g:Vl):Option (Vl × Bool) :=
 AH rec n h b g n ([]) 0
theorem Nk (w0:World) (rec:Ty→Ty→Vl→Option (Vl × Bool)) (ih:∀ (B:List (List AV)) (Rw:List RowA) (L:List LoopA) (a0:Ty) (a1:Ty) (a2:Vl) (r:Vl × Bool) (h:rec a0 a1 a2=some r),ACalls Tryz.prog w0 79 [.agg (a0.cs),.agg (a1.cs),.agg (a2.cs)] ⟨B,Rw,L⟩ fun x st=>x = .tup [.agg (r.1.cs),.val (.bool r.2)]∧st=⟨B,Rw,L⟩) (n:Nat) (B:List (List AV)) (Rw:List RowA) (L:List LoopA) (a0:Ty) (a1:Ty) (a2:Vl) (r:Vl × Bool) (h:Eu rec n a0 a1 a2=some r) :
  ACalls Tryz.prog w0 132 [.agg (a0.cs),.agg (a1.cs),.agg (a2.cs)] ⟨B,Rw,L⟩ fun x st=>x = .tup [.agg (r.1.cs),.val (.bool r.2)]∧st=⟨B,Rw,L⟩:=by
 rw [Eu] at h
 refine hd [.cell 6 46,.tmp 7] Tryz.func132 Tryz.ntmps132 fun M0 W0 hN Q N o hu q hs=>?_
 simp only [As]
 refine rg [3,4,5,6] hs ?_
 refine rg [3,4,5,6,8] hs ?_
 refine Au (fun e st=>∃ (p:List (ByteArray × Vl)) (t:Ev.Own),Ck e st B Rw L [(6,true,.box (B.length+3) 0),(8,true,.list (p.map Cf) t)] [a0.cs,a1.cs,a2.cs,[.val (.int .i64 0),.val (.int .i64 0),.val (.int .i64 0),.val (.string ((⟨#[]⟩:ByteArray))),.list ([]) .full,.list ([]) .full]] [(7,p.length,t)] (Eg rec n p=some r)) ?_ ?_
 ·intro K5 ao
  refine rg [3,5,6,8,18,19,20] hs ?_
  apply Ak
  refine Az (fun m e st=>∃ (a:List (ByteArray × Vl)) (d:Int) (j:Ev.Own),Ck e st B Rw L [(3,true,.box B.length 0),(5,true,.box (B.length+2) 0),(6,true,.box (B.length+3) 0),(8,true,.list (a.map Cf) j),(18,true,.list (a1.fields.map CJ) .none),(19,true,.val (.int .i64 (a1.fields.length:Int))),(20,true,.val (.int .i64 d))] [a0.cs,a1.cs,a2.cs,[.val (.int .i64 0),.val (.int .i64 0),.val (.int .i64 0),.val (.string ((⟨#[]⟩:ByteArray))),.list ([]) .full,.list ([]) .full]] [(7,a.length,j)] (AH rec n a0 a1 a2 m a d=some r)) n ⟨([]),0,.full,([]),Rw,ef hs,ef hs,Owns.of_eq ((q).full 7 0) F6,h⟩ ?_
  rintro ml7 e st ⟨a,d,j,Xl7,Rl7,rfl,rfl,q,h⟩ Ul7 Vl7
  cases ml7 with
  | zero=>cases h
  | succ ml7 =>
  rw [AH] at h
  have hU:=q.unders
  simp only [List.mem_cons,List.not_mem_nil,or_false,forall_eq_or_imp,forall_eq] at hU
  refine td hN Q N o q ?_
  refine rg [3,5,6,8,18,19,20,21] hs ?_
  apply Ah;intro K9 ad
  refine AK h hs (fun hs h=>?_) (fun hs h=>?_)
  rotate_left
  ·refine sx [6,8] hs ao ?_
   exact ⟨a,j,([]),Rl7,ef hs,ef hs,Owns.of_eq (q) F6,h⟩
  refine sk [3,5,6,8,18,19,20] hs ad ?_
  clear ad
  refine Au (fun e st=>∃ (g:List (ByteArray × Vl)) (i:Ev.Own),Ck e st B Rw L [(3,true,.box B.length 0),(5,true,.box (B.length+2) 0),(6,true,.box (B.length+3) 0),(8,true,.list (g.map Cf) i),(18,true,.list (a1.fields.map CJ) .none),(19,true,.val (.int .i64 (a1.fields.length:Int))),(20,true,.val (.int .i64 d))] [a0.cs,a1.cs,a2.cs,[.val (.int .i64 0),.val (.int .i64 0),.val (.int .i64 0),.val (.string ((⟨#[]⟩:ByteArray))),.list ([]) .full,.list ([]) .full]] [(7,g.length,i)] (Ba rec n (AH rec n a0 a1 a2 ml7) d g=some r)) ?_ ?_
  ·intro K13 v
   apply Ak
   obtain ⟨b,Z,h⟩:=bind_some h
   obtain ⟨ah,ai,U⟩:=Aw Z
   have V:=Ax (f:=CJ) U
   have hs:=Aa V hs
   refine rg [3,5,6,8,10,18,19,20] hs ?_
   obtain ⟨c,Y,h⟩:=bind_some h
   refine rc 2 [3,5,6,8,10,11,12,18,19,20] hs ?_;intro K16 E
   refine Ai _ (EH w0 n _ _ _ a0.fields b.1 _ Y) (hv hs) ?_
   refine ne hs E ?_
   clear E
   obtain ⟨z,af,h⟩:=bind_some h
   refine rc 2 [3,5,6,8,10,11,12,13,14,18,19,20] hs ?_;intro K18 K
   refine Ai _ (Qn w0 n _ _ _ a2 c.1.2.1 _ af) (hv hs) ?_
   refine ne hs K ?_
   clear K
   apply Ak
   refine rg [3,5,6,8,10,11,13,18,19,20,39] hs ?_
   refine AK h hs (fun hs h=>?_) (fun hs h=>?_)
   ·obtain ⟨ab,aa,h⟩:=bind_some h
    refine rc 2 [3,5,6,8,10,15,16,18,19,20] hs ?_;intro K22 D
    refine Ai _ (ih _ _ _ c.1.2.2.2.1 b.2.2.2.1 z.1 _ aa) (hv hs) ?_
    refine ne hs D ?_
    clear D
    apply Ah;intro K24 H
    refine rg [3,5,6,8,10,15,18,19,20,54] hs ?_
    refine AK h hs (fun hs h=>?_) (fun hs h=>?_)
    ·refine rg [6,7] hs ?_
     exact rt h hs o q
    refine sk [3,5,6,8,10,15,18,19,20] hs H ?_
    clear H
    obtain ⟨F,h⟩:=Aj h
    obtain ⟨aj,w,q,l⟩:=q.append (P:=Tryz.prog) Qk (by rw [KV];rfl) (by decide) 1 F.1 F.2
    replace l:=fun (ys:List AV) B L o2=>l (a.map Cf) ys B L o2 F6
    replace l:=fun (y:AV) B L o2=>l [y] B L o2 F6 ev
    try simp only [List.mem_singleton,List.mem_cons,List.not_mem_nil,or_false,forall_eq_or_imp,forall_eq,List.map_append,List.map_cons,List.map_nil,HM,HO,HN,HK,HI,Hk,FB,FD,HL,Ec,D7,Fv,Fp,Fj] at l
    have hs:=Aa l hs
    refine rl [3,5,6,8,18,19,20] hs v ?_
    exact ⟨(a++([(b.2.1,ab.1)])),aj,([.val (.int .i64 b.1)::(.val (.string b.2.1)::(.val (.int .i64 b.2.2.1)::((b.2.2.2.1.cs)++([.list (b.2.2.2.2.map Bq) .none])))),.val (.int .i64 c.1.1)::(.val (.string c.1.2.1)::(.val (.int .i64 c.1.2.2.1)::((c.1.2.2.2.1.cs)++([.list (c.1.2.2.2.2.map Bq) .none])))),z.1.cs,ab.1.cs]),w,ef hs,ef hs,Owns.of_eq (q) F6,h⟩
   refine rg [3,5,6,8,10,18,19,20,63] hs ?_
   refine AK h hs (fun hs h=>?_) (fun hs h=>?_)
   ·refine rg [6,7] hs ?_
    exact rt h hs o q
   refine rg [3,5,6,8,10,18,19,20,68] hs ?_
   refine AK h hs (fun hs h=>?_) (fun hs h=>?_)
   ·obtain ⟨am,ap,ak,u,h⟩:=ix Bq h
    have O:(b.2.2.2.2.map Bq).getD 0 .junk=_:=u
    obtain ⟨J,h⟩:=Aj h
    obtain ⟨ag,C,q,k⟩:=q.append (P:=Tryz.prog) Qk (by rw [KV];rfl) (by decide) 1 J.1 J.2
    replace k:=fun (ys:List AV) B L o2=>k (a.map Cf) ys B L o2 F6
    replace k:=fun (y:AV) B L o2=>k [y] B L o2 F6 ev
    try simp only [List.mem_singleton,List.mem_cons,List.not_mem_nil,or_false,forall_eq_or_imp,forall_eq,List.map_append,List.map_cons,List.map_nil,HM,HO,HN,HK,HI,Hk,FB,FD,HL,Ec,D7,Fv,Fp,Fj] at k
    have hs:=Aa u hs
    have hs:=Aa O hs
    have hs:=Aa k hs
    refine dl 9 1 1 [3,5,6,8,18,19,20] hs HD v ?_
    exact ⟨(a++([(b.2.1,am)])),ag,([.val (.int .i64 b.1)::(.val (.string b.2.1)::(.val (.int .i64 b.2.2.1)::((b.2.2.2.1.cs)++([.list (b.2.2.2.2.map Bq) .none])))),.val (.int .i64 c.1.1)::(.val (.string c.1.2.1)::(.val (.int .i64 c.1.2.2.1)::((c.1.2.2.2.1.cs)++([.list (c.1.2.2.2.2.map Bq) .none])))),z.1.cs]),C,ef hs,ef hs,Owns.of_eq (q) F6,h⟩
   refine sk [3,5,6,8,18,19,20] hs v ?_
   exact ⟨a,j,([.val (.int .i64 b.1)::(.val (.string b.2.1)::(.val (.int .i64 b.2.2.1)::((b.2.2.2.1.cs)++([.list (b.2.2.2.2.map Bq) .none])))),.val (.int .i64 c.1.1)::(.val (.string c.1.2.1)::(.val (.int .i64 c.1.2.2.1)::((c.1.2.2.2.1.cs)++([.list (c.1.2.2.2.2.map Bq) .none])))),z.1.cs]),Rl7,ef hs,ef hs,Owns.of_eq (q) F6,h⟩
  ·clear h;rintro e st ⟨g,i,Xk12,Rk12,rfl,rfl,q,h⟩
   rw [Ba] at h
   have hU:=q.unders
   simp only [List.mem_cons,List.not_mem_nil,or_false,forall_eq_or_imp,forall_eq] at hU
   refine td hN Q N o q ?_
   obtain ⟨aq,h⟩:=Aj h
   refine rl [3,5,6,8,18,19,20] hs (fun e s=>Vl7 ml7 e s (Nat.lt_succ_self _)) ?_
   exact ⟨g,(d+1),i,([]),Rk12,ef hs,ef hs,Owns.of_eq (q) F6,h⟩
 ·clear h;rintro e st ⟨p,t,Xk4,Rk4,rfl,rfl,q,h⟩
  rw [Eg] at h
  have hU:=q.unders
  simp only [List.mem_cons,List.not_mem_nil,or_false,forall_eq_or_imp,forall_eq] at hU
  refine td hN Q N o q ?_
  obtain ⟨ar,ae,h⟩:=bind_some h
  refine rc 2 [6,7] hs ?_;intro K43 G
  refine Ai _ (YQ w0 n _ _ _ p _ ae) (hv hs) ?_
  refine ne hs G ?_
  clear G
  exact rt h hs o q
def Gn (rec:Ty→Ty→Vl→Option (Vl × Bool)) (n:Nat) (b:Ty) (g:Vl) (b4_k41_4:List Vl):Option (Vl × Bool) :=
 some ((Vl.mk 8 0 0 ((⟨#[]⟩:ByteArray)) b4_k41_4 ([]),Bo (g.list.length:Int) b))
def GT (rec:Ty→Ty→Vl→Option (Vl × Bool)) (n:Nat) (b:Vl):Option (Vl × Bool) :=
 some ((b,true))
def C9 (rec:Ty→Ty→Vl→Option (Vl × Bool)) (n:Nat) (a0:Ty) (q:Ty) (h:Vl):Nat→Int→(List Vl)→Option (Vl × Bool)
 | 0,_,_=>none
 | m+1,b,b4_l44_4 =>
  if decide (b<(h.list.length:Int)) then
   (Ci h.list b).bind fun y =>
   (Ci a0.elem 0).bind fun s =>
   (Ci q.elem 0).bind fun x53 =>
   (rec s x53 y).bind fun g =>
   if !g.2 then
    some ((Vl.mk 0 0 0 ((⟨#[]⟩:ByteArray)) ([]) ([]),false))
   else
    if (b4_l44_4.length+1)*88≤140737488355328∧b4_l44_4.length+1≤4611686018427387904 then
     if B2 (b+1) then
      (C9 rec n a0 q h m) (b+1) (b4_l44_4++([g.1]))
     else none
    else none
  else
   Gn rec n q h b4_l44_4
def BL (rec:Ty→Ty→Vl→Option (Vl × Bool)) (n:Nat) (a0:Ty) (b:Ty) (g:Vl) (h:Bool):Option (Vl × Bool) :=
 if h then
  some ((g,Bo g.int b))
 else
  if decide (b.kind=5) then
   some ((g,Bo (g.text.size:Int) b))
  else
   if decide (b.kind=4) then
    if decide (0<(b.words.length:Int)) then
     (BG n b.words g.text).bind fun y35 =>
     some ((g,y35))
    else
     some ((g,Bo (g.text.size:Int) b))
   else
    if decide (b.kind=8) then
     C9 rec n a0 b g n 0 ([])
    else
     if decide (b.kind=9) then
      (Eu rec n a0 b g).bind fun y =>
      some ((y.1,y.2))
     else
      if decide (b.kind=10) then
       (Jc n a0 g.text).bind fun s =>
       (CY n b.fields s.1.1).bind fun q =>
       if !q.2 then
        some ((Vl.mk 0 0 0 ((⟨#[]⟩:ByteArray)) ([]) ([]),false))
       else
        (Ci g.list 0).bind fun x80 =>
        (rec s.1.2.2.2.1 q.1.2.2.2.1 x80).bind fun y81 =>
        (JA n q.1.2.1 y81.1).bind fun y83 =>
        some ((y83,y81.2))
      else
       GT rec n g 
def BI (rec:Ty→Ty→Vl→Option (Vl × Bool)) (n:Nat) (q:Ty) (g:Ty) (s:Vl) (b:Bool):Option (Vl × Bool) :=
 if b then
  (Dl n s.int q.scale g.scale).bind fun h =>
  some ((Vl.mk g.kind h.1 g.scale ((⟨#[]⟩:ByteArray)) ([]) ([]),h.2&&(Bo h.1 g)))
 else
  if decide (g.kind=6) then
   BL rec n q g s true
  else
   BL rec n q g s (decide (g.kind=7))
def FP (rec:Ty→Ty→Vl→Option (Vl × Bool)) (n:Nat) (g:Ty) (b:Ty) (h:Vl):Option (Vl × Bool) :=
 if !(Dt g.kind b.kind) then
  some ((Vl.mk 0 0 0 ((⟨#[]⟩:ByteArray)) ([]) ([]),false))
 else
  if decide (b.kind=2) then
   BI rec n g b h true
  else
   BI rec n g b h (decide (b.kind=3))
def AM:Nat→Ty→Ty→Vl→Option (Vl × Bool)
 | 0,_,_,_=>none
 | n+1,h,b,g=>FP (AM n) n h b g
def I8 (w0:World) (F:Ty→Ty→Vl→Option (Vl × Bool)):Prop:=∀ (B:List (List AV)) (Rw:List RowA) (L:List LoopA) (h:Ty) (b:Ty) (g:Vl) (r:Vl × Bool),F h b g=some r→ACalls Tryz.prog w0 79 [.agg (h.cs),.agg (b.cs),.agg (g.cs)] ⟨B,Rw,L⟩ fun x st=>x = .tup [.agg (r.1.cs),.val (.bool r.2)]∧st=⟨B,Rw,L⟩
theorem PN (w0:World) (rec:Ty→Ty→Vl→Option (Vl × Bool)) (ih:I8 w0 rec) (n:Nat):I8 w0 (FP rec n):=by
 intro B Rw L a0 a1 a2 r h
 rw [FP] at h
 refine hd [.cell 6 46,.tmp 7] Tryz.func79 Tryz.ntmps79 fun M0 W0 hN Y V b hu C hs=>?_
 simp only [As]
 refine rg [3,4,5,6] hs ?_
 apply Ah;intro K2 a8
 refine rc 2 [3,4,5,6,25] hs ?_;intro K3 bd
 refine Ai _ (J0 w0 _ _ _ a0.kind a1.kind) (hv hs) ?_
 refine ne hs bd ?_
 clear bd
 refine AK h hs (fun hs h=>?_) (fun hs h=>?_)
 ·have l:=hs.1
  refine rg [6,7] hs ?_
  exact rt h hs b C
 have l:=hs.1
 refine sk [3,4,5,6] hs a8 ?_
 clear a8
 refine Au (fun e st=>Ck e st B Rw L [(5,true,.box (B.length+2) 0),(6,true,.box (B.length+3) 0)] [a0.cs,a1.cs,a2.cs,[.val (.int .i64 0),.val (.int .i64 0),.val (.int .i64 0),.val (.string ((⟨#[]⟩:ByteArray))),.list ([]) .full,.list ([]) .full]] [] (GT rec n a2  = some r)) ?_ ?_
 ·intro K8 bp
  refine rg [3,4,5,6,28] hs ?_
  apply Ak
  refine Au (fun e st=>∃ (N:Bool),Ck e st B Rw L [(3,true,.box B.length 0),(4,true,.box (B.length+1) 0),(5,true,.box (B.length+2) 0),(6,true,.box (B.length+3) 0),(28,true,.val (.int .i64 a1.kind)),(29,true,.val (.bool N))] [a0.cs,a1.cs,a2.cs,[.val (.int .i64 0),.val (.int .i64 0),.val (.int .i64 0),.val (.string ((⟨#[]⟩:ByteArray))),.list ([]) .full,.list ([]) .full]] [] (BI rec n a0 a1 a2 N=some r)) ?_ ?_
  ·intro K12 az
   refine rg [3,4,5,6,28,29] hs ?_
   refine AK h hs (fun hs h=>?_) (fun hs h=>?_)
   ·refine sk [3,4,5,6,28,29] hs az ?_
    exact ⟨true,([]),Rw,ef hs,ef hs,C,h⟩
   refine rl [3,4,5,6,28,29] hs az ?_
   exact ⟨(decide (a1.kind=3)),([]),Rw,ef hs,ef hs,C,h⟩
  ·clear h;rintro e st ⟨N,Xk11,Rk11,rfl,rfl,C,h⟩
   rw [BI] at h
   refine td hN Y V b C ?_
   refine AK h hs (fun hs h=>?_) (fun hs h=>?_)
   ·have a:=hs.1
    obtain ⟨bu,a5,h⟩:=bind_some h
    refine rc 2 [4,6,8,9] hs ?_;intro K16 ar
    refine Ai _ (IC w0 n _ _ _ a2.int a0.scale a1.scale _ a5) (hv hs) ?_
    refine ne hs ar ?_
    clear ar
    apply Ah;intro K18 ad
    apply Ju HD [12] [6,7] kr (fun s=>∃ (X:List (List AV)) (rows:List RowA) (c3:List AV),s=⟨B++([a0.cs,a1.cs,a2.cs,c3]++X),rows,L⟩) 2 (B.length+4)
    ·simp +decide only [go_sem,Nat.reduceAdd]
    ·rintro s ⟨X,rows,c3,rfl⟩
     refine ⟨2,?_⟩
     rw [Am];simp +decide only [go_sem,Nat.reduceAdd,EM,and_self,imp_self,l,a]
     (repeat' apply Aa)<;>first | refine EL _ (fun _=>C7 w0 _ _ _ bu.1 a1) (hv hs) ?_ | exact cl
     rw [Am];simp +decide only [go_sem,Nat.reduceAdd,and_self,imp_self,l,a]
     (repeat' apply Aa)<;>first | rfl | exact cl
    ·refine Good.mk [12] kr ⟨[],_,_,by first | rfl | simp only [List.append_nil,List.nil_append]⟩ ?_ ?_
     ·intro h;exact absurd h (by decide)
     ·intro i hi;simp only [List.mem_cons,List.not_mem_nil,or_false] at hi
      subst hi
      ·apply DG rfl rfl ev
       ·simp +decide only [go_sem,Nat.reduceAdd,FT,l,a]
        (repeat' apply Aa)<;>first | rfl | exact cl
       ·simp +decide only [go_sem,Nat.reduceAdd,l,a]
        refine Good.mk [] kr ⟨[],_,_,by first | rfl | simp only [List.append_nil,List.nil_append]⟩ ?_ ?_
        ·intro _;apply DF [6,7];first | (simp +decide only [go_sem,Nat.reduceAdd,and_self,imp_self,l,a];done) | (simp +decide only [go_sem,Nat.reduceAdd,and_self,imp_self,l,a];rfl)
        ·intro i hi;cases hi
    simp +decide only [go_sem,Nat.reduceAdd,and_self,imp_self,l,a]
    (repeat' apply Aa)<;>first | refine ad _ _ ?_ | exact cl
    clear ad
    exact rt h hs b C
   have a:=hs.1
   refine Au (fun e st=>∃ (O:Bool),Ck e st B Rw L [(3,true,.box B.length 0),(4,true,.box (B.length+1) 0),(5,true,.box (B.length+2) 0),(6,true,.box (B.length+3) 0),(28,true,.val (.int .i64 a1.kind)),(54,true,.val (.bool O))] [a0.cs,a1.cs,a2.cs,[.val (.int .i64 0),.val (.int .i64 0),.val (.int .i64 0),.val (.string ((⟨#[]⟩:ByteArray))),.list ([]) .full,.list ([]) .full]] [] (BL rec n a0 a1 a2 O=some r)) ?_ ?_
   ·intro K21 af
    refine rg [3,4,5,6,28,54] hs ?_
    refine AK h hs (fun hs h=>?_) (fun hs h=>?_)
    ·refine sk [3,4,5,6,28,54] hs af ?_
     exact ⟨true,([]),Rk11,ef hs,ef hs,C,h⟩
    refine rl [3,4,5,6,28,54] hs af ?_
    exact ⟨(decide (a1.kind=7)),([]),Rk11,ef hs,ef hs,C,h⟩
   ·clear h;rintro e st ⟨O,Xk20,Rk20,rfl,rfl,C,h⟩
    rw [BL] at h
    refine td hN Y V b C ?_
    refine AK h hs (fun hs h=>?_) (fun hs h=>?_)
    ·have d:=hs.1
     apply Ah;intro K25 aj
     refine dk 5 2 1 [6,7] hs HD ?_
     refine Ai _ (C7 w0 _ _ _ a2.int a1) (hv hs) ?_
     refine dn hs aj ?_
     clear aj
     exact rt h hs b C
    have d:=hs.1
    refine rg [3,4,5,6,28,62] hs ?_
    refine AK h hs (fun hs h=>?_) (fun hs h=>?_)
    ·have g:=hs.1
     apply Ah;intro K28 ap
     refine dk 6 2 1 [6,7] hs HD ?_
     refine Ai _ (C7 w0 _ _ _ (a2.text.size:Int) a1) (hv hs) ?_
     refine dn hs ap ?_
     clear ap
     exact rt h hs b C
    have g:=hs.1
    refine rg [3,4,5,6,28,70] hs ?_
    refine AK h hs (fun hs h=>?_) (fun hs h=>?_)
    ·have j:=hs.1
     apply Ah;intro K31 aw
     refine rg [4,5,6,75] hs ?_
     refine AK h hs (fun hs h=>?_) (fun hs h=>?_)
     ·obtain ⟨b1,be,h⟩:=bind_some h
      apply Ah;intro K34 ab
      refine dk 6 2 1 [6,7] hs HD ?_
      refine Ai _ (ER w0 n _ _ _ a1.words a2.text _ be) (hv hs) ?_
      refine dn hs ab ?_
      clear ab
      exact rt h hs b C
     refine sk [4,5,6] hs aw ?_
     clear aw
     apply Ah;intro K36 aa
     refine dk 6 2 1 [6,7] hs HD ?_
     refine Ai _ (C7 w0 _ _ _ (a2.text.size:Int) a1) (hv hs) ?_
     refine dn hs aa ?_
     clear aa
     exact rt h hs b C
    have j:=hs.1
    refine rg [3,4,5,6,28,88] hs ?_
    refine AK h hs (fun hs h=>?_) (fun hs h=>?_)
    ·have k:=hs.1
     refine rg [3,4,5,6,10] hs ?_
     refine Au (fun e st=>∃ (z:List Vl) (H:Ev.Own),Ck e st B Rw L [(4,true,.box (B.length+1) 0),(5,true,.box (B.length+2) 0),(6,true,.box (B.length+3) 0),(10,true,.box (B.length+4) 0)] [a0.cs,a1.cs,a2.cs,[.val (.int .i64 0),.val (.int .i64 0),.val (.int .i64 0),.val (.string ((⟨#[]⟩:ByteArray))),.list ([]) .full,.list ([]) .full],[.val (.int .i64 8),.val (.int .i64 0),.val (.int .i64 0),.val (.string ((⟨#[]⟩:ByteArray))),.list (z.map Bq) H,.list ([]) .full]] [(6,z.length,H)] (Gn rec n a1 a2 z=some r)) ?_ ?_
     ·intro K42 bg
      refine rg [3,4,5,6,10,92,93,94] hs ?_
      apply Ak
      refine Az (fun m e st=>∃ (J:Int) (c:List Vl) (t:Ev.Own),Ck e st B Rw L [(3,true,.box B.length 0),(4,true,.box (B.length+1) 0),(5,true,.box (B.length+2) 0),(6,true,.box (B.length+3) 0),(10,true,.box (B.length+4) 0),(92,true,.list (a2.list.map Bq) .none),(93,true,.val (.int .i64 (a2.list.length:Int))),(94,true,.val (.int .i64 J))] [a0.cs,a1.cs,a2.cs,[.val (.int .i64 0),.val (.int .i64 0),.val (.int .i64 0),.val (.string ((⟨#[]⟩:ByteArray))),.list ([]) .full,.list ([]) .full],[.val (.int .i64 8),.val (.int .i64 0),.val (.int .i64 0),.val (.string ((⟨#[]⟩:ByteArray))),.list (c.map Bq) t,.list ([]) .full]] [(6,c.length,t)] (C9 rec n a0 a1 a2 m J c=some r)) n ⟨0,([]),.full,([]),Rk20,ef hs,ef hs,Owns.of_eq ((C).full 6 0) F6,h⟩ ?_
      rintro ml44 e st ⟨J,c,t,Xl44,Rl44,rfl,rfl,C,h⟩ Ul44 Vl44
      cases ml44 with
      | zero=>cases h
      | succ ml44 =>
      rw [C9] at h
      have hU:=C.unders
      simp only [List.mem_cons,List.not_mem_nil,or_false,forall_eq_or_imp,forall_eq] at hU
      refine td hN Y V b C ?_
      refine rg [3,4,5,6,10,92,93,94,95] hs ?_
      apply Ah;intro K46 ay
      refine AK h hs (fun hs h=>?_) (fun hs h=>?_)
      rotate_left
      ·have E:=hs.1
       refine sx [4,5,6,10] hs bg ?_
       exact ⟨c,t,([]),Rl44,ef hs,ef hs,Owns.of_eq (C) F6,h⟩
      have E:=hs.1
      refine sk [3,4,5,6,10,92,93,94] hs ay ?_
      clear ay
      apply Ah;intro K48 ah
      apply Ak
      obtain ⟨a4,ba,h⟩:=bind_some h
      obtain ⟨bm,bn,a3⟩:=Aw ba
      have x:=Ax (f:=Bq) a3
      have hs:=Aa x hs
      refine rg [3,4,5,6,10,12,92,93,94] hs ?_
      apply Ah;intro K51 ao
      obtain ⟨bq,bk,bo,q,h⟩:=ix HE h
      have w:(a0.elem.map HE).getD 0 .junk=_:=q
      obtain ⟨bi,bl,bj,o,h⟩:=ix HE h
      have u:(a1.elem.map HE).getD 0 .junk=_:=o
      obtain ⟨bb,a7,h⟩:=bind_some h
      apply Ju HD [13,14] [3,4,5,6,10,13,14,92,93,94] kr (fun s=>∃ (X:List (List AV)) (rows:List RowA),s=⟨B++([a0.cs,a1.cs,a2.cs,[.val (.int .i64 0),.val (.int .i64 0),.val (.int .i64 0),.val (.string ((⟨#[]⟩:ByteArray))),.list ([]) .full,.list ([]) .full],[.val (.int .i64 8),.val (.int .i64 0),.val (.int .i64 0),.val (.string ((⟨#[]⟩:ByteArray))),.list (c.map Bq) t,.list ([]) .full],a4.cs]++X),rows,L⟩) 3 (B.length+6)
      ·simp +decide only [go_sem,Nat.reduceAdd]
      ·rintro s ⟨X,rows,rfl⟩
       refine ⟨2,?_⟩
       rw [Am];simp +decide only [go_sem,Nat.reduceAdd,EM,l,a,d,g,j,k,E,x,q,w,o,u]
       have hs:=Aa q hs
       have hs:=Aa w hs
       have hs:=Aa o hs
       have hs:=Aa u hs
       (repeat' apply Aa)<;>first | refine Ai _ (ih _ _ _ bq bi a4 _ a7) (hv hs) ?_ | exact cl
       rw [Am];simp +decide only [go_sem,Nat.reduceAdd,l,a,d,g,j,k,E,x,q,w,o,u]
       (repeat' apply Aa)<;>first | rfl | exact cl
      ·refine Good.mk [13] kr ⟨[],_,by first | rfl | simp only [List.append_nil,List.nil_append]⟩ ?_ ?_
       ·intro h;exact absurd h (by decide)
       ·intro i hi;simp only [List.mem_cons,List.not_mem_nil,or_false] at hi
        subst hi
        ·apply DG rfl rfl ev
         ·simp +decide only [go_sem,Nat.reduceAdd,FT,l,a,d,g,j,k,E,x,q,w,o,u]
          (repeat' apply Aa)<;>first | rfl | exact cl
         ·simp +decide only [go_sem,Nat.reduceAdd,l,a,d,g,j,k,E,x,q,w,o,u]
          refine Good.mk [14] kr ⟨_,_,by first | rfl | simp only [List.append_nil,List.nil_append]⟩ ?_ ?_
          ·intro h;exact absurd h (by decide)
          ·intro i hi;simp only [List.mem_cons,List.not_mem_nil,or_false] at hi
           subst hi
           ·apply DG rfl rfl ev
            ·simp +decide only [go_sem,Nat.reduceAdd,FT,l,a,d,g,j,k,E,x,q,w,o,u]
             (repeat' apply Aa)<;>first | rfl | exact cl
            ·simp +decide only [go_sem,Nat.reduceAdd,l,a,d,g,j,k,E,x,q,w,o,u]
             refine Good.mk [] kr ⟨_,_,by first | rfl | simp only [List.append_nil,List.nil_append]⟩ ?_ ?_
             ·intro _;apply DF [3,4,5,6,10,13,14,92,93,94];first | (simp +decide only [go_sem,Nat.reduceAdd,l,a,d,g,j,k,E,x,q,w,o,u];done) | (simp +decide only [go_sem,Nat.reduceAdd,l,a,d,g,j,k,E,x,q,w,o,u];rfl)
             ·intro i hi;cases hi
      simp +decide only [go_sem,Nat.reduceAdd,l,a,d,g,j,k,E,x,q,w,o,u]
      (repeat' apply Aa)<;>first | refine ao _ _ ?_ | exact cl
      clear ao
      apply Ah;intro K55 au
      have hs:=Aa q hs
      have hs:=Aa w hs
      have hs:=Aa o hs
      have hs:=Aa u hs
      refine rg [3,4,5,6,10,13,92,93,94,112] hs ?_
      refine AK h hs (fun hs h=>?_) (fun hs h=>?_)
      ·refine rg [6,7] hs ?_
       exact rt h hs b C
      refine sk [3,4,5,6,10,13,92,93,94] hs au ?_
      clear au
      obtain ⟨ae,h⟩:=Aj h
      obtain ⟨bv,Z,C,K⟩:=C.append (P:=Tryz.prog) Vv (by rw [OU];rfl) (by decide) 1 ae.1 ae.2
      replace K:=fun (ys:List AV) B L o2=>K (c.map Bq) ys B L o2 F6
      replace K:=fun (y:AV) B L o2=>K [y] B L o2 F6 ev
      try simp only [List.mem_singleton,List.mem_cons,List.not_mem_nil,or_false,forall_eq_or_imp,forall_eq,List.map_append,List.map_cons,List.map_nil,HM,HO,HN,HK,HI,Hk,FB,FD,HL,Ec,D7,Fv,Fp,Fj] at K
      have hs:=Aa K hs
      refine rl [3,4,5,6,10,92,93,94] hs ah ?_
      clear ah
      obtain ⟨bx,h⟩:=Aj h
      refine rl [3,4,5,6,10,92,93,94] hs (fun e s=>Vl44 ml44 e s (Nat.lt_succ_self _)) ?_
      exact ⟨(J+1),(c++([bb.1])),bv,([a4.cs,bb.1.cs]),Z,ef hs,ef hs,Owns.of_eq (C) F6,h⟩
     ·clear h;rintro e st ⟨z,H,Xk41,Rk41,rfl,rfl,C,h⟩
      rw [Gn] at h
      have hU:=C.unders
      simp only [List.mem_cons,List.not_mem_nil,or_false,forall_eq_or_imp,forall_eq] at hU
      refine td hN Y V b C ?_
      apply Ah;intro K64 av
      refine dk 6 2 1 [6,7] hs HD ?_
      refine Ai _ (C7 w0 _ _ _ (a2.list.length:Int) a1) (hv hs) ?_
      refine dn hs av ?_
      clear av
      exact rt h hs b C
    have k:=hs.1
    refine rg [3,4,5,6,28,127] hs ?_
    refine AK h hs (fun hs h=>?_) (fun hs h=>?_)
    ·have G:=hs.1
     obtain ⟨b0,bf,h⟩:=bind_some h
     refine rc 2 [6,7] hs ?_;intro K67 ax
     refine Ai _ (Nk w0 rec ih n _ _ _ a0 a1 a2 _ bf) (hv hs) ?_
     refine ne hs ax ?_
     clear ax
     exact rt h hs b C
    have G:=hs.1
    refine rg [3,4,5,6,135] hs ?_
    refine AK h hs (fun hs h=>?_) (fun hs h=>?_)
    ·have F:=hs.1
     obtain ⟨Q,a9,h⟩:=bind_some h
     refine rc 2 [4,5,6,15] hs ?_;intro K71 ai
     refine Ai _ (Qv w0 n _ _ _ a0 a2.text _ a9) (hv hs) ?_
     refine ne hs ai ?_
     clear ai
     obtain ⟨U,bc,h⟩:=bind_some h
     refine rc 2 [5,6,15,17,18] hs ?_;intro K73 am
     refine Ai _ (EH w0 n _ _ _ a1.fields Q.1.1 _ bc) (hv hs) ?_
     refine ne hs am ?_
     clear am
     apply Ah;intro K75 aq
     refine rg [5,6,15,17,153] hs ?_
     refine AK h hs (fun hs h=>?_) (fun hs h=>?_)
     ·have D:=hs.1
      refine rg [6,7] hs ?_
      exact rt h hs b C
     have D:=hs.1
     refine sk [5,6,15,17] hs aq ?_
     clear aq
     apply Ah;intro K79 ak
     obtain ⟨bw,bs,bt,p,h⟩:=ix Bq h
     have v:(a2.list.map Bq).getD 0 .junk=_:=p
     obtain ⟨br,a6,h⟩:=bind_some h
     apply Ju HD [12,13] [6,17,18,19] kr (fun s=>∃ (X:List (List AV)) (rows:List RowA),s=⟨B++([a0.cs,a1.cs,a2.cs,[.val (.int .i64 0),.val (.int .i64 0),.val (.int .i64 0),.val (.string ((⟨#[]⟩:ByteArray))),.list ([]) .full,.list ([]) .full],.val (.int .i64 Q.1.1)::(.val (.string Q.1.2.1)::(.val (.int .i64 Q.1.2.2.1)::((Q.1.2.2.2.1.cs)++([.list (Q.1.2.2.2.2.map Bq) .none])))),.val (.int .i64 U.1.1)::(.val (.string U.1.2.1)::(.val (.int .i64 U.1.2.2.1)::((U.1.2.2.2.1.cs)++([.list (U.1.2.2.2.2.map Bq) .none]))))]++X),rows,L⟩) 3 (B.length+6)
     ·simp +decide only [go_sem,Nat.reduceAdd]
     ·rintro s ⟨X,rows,rfl⟩
      refine ⟨2,?_⟩
      rw [Am];simp +decide only [go_sem,Nat.reduceAdd,EM,l,a,d,g,j,k,G,F,D,p,v]
      have hs:=Aa p hs
      have hs:=Aa v hs
      (repeat' apply Aa)<;>first | refine Ai _ (ih _ _ _ Q.1.2.2.2.1 U.1.2.2.2.1 bw _ a6) (hv hs) ?_ | exact cl
      rw [Am];simp +decide only [go_sem,Nat.reduceAdd,l,a,d,g,j,k,G,F,D,p,v]
      (repeat' apply Aa)<;>first | rfl | exact cl
     ·refine Good.mk [12] kr ⟨[],_,by first | rfl | simp only [List.append_nil,List.nil_append]⟩ ?_ ?_
      ·intro h;exact absurd h (by decide)
      ·intro i hi;simp only [List.mem_cons,List.not_mem_nil,or_false] at hi
       subst hi
       ·apply DG rfl rfl ev
        ·simp +decide only [go_sem,Nat.reduceAdd,FT,l,a,d,g,j,k,G,F,D,p,v]
         (repeat' apply Aa)<;>first | rfl | exact cl
        ·simp +decide only [go_sem,Nat.reduceAdd,l,a,d,g,j,k,G,F,D,p,v]
         refine Good.mk [13] kr ⟨_,_,by first | rfl | simp only [List.append_nil,List.nil_append]⟩ ?_ ?_
         ·intro h;exact absurd h (by decide)
         ·intro i hi;simp only [List.mem_cons,List.not_mem_nil,or_false] at hi
          subst hi
          ·apply DG rfl rfl ev
           ·simp +decide only [go_sem,Nat.reduceAdd,FT,l,a,d,g,j,k,G,F,D,p,v]
            (repeat' apply Aa)<;>first | rfl | exact cl
           ·simp +decide only [go_sem,Nat.reduceAdd,l,a,d,g,j,k,G,F,D,p,v]
            refine Good.mk [] kr ⟨_,_,by first | rfl | simp only [List.append_nil,List.nil_append]⟩ ?_ ?_
            ·intro _;apply DF [6,17,18,19];first | (simp +decide only [go_sem,Nat.reduceAdd,l,a,d,g,j,k,G,F,D,p,v];done) | (simp +decide only [go_sem,Nat.reduceAdd,l,a,d,g,j,k,G,F,D,p,v];rfl)
            ·intro i hi;cases hi
     simp +decide only [go_sem,Nat.reduceAdd,l,a,d,g,j,k,G,F,D,p,v]
     (repeat' apply Aa)<;>first | refine ak _ _ ?_ | exact cl
     clear ak
     obtain ⟨bz,bh,h⟩:=bind_some h
     have hs:=Aa p hs
     have hs:=Aa v hs
     refine rc 2 [6,7] hs ?_;intro K82 ag
     refine Ai _ (XO w0 n _ _ _ U.1.2.1 br.1 _ bh) (hv hs) ?_
     refine ne hs ag ?_
     clear ag
     exact rt h hs b C
    have F:=hs.1
    refine sk [5,6] hs bp ?_
    exact ⟨([]),Rk20,ef hs,ef hs,C,h⟩
 ·clear h;rintro e st ⟨Xk7,Rk7,rfl,rfl,C,h⟩
  rw [GT] at h
  refine td hN Y V b C ?_
  refine rg [6,7] hs ?_
  exact rt h hs b C
theorem IH (w0:World):∀ n:Nat,I8 w0 (AM n)
 | 0=>fun _ _ _ _ _ _ _ h=>(nomatch h)
 | n+1=>PN w0 (AM n) (IH w0 n) n
def Kz (n:Nat) (g:List (ByteArray × Vl)) (h:ByteArray × Vl) (b:Int):Option ((List (ByteArray × Vl))) :=
 if 0≤0∧0≤b∧b≤(g.length:Int) then
  if (0+(g.take b.toNat).length)*104≤140737488355328∧0+(g.take b.toNat).length≤4611686018427387904 then
   if ((g.take b.toNat).length+1)*104≤140737488355328∧(g.take b.toNat).length+1≤4611686018427387904 then
    if 0≤b∧b≤(g.length:Int)∧(g.length:Int)≤(g.length:Int) then
     if ((g.take b.toNat).length+1+(g.drop b.toNat).length)*104≤140737488355328∧(g.take b.toNat).length+1+(g.drop b.toNat).length≤4611686018427387904 then
      some (((g.take b.toNat)++([h]))++(g.drop b.toNat))
     else none
    else none
   else none
  else none
 else none
def Kr (n:Nat) (q:List (ByteArray × Vl)) (g:ByteArray × Vl):Nat→Int→Option ((List (ByteArray × Vl)))
 | 0,_=>none
 | m+1,b =>
  if decide (0<b) then
   if B2 (b-1) then
    (Ci q (b-1)).bind fun h =>
    if !(WL h.1 g.1||DR h.1 g.1) then
     if B2 (b-1) then
      (Kr n q g m) (b-1)
     else none
    else
     Kz n q g b
   else none
  else
   Kz n q g b
def JU (n:Nat) (b:List (ByteArray × Vl)) (g:ByteArray × Vl):Option ((List (ByteArray × Vl))) :=
 Kr n b g n (b.length:Int)
def AL (b:Ty):Int :=
 if decide (b.kind=2) then
  0
 else
  if decide (b.kind=3) then
   b.scale
  else
   (-1)
theorem YF (w0:World) (B:List (List AV)) (Rw:List RowA) (L:List LoopA) (a0:Ty) (r:Int) (h:AL a0=r) :
  ACalls Tryz.prog w0 84 [.agg (a0.cs)] ⟨B,Rw,L⟩ fun x st=>x = .val (.int .i64 r)∧st=⟨B,Rw,L⟩:=by
 rw [AL] at h
 refine hd [.tmp 2] Tryz.func84 Tryz.ntmps84 fun M0 W0 i e f a g d hs=>?_
 simp only [As]
 refine rg [1] hs ?_
 apply Ah;intro K2 c
 refine rg [1,5] hs ?_
 refine AK h hs (fun hs h=>?_) (fun hs h=>?_)
 ·refine rg [2] hs ?_
  exact rT h hs a d
 refine sk [1] hs c ?_
 clear c
 apply Ah;intro K6 b
 refine rg [1,8] hs ?_
 refine AK h hs (fun hs h=>?_) (fun hs h=>?_)
 ·refine rg [2] hs ?_
  exact rT h hs a d
 refine sk [] hs b ?_
 clear b
 refine rg [2] hs ?_
 exact rT h hs a d
theorem E3 (w0:World) (B:List (List AV)) (Rw:List RowA) (L:List LoopA) (a0:Ty) :
  ACalls Tryz.prog w0 84 [.agg (a0.cs)] ⟨B,Rw,L⟩ fun x st=>x = .val (.int .i64 (AL a0))∧st=⟨B,Rw,L⟩:=YF w0 B Rw L a0 _ rfl
def WR (rec:Ty→Ty→Vl→Option (Vl × Bool)) (n:Nat) (b:Ty) (g:Vl) (b3_k38_4:List Vl):Option (Vl × Bool) :=
 some ((Vl.mk 8 0 0 ((⟨#[]⟩:ByteArray)) b3_k38_4 ([]),A8 (g.list.length:Int) b))
def Zce (rec:Ty→Ty→Vl→Option (Vl × Bool)) (n:Nat)  : Option (Vl × Bool) :=
 some ((Vl.mk 0 0 0 ((⟨#[]⟩:ByteArray)) ([]) ([]),false))
def Ji (rec:Ty→Ty→Vl→Option (Vl × Bool)) (n:Nat) (g:Int→(List (ByteArray × Vl))→Option (Vl × Bool)) (b:Int) (b3_k94_5:List (ByteArray × Vl)):Option (Vl × Bool) :=
 if B2 (b+1) then
  g (b+1) b3_k94_5
 else none
def Wj (rec:Ty→Ty→Vl→Option (Vl × Bool)) (n:Nat)  (b3_k86_5:List (ByteArray × Vl)):Option (Vl × Bool) :=
 some ((Vl.mk 9 0 0 ((⟨#[]⟩:ByteArray)) ([]) b3_k86_5,true))
def M7 (rec:Ty→Ty→Vl→Option (Vl × Bool)) (n:Nat) (a0:Ty) (q:Ty) (h:Vl):Nat→Int→(List Vl)→Option (Vl × Bool)
 | 0,_,_=>none
 | m+1,b,b3_l41_4 =>
  if decide (b<(h.list.length:Int)) then
   (Ci a0.elem 0).bind fun s =>
   (Ci q.elem 0).bind fun y =>
   (Ci h.list b).bind fun x49 =>
   (rec s y x49).bind fun g =>
   if !g.2 then
    some ((Vl.mk 0 0 0 ((⟨#[]⟩:ByteArray)) ([]) ([]),false))
   else
    if (b3_l41_4.length+1)*88≤140737488355328∧b3_l41_4.length+1≤4611686018427387904 then
     if B2 (b+1) then
      (M7 rec n a0 q h m) (b+1) (b3_l41_4++([g.1]))
     else none
    else none
  else
   WR rec n q h b3_l41_4
def MN (rec:Ty→Ty→Vl→Option (Vl × Bool)) (n:Nat) (s:Ty) (a1:Ty) (a2:Vl):Nat→Int→Option (Vl × Bool)
 | 0,_=>none
 | m+1,b =>
  if decide (b<(s.fields.length:Int)) then
   (Ci s.fields b).bind fun h =>
   (Ez n a1 h.1).bind fun g =>
   if (!(DR h.2.1 a2.text))||(!g.2) then
    if B2 (b+1) then
     (MN rec n s a1 a2 m) (b+1)
    else none
   else
    (Ci a2.list 0).bind fun y =>
    (rec h.2.2.2.1 g.1.2.2.2.1 y).bind fun q =>
    some ((Vl.mk 10 0 0 g.1.2.1 ([q.1]) ([]),q.2))
  else
   Zce rec n 
def GL (rec:Ty→Ty→Vl→Option (Vl × Bool)) (n:Nat) (a0:Ty) (y:Ty) (a2:Vl):Nat→Int→(List (ByteArray × Vl))→Option (Vl × Bool)
 | 0,_,_=>none
 | m+1,b,b3_l89_5 =>
  if decide (b<(y.fields.length:Int)) then
   (Ci y.fields b).bind fun g =>
   (Ez n a0 g.1).bind fun s =>
   (VF n a2 s.1.2.1).bind fun h =>
   if s.2&&h.2 then
    (rec s.1.2.2.2.1 g.2.2.2.1 h.1).bind fun q =>
    if !q.2 then
     some ((Vl.mk 0 0 0 ((⟨#[]⟩:ByteArray)) ([]) ([]),false))
    else
     (JU n b3_l89_5 ((g.2.1,q.1))).bind fun y110 =>
     Ji rec n (GL rec n a0 y a2 m) b y110
   else
    if decide (g.2.2.1=1) then
     some ((Vl.mk 0 0 0 ((⟨#[]⟩:ByteArray)) ([]) ([]),false))
    else
     if decide (g.2.2.1=3) then
      (Ci g.2.2.2.2 0).bind fun x116 =>
      (JU n b3_l89_5 ((g.2.1,x116))).bind fun y117 =>
      Ji rec n (GL rec n a0 y a2 m) b y117
     else
      Ji rec n (GL rec n a0 y a2 m) b b3_l89_5
  else
   Wj rec n b3_l89_5
def W6 (rec:Ty→Ty→Vl→Option (Vl × Bool)) (n:Nat) (h:Ty) (b:Ty) (g:Vl):Option (Vl × Bool) :=
 GL rec n h b g n 0 ([])
def HA (rec:Ty→Ty→Vl→Option (Vl × Bool)) (n:Nat) (q:Ty) (g:Ty) (h:Vl) (b:Bool):Option (Vl × Bool) :=
 if b then
  some ((h,A8 h.int g))
 else
  if decide (g.kind=8) then
   M7 rec n q g h n 0 ([])
  else
   if decide (g.kind=10) then
    MN rec n q g h n 0
   else
    W6 rec n q g h 
def Zbo (rec:Ty→Ty→Vl→Option (Vl × Bool)) (n:Nat) (h:Ty) (b:Ty) (g:Vl):Option (Vl × Bool) :=
 if (decide (0≤(AL h)))&&(decide (0≤(AL b))) then
  if B2 ((AL b)-(AL h)) then
   (Fb n g.int ((AL b)-(AL h))).bind fun s =>
   some ((Vl.mk b.kind s.1 (AL b) ((⟨#[]⟩:ByteArray)) ([]) ([]),s.2&&(A8 s.1 b)))
  else none
 else
  if !(decide (h.kind=b.kind)) then
   some ((Vl.mk 0 0 0 ((⟨#[]⟩:ByteArray)) ([]) ([]),false))
  else
   if decide (b.kind=1) then
    some ((g,true))
   else
    if decide (b.kind=4) then
     (KL n g.text b).bind fun q =>
     some ((g,q))
    else
     if decide (b.kind=5) then
      some ((g,A8 (g.text.size:Int) b))
     else
      if decide (b.kind=6) then
       HA rec n h b g true
      else
       HA rec n h b g (decide (b.kind=7))
def Jq:Nat→Ty→Ty→Vl→Option (Vl × Bool)
 | 0,_,_,_=>none
 | n+1,h,b,g=>Zbo (Jq n) n h b g
def TA (g:TF):Option (List (ByteArray × Vl)):=if g.2.2.1=1 then none else if g.2.2.1=3 then some (match g.2.2.2.2 with | x::_=>[(g.2.1,x)] | []=>[]) else some []
def JB (f:Ty→Ty→Vl→Option Vl) (a:Ty) (v:Vl) (g:TF):Option (List (ByteArray × Vl)) :=
 match D1 a.fields g.1 with
 | some p=>(match B9 v p.2.1 with
  | some x=>(f p.2.2.2.1 g.2.2.2.1 x).map fun y=>[(g.2.1,y)]
  | none=>TA g)
 | none=>TA g
def MG (f:Ty→Ty→Vl→Option Vl) (a:Ty) (v:Vl):List TF→Option (List (ByteArray × Vl))
 | []=>some []
 | g::gs=>(JB f a v g).bind fun o=>(MG f a v gs).map fun l=>o++l
def J1 (f:Vl→Option Vl):List Vl→Option (List Vl)
 | []=>some []
 | v::r=>(f v).bind fun y=>(J1 f r).map fun l=>y::l
def O9:Nat→Ty→Ty→Vl→Option Vl
 | 0,_,_,_=>none
 | d+1,a,b,v =>
  if (a.kind=2∨a.kind=3)∧(b.kind=2∨b.kind=3) then (JI v.int a.scale b.scale).bind fun m=>if JX m b=true then some (Vl.mk b.kind m b.scale ⟨#[]⟩ [] []) else none
  else if a.kind≠b.kind then none
  else if b.kind=6∨b.kind=7 then (if JX v.int b=true then some v else none)
  else if b.kind=5 then (if JX v.text.size b=true then some v else none)
  else if b.kind=4 then (if GA v.text b=true then some v else none)
  else if b.kind=8 then (match a.elem,b.elem with | [x],[y]=>(J1 (O9 d x y) v.list).bind fun l=>if JX v.list.length b=true then some (Vl.mk 8 0 0 ⟨#[]⟩ l []) else none | _,_=>none)
  else if b.kind=9 then (MG (O9 d) a v b.fields).map fun l=>Vl.mk 9 0 0 ⟨#[]⟩ [] (Bz l)
  else if b.kind=10 then (match A5 a v.text,v.list with | some p,x::_=>(match D1 b.fields p.1 with | some g=>(O9 d p.2.2.2.1 g.2.2.2.1 x).map fun y=>Vl.mk 10 0 0 g.2.1 [y] [] | none=>none) | _,_=>none)
  else some v
def Jz (D:Nat) (o:Option Vl) (r:Vl × Bool):Prop:=(match o with | some y=>r=(y,true) | none=>r.2=false)∧r.1.Nar∧r.1.depth≤D
theorem Oz (k i s:Int) (t:ByteArray) (h:t.size≤1048576):(Vl.mk k i s t [] []).Nar := .mk _ (by simp [Vl.list]) (by simp [Vl.fields]) h (by simp [Vl.list]) (by simp [Vl.fields]) (by simp [Vl.fields])
theorem Zdl:nilV.Nar:=Oz 0 0 0 _ (by decide)
theorem Le (k i s:Int) (t:ByteArray):(Vl.mk k i s t [] []).depth=1:=by simp [Vl.depth,Ft,Fo]
theorem Jo {D:Nat} (h:1≤D) {r:Vl × Bool} (e:r=(nilV,false)):Jz D none r:=by
 subst e
 exact ⟨rfl,Zdl,by rw [Le];exact h⟩
theorem PS {D:Nat} {v:Vl} {b:Bool} (h1:v.Nar) (h2:v.depth≤D):Jz D (if b=true then some v else none) (v,b):=by
 cases b with
 | true=>exact ⟨rfl,h1,h2⟩
 | false=>exact ⟨rfl,h1,h2⟩
theorem ZdQ (n:Nat) (l:List (ByteArray × Vl)) (x:ByteArray × Vl) (hs:SS l) (hi:YM l x.1=false) (hl:l.length≤1000000):∀ (k m at_:Nat),at_≤k→at_≤l.length→(∀ i (h:at_≤i) (h2:i<l.length),¬ Eo l[i].1 x.1<0)→k<m→Kr n l x m at_=some (TG l x.1 x.2)
 | k,0,at_,_,_,_,h=>absurd h (Nat.not_lt_zero _)
 | k,m+1,at_,hk,ha,hb,hm=>by
  have fin:(∀ i (h:i<at_) (h2:i<l.length),Eo l[i].1 x.1<0)→Kz n l x at_=some (TG l x.1 x.2):=fun q=>by
   have e:at_=Rx l x.1:=Xc ha (fun i h=>q i h (by omega)) (fun h=>hb _ (Nat.le_refl _) h)
   rw [Kz,Ae (by omega),Ae (by rw [List.length_take];omega),Ae (by rw [List.length_take];omega),Ae (by omega),Ae (by rw [List.length_take,List.length_drop];omega),TG,MZ,←e,Int.toNat_natCast,List.append_assoc,List.singleton_append]
  rw [Kr]
  by_cases c:0<at_
  ·obtain ⟨j,rfl⟩:∃ j,at_=j+1:=⟨at_-1,by omega⟩
   have b:((j+1:Nat):Int)-1=(j:Int):=by omega
   have a:j<l.length:=by omega
   rw [Ad (show (0:Int)<((j+1:Nat):Int) by omega),Ae rfl,b,Ae (by unfold B2;omega),AD a,Ab,T8]
   have ne:DR l[j].1 x.1=false:=by
    cases q:DR l[j].1 x.1 with
    | false=>rfl
    | true=>rw [NT.2 ⟨_,List.getElem_mem a,(D5 _ _).1 q⟩] at hi;cases hi
   rw [ne,Bool.or_false]
   by_cases d:Eo l[j].1 x.1<0
   ·rw [Ad d,Af (by decide)]
    refine fin fun i h h2=>?_
    rcases Nat.lt_or_ge i j with z | z
    ·exact Po (List.pairwise_iff_getElem.1 hs i j h2 a z) d
    ·obtain rfl:i=j:=by omega
     exact d
   ·obtain ⟨k,rfl⟩:∃ q,k=q+1:=⟨k-1,by omega⟩
    rw [Ac d,Ae (by rfl),Ae (by unfold B2;omega)]
    refine ZdQ n l x hs hi hl k m j (by omega) (by omega) (fun i h h2=>?_) (by omega)
    rcases Nat.lt_or_ge j i with z | z
    ·exact hb i (by omega) h2
    ·obtain rfl:i=j:=by omega
     exact d
  ·obtain rfl:at_=0:=by omega
   rw [Ac (by decide),Af (by decide)]
   exact fin fun i h=>absurd h (by omega)
theorem Zct (n:Nat) (l:List (ByteArray × Vl)) (x:ByteArray × Vl) (hs:SS l) (hi:YM l x.1=false) (hl:l.length≤1000000) (hn:l.length<n):JU n l x=some (TG l x.1 x.2) :=
 ZdQ n l x hs hi hl l.length n l.length (Nat.le_refl _) (Nat.le_refl _) (fun i h a=>by omega) hn
theorem Zdt (rec:Ty→Ty→Vl→Option (Vl × Bool)) (n D:Nat) (a b x y:Ty) (v:Vl) (f:Vl→Option Vl) (ha:a.elem=[x]) (hb:b.elem=[y]) (hD:1≤D) (hl:v.list.length≤100000000)
  (hr:∀ u∈v.list,∃ r,rec x y u=some r∧Jz D (f u) r):∀ (k m i:Nat) (acc:List Vl),i+k=v.list.length→k<m→acc.length=i→(∀ u∈acc,u.Nar∧u.depth≤D) →
  ∃ r,C9 rec n a b v m i acc=some r∧Jz (D+1) ((J1 f (v.list.drop i)).bind fun l=>if JX v.list.length b=true then some (Vl.mk 8 0 0 ⟨#[]⟩ (acc++l) []) else none) r
 | k,0,i,acc,_,h,_,_=>absurd h (Nat.not_lt_zero _)
 | 0,m+1,i,acc,hi,_,h1,h2=>by
  rw [C9,Av,Ac (by omega),Af (by decide),Gn,List.drop_eq_nil_of_le (by omega),J1,Ab,List.append_nil,Bo]
  exact ⟨_,rfl,PS (.mk _ (by simp only [Vl.list];omega) (by simp [Vl.fields]) (by show (⟨#[]⟩:ByteArray).size≤1048576;decide) (fun u hu=>(h2 u hu).1) (by simp [Vl.fields]) (by simp [Vl.fields])) (by
   have:=(Ho acc D).2 fun u hu=>(h2 u hu).2
   simp only [Vl.depth,Fo];omega)⟩
 | k+1,m+1,i,acc,hi,hm,h1,h2=>by
  have c:i<v.list.length:=by omega
  obtain ⟨r,e,⟨u1,u2,u3⟩⟩:=hr _ (List.getElem_mem c)
  rw [C9,Av,Ad c,Ae rfl,AD c,Ab,ha,hb,show Ci [x] 0=some x from rfl,Ab,show Ci [y] 0=some y from rfl,Ab,e,Ab,List.drop_eq_getElem_cons c,J1]
  cases q:f v.list[i] with
  | none =>
   rw [q] at u1
   simp only at u1
   rw [u1,Ae (by rfl),Option.bind_none,Option.bind_none]
   exact ⟨_,rfl,Jo (by omega) rfl⟩
  | some z =>
   rw [q] at u1
   simp only at u1
   subst u1
   rw [Af (by simp),Ae (by omega),Ae (AA (by omega))]
   obtain ⟨r,e,u⟩:=Zdt rec n D a b x y v f ha hb hD hl hr k m (i+1) (acc++[z]) (by omega) (by omega) (by simp;omega) (fun u hu=>by
    rcases List.mem_append.1 hu with hu | hu
    ·exact h2 u hu
    ·rw [List.mem_singleton] at hu;subst hu;exact ⟨u2,u3⟩)
   refine ⟨r,e,?_⟩
   rw [Ab]
   simp only [List.append_assoc,List.singleton_append] at u
   cases w:J1 f (v.list.drop (i+1)) with
   | none=>rw [w] at u;exact u
   | some l=>rw [w] at u;exact u
theorem Zbt (rec:Ty→Ty→Vl→Option (Vl × Bool)) (n D:Nat) (a b x y:Ty) (v:Vl) (f:Vl→Option Vl) (ha:a.elem=[x]) (hb:b.elem=[y]) (hD:1≤D) (hl:v.list.length≤100000000)
  (hr:∀ u∈v.list,∃ r,rec x y u=some r∧Jz D (f u) r):∀ (k m i:Nat) (acc:List Vl),i+k=v.list.length→k<m→acc.length=i→(∀ u∈acc,u.Nar∧u.depth≤D) →
  ∃ r,M7 rec n a b v m i acc=some r∧Jz (D+1) ((J1 f (v.list.drop i)).bind fun l=>if JX v.list.length b=true then some (Vl.mk 8 0 0 ⟨#[]⟩ (acc++l) []) else none) r
 | k,0,i,acc,_,h,_,_=>absurd h (Nat.not_lt_zero _)
 | 0,m+1,i,acc,hi,_,h1,h2=>by
  rw [M7,Av,Ac (by omega),Af (by decide),WR,List.drop_eq_nil_of_le (by omega),J1,Ab,List.append_nil,A8]
  exact ⟨_,rfl,PS (.mk _ (by simp only [Vl.list];omega) (by simp [Vl.fields]) (by show (⟨#[]⟩:ByteArray).size≤1048576;decide) (fun u hu=>(h2 u hu).1) (by simp [Vl.fields]) (by simp [Vl.fields])) (by
   have:=(Ho acc D).2 fun u hu=>(h2 u hu).2
   simp only [Vl.depth,Fo];omega)⟩
 | k+1,m+1,i,acc,hi,hm,h1,h2=>by
  have c:i<v.list.length:=by omega
  obtain ⟨r,e,⟨u1,u2,u3⟩⟩:=hr _ (List.getElem_mem c)
  rw [M7,Av,Ad c,Ae rfl,ha,hb,show Ci [x] 0=some x from rfl,Ab,show Ci [y] 0=some y from rfl,Ab,AD c,Ab,e,Ab,List.drop_eq_getElem_cons c,J1]
  cases q:f v.list[i] with
  | none =>
   rw [q] at u1
   simp only at u1
   rw [u1,Ae (by rfl),Option.bind_none,Option.bind_none]
   exact ⟨_,rfl,Jo (by omega) rfl⟩
  | some z =>
   rw [q] at u1
   simp only at u1
   subst u1
   rw [Af (by simp),Ae (by omega),Ae (AA (by omega))]
   obtain ⟨r,e,u⟩:=Zbt rec n D a b x y v f ha hb hD hl hr k m (i+1) (acc++[z]) (by omega) (by omega) (by simp;omega) (fun u hu=>by
    rcases List.mem_append.1 hu with hu | hu
    ·exact h2 u hu
    ·rw [List.mem_singleton] at hu;subst hu;exact ⟨u2,u3⟩)
   refine ⟨r,e,?_⟩
   rw [Ab]
   simp only [List.append_assoc,List.singleton_append] at u
   cases w:J1 f (v.list.drop (i+1)) with
   | none=>rw [w] at u;exact u
   | some l=>rw [w] at u;exact u
theorem ZW (n D:Nat) (l:List (ByteArray × Vl)) (hl:l.length≤1000000) (hn:D+1000000001<n) (hnul:∀ p∈l,BJ p.2=false) (hd:(l.map Prod.fst).Nodup) (hv:(Vl.mk 9 0 0 ⟨#[]⟩ [] (Bz l)).Nar) (hdp:(Vl.mk 9 0 0 ⟨#[]⟩ [] (Bz l)).depth≤D+1):KP n l=some (Vl.mk 9 0 0 ⟨#[]⟩ [] (Bz l)):=by
 have e:=Zbd n l hl (by omega) hnul hd l.length n 0 (by omega) (by omega)
 rw [List.take_zero] at e
 have a:EA n l n 0 []=_:=e
 rw [KP,a,Jy,Ae (by omega),Il n _ hv (by omega)]
 rfl
structure Acc (D:Nat) (b:Ty) (i:Nat) (acc:List (ByteArray × Vl)):Prop where
 len:acc.length≤i
 each:∀ p∈acc,p.1.size≤1048576∧p.2.Nar∧p.2.depth≤D∧p.2.kind≠0
 apart:(acc.map Prod.fst++(b.fields.drop i).map fun p=>p.2.1).Nodup
theorem Acc.skip {D:Nat} {b:Ty} {i:Nat} {acc:List (ByteArray × Vl)} (h:Acc D b i acc) (hi:i<b.fields.length):Acc D b (i+1) acc :=
 ⟨Nat.le_succ_of_le h.len,h.each,by
  have:=h.apart
  rw [List.drop_eq_getElem_cons hi,List.map_cons] at this
  exact this.sublist ((List.sublist_cons_self _ _).append_left _)⟩
theorem Acc.push {D:Nat} {b:Ty} {i:Nat} {acc:List (ByteArray × Vl)} (h:Acc D b i acc) (hi:i<b.fields.length) {y:Vl} (hs:b.fields[i].2.1.size≤1048576) (h1:y.Nar) (h2:y.depth≤D) (h3:y.kind≠0):Acc D b (i+1) (acc++[(b.fields[i].2.1,y)]) :=
 ⟨by rw [List.length_append];have:=h.len;simp;omega,fun p hp=>by
  rcases List.mem_append.1 hp with hp | hp
  ·exact h.each p hp
  ·rw [List.mem_singleton] at hp;subst hp;exact ⟨hs,h1,h2,h3⟩,by
  have:=h.apart
  rw [List.drop_eq_getElem_cons hi,List.map_cons] at this
  rw [List.map_append,List.map_singleton,List.append_assoc,List.singleton_append]
  exact this⟩
theorem Acc.names {D:Nat} {b:Ty} {i:Nat} {acc:List (ByteArray × Vl)} (h:Acc D b i acc):(acc.map Prod.fst).Nodup:=h.apart.sublist (List.sublist_append_left _ _)
theorem Acc.new {D:Nat} {b:Ty} {i:Nat} {acc:List (ByteArray × Vl)} (h:Acc D b i acc) (hi:i<b.fields.length):YM (Bz acc) b.fields[i].2.1=false:=by
 cases q:YM (Bz acc) b.fields[i].2.1 with
 | false=>rfl
 | true =>
  obtain ⟨p,a,e⟩:=NT.1 q
  have:=h.apart
  rw [List.drop_eq_getElem_cons hi,List.map_cons] at this
  have:=(List.nodup_append.1 this).2.2 p.1 (List.mem_map.2 ⟨p,(Gt acc).mem_iff.1 a,rfl⟩) b.fields[i].2.1 (List.mem_cons_self ..)
  exact absurd e this
theorem Acc.sort {D:Nat} {b:Ty} {i:Nat} {acc:List (ByteArray × Vl)} (h:Acc D b i acc) (hi:i<b.fields.length) (y:Vl):TG (Bz acc) b.fields[i].2.1 y=Bz (acc++[(b.fields[i].2.1,y)]):=by
 refine R9 _ _ ?_ (Zbj (Nn acc h.names) (h.new hi) y) (Nn _ ?_)
 ·refine ((SG _ _ _).trans ?_).trans (Gt _).symm
  refine ((Gt acc).cons _).trans ?_
  exact (List.perm_append_singleton _ _).symm
 ·have:=h.apart
  rw [List.drop_eq_getElem_cons hi,List.map_cons] at this
  rw [List.map_append,List.map_singleton]
  exact this.sublist (List.Sublist.append_left (List.singleton_sublist.2 (List.mem_cons_self ..)) _)
theorem Acc.ok {D:Nat} {b:Ty} {i:Nat} {acc:List (ByteArray × Vl)} (h:Acc D b i acc) (hi:i≤100000000):(Vl.mk 9 0 0 ⟨#[]⟩ [] (Bz acc)).Nar∧(Vl.mk 9 0 0 ⟨#[]⟩ [] (Bz acc)).depth≤D+1:=by
 have c:∀ p∈Bz acc,_:=fun p a=>h.each p ((Gt acc).mem_iff.1 a)
 refine ⟨.mk _ (by simp [Vl.list]) (by show (Bz acc).length≤_;rw [Gi];have:=h.len;omega) (by show (⟨#[]⟩:ByteArray).size≤1048576;decide) (by simp [Vl.list]) (fun p a=>(c p a).1) (fun p a=>(c p a).2.1),?_⟩
 have:=(Ia (Bz acc) D).2 fun p a=>(c p a).2.2.1
 simp only [Vl.depth,Ft];omega
theorem S8 {v:Vl} (h:v.kind≠0):BJ v=false:=by rw [BJ,Ac h];simp
theorem Jm {o:Option (List (ByteArray × Vl))} {acc:List (ByteArray × Vl)} {x:ByteArray × Vl}:(o.map fun l=>Vl.mk 9 0 0 ⟨#[]⟩ [] (Bz ((acc++[x])++l)))=(o.map fun l=>[x]++l).map fun l=>Vl.mk 9 0 0 ⟨#[]⟩ [] (Bz (acc++l)):=by
 cases o with
 | none=>rfl
 | some l=>simp only [Option.map_some,List.append_assoc]
theorem QH {o:Option (List (ByteArray × Vl))}:(o.map fun l=>[]++l)=o:=by cases o<;>rfl
structure RecH (rec:Ty→Ty→Vl→Option (Vl × Bool)) (n D:Nat) (a b:Ty) (v:Vl) (f:Ty→Ty→Vl→Option Vl):Prop where
 vk:v.kind=9
 vl:v.fields.length≤100000000
 al:a.fields.length≤1000000
 bl:b.fields.length≤1000000
 nn:D+2000000000<n
 hD:1≤D
 hc:∀ q∈v.fields,BU n q.2=some q.2
 bn:∀ g∈b.fields,g.2.1.size≤1048576
 hr:∀ g∈b.fields,∀ p,D1 a.fields g.1=some p→∀ x,B9 v p.2.1=some x→∃ r,rec p.2.2.2.1 g.2.2.2.1 x=some r∧Jz D (f p.2.2.2.1 g.2.2.2.1 x) r∧∀ y,f p.2.2.2.1 g.2.2.2.1 x=some y→y.kind≠0
 hd:∀ g∈b.fields,g.2.2.1=3→∃ x,g.2.2.2.2=[x]∧x.Nar∧x.depth≤D∧x.kind≠0
theorem ZgP {rec:Ty→Ty→Vl→Option (Vl × Bool)} {n D:Nat} {a b:Ty} {v:Vl} {f:Ty→Ty→Vl→Option Vl} (H:RecH rec n D a b v f):∀ (k m i:Nat) (acc:List (ByteArray × Vl)),i+k=b.fields.length→k<m→Acc D b i acc →
  ∃ r,AH rec n a b v m acc i=some r∧Jz (D+1) ((MG f a v (b.fields.drop i)).map fun l=>Vl.mk 9 0 0 ⟨#[]⟩ [] (Bz (acc++l))) r
 | k,0,i,acc,_,h,_=>absurd h (Nat.not_lt_zero _)
 | 0,m+1,i,acc,hi,_,ha=>by
  have E:=H.bl
  have K:=H.nn
  have N:=ha.len
  obtain ⟨z,w⟩:=ha.ok (by omega)
  rw [AH,Av,Ac (by omega),Af (by decide),Eg,ZW n D acc (by omega) (by omega) (fun p hp=>S8 (ha.each p hp).2.2.2) ha.names z w,List.drop_eq_nil_of_le (by omega),MG,Option.map_some,List.append_nil]
  exact ⟨_,rfl,rfl,z,w⟩
 | k+1,m+1,i,acc,hi,hm,ha=>by
  have d:i<b.fields.length:=by omega
  have j:=List.getElem_mem d
  have E:=H.bl
  have O:=H.al
  have K:=H.nn
  have F:=H.vl
  have N:=ha.len
  have s:∀ c,Acc D b (i+1) c→∃ r,Ba rec n (AH rec n a b v m) i c=some r∧Jz (D+1) ((MG f a v (b.fields.drop (i+1))).map fun l=>Vl.mk 9 0 0 ⟨#[]⟩ [] (Bz (c++l))) r:=fun c h=>by
   obtain ⟨r,e,u⟩:=ZgP H k m (i+1) c (by omega) (by omega) h
   rw [Ba,Ae (AA (by omega))]
   exact ⟨r,e,u⟩
  rw [AH,Av,Ad d,Ae rfl,AD d,Ab,Ru n a.fields _ (by omega) (by omega),Ab,Zw n v _ H.vk (by omega) (by omega) H.hc,Ab,List.drop_eq_getElem_cons d,MG]
  have g:JB f a v b.fields[i]=TA b.fields[i]→∃ r,(if decide (b.fields[i].2.2.1=1)=true then some (Vl.mk 0 0 0 ⟨#[]⟩ [] [],false) else if decide (b.fields[i].2.2.1=3)=true then (Ci b.fields[i].2.2.2.2 0).bind fun t=>if (acc.length+1)*104≤140737488355328∧acc.length+1≤4611686018427387904 then Ba rec n (AH rec n a b v m) i (acc++[(b.fields[i].2.1,t)]) else none else Ba rec n (AH rec n a b v m) i acc)=some r∧Jz (D+1) (((JB f a v b.fields[i]).bind fun o=>(MG f a v (b.fields.drop (i+1))).map fun l=>o++l).map fun l=>Vl.mk 9 0 0 ⟨#[]⟩ [] (Bz (acc++l))) r:=fun q=>by
   rw [q,TA]
   by_cases c1:b.fields[i].2.2.1=1
   ·rw [Ad c1,Ae rfl,Ae c1]
    exact ⟨_,rfl,Jo (by omega) rfl⟩
   rw [Ac c1,Af (by decide),Af c1]
   by_cases c3:b.fields[i].2.2.1=3
   ·obtain ⟨x,hx,G,J,U⟩:=H.hd _ j c3
    rw [Ad c3,Ae rfl,Ae c3,hx,show Ci [x] 0=some x from rfl,Ab,Ae (by omega)]
    obtain ⟨r,e,u⟩:=s _ (ha.push d (H.bn _ j) G J U)
    rw [Jm] at u
    exact ⟨r,e,u⟩
   ·rw [Ac c3,Af (by decide),Af c3]
    obtain ⟨r,e,u⟩:=s _ (ha.skip d)
    refine ⟨r,e,?_⟩
    rw [Ab,QH]
    exact u
  cases hp:D1 a.fields b.fields[i].1 with
  | none =>
   rw [Af (by simp)]
   exact g (by rw [JB,hp])
  | some p =>
   simp only [Option.getD_some,Option.isSome_some,Bool.true_and]
   cases hx:B9 v p.2.1 with
   | none =>
    rw [Af (by simp)]
    exact g (by rw [JB,hp];simp only [hx])
   | some x =>
    obtain ⟨r,e,⟨u1,C,Q⟩,V⟩:=H.hr _ j p hp x hx
    have ef:JB f a v b.fields[i]=(f p.2.2.2.1 b.fields[i].2.2.2.1 x).map fun y=>[(b.fields[i].2.1,y)]:=by rw [JB,hp];simp only [hx]
    rw [Ae Option.isSome_some,Option.getD_some,e,Ab,ef]
    cases q:f p.2.2.2.1 b.fields[i].2.2.2.1 x with
    | none =>
     rw [q] at u1
     simp only at u1
     rw [u1,Ae (by rfl)]
     exact ⟨_,rfl,Jo (by omega) rfl⟩
    | some y =>
     rw [q] at u1
     simp only at u1
     subst u1
     rw [Af (by simp),Ae (by omega)]
     obtain ⟨r,e,u⟩:=s _ (ha.push d (H.bn _ j) C Q (V y q))
     rw [Jm] at u
     exact ⟨r,e,u⟩
theorem ZbM {rec:Ty→Ty→Vl→Option (Vl × Bool)} {n D:Nat} {a b:Ty} {v:Vl} {f:Ty→Ty→Vl→Option Vl} (H:RecH rec n D a b v f):∀ (k m i:Nat) (acc:List (ByteArray × Vl)),i+k=b.fields.length→k<m→Acc D b i acc →
  ∃ r,GL rec n a b v m i (Bz acc)=some r∧Jz (D+1) ((MG f a v (b.fields.drop i)).map fun l=>Vl.mk 9 0 0 ⟨#[]⟩ [] (Bz (acc++l))) r
 | k,0,i,acc,_,h,_=>absurd h (Nat.not_lt_zero _)
 | 0,m+1,i,acc,hi,_,ha=>by
  have E:=H.bl
  obtain ⟨O,K⟩:=ha.ok (by omega)
  rw [GL,Av,Ac (by omega),Af (by decide),Wj,List.drop_eq_nil_of_le (by omega),MG,Option.map_some,List.append_nil]
  exact ⟨_,rfl,rfl,O,K⟩
 | k+1,m+1,i,acc,hi,hm,ha=>by
  have c:i<b.fields.length:=by omega
  have j:=List.getElem_mem c
  have E:=H.bl
  have N:=H.al
  have Y:=H.nn
  have F:=H.vl
  have Z:=ha.len
  have s:∀ y,JU n (Bz acc) (b.fields[i].2.1,y)=some (Bz (acc++[(b.fields[i].2.1,y)])):=fun y=>by
   rw [Zct n (Bz acc) (b.fields[i].2.1,y) (Nn acc ha.names) (ha.new c) (by rw [Gi];omega) (by rw [Gi];omega),ha.sort c y]
  have w:∀ d,Acc D b (i+1) d→∃ r,Ji rec n (GL rec n a b v m) i (Bz d)=some r∧Jz (D+1) ((MG f a v (b.fields.drop (i+1))).map fun l=>Vl.mk 9 0 0 ⟨#[]⟩ [] (Bz (d++l))) r:=fun d h=>by
   obtain ⟨r,e,u⟩:=ZbM H k m (i+1) d (by omega) (by omega) h
   rw [Ji,Ae (AA (by omega))]
   exact ⟨r,e,u⟩
  rw [GL,Av,Ad c,Ae rfl,AD c,Ab,JD n a _ (by omega) (by omega),Ab,Zb1 n v _ (by omega) (by omega),Ab,List.drop_eq_getElem_cons c,MG]
  have g:JB f a v b.fields[i]=TA b.fields[i]→∃ r,(if decide (b.fields[i].2.2.1=1)=true then some (Vl.mk 0 0 0 ⟨#[]⟩ [] [],false) else if decide (b.fields[i].2.2.1=3)=true then (Ci b.fields[i].2.2.2.2 0).bind fun z=>(JU n (Bz acc) (b.fields[i].2.1,z)).bind fun t=>Ji rec n (GL rec n a b v m) i t else Ji rec n (GL rec n a b v m) i (Bz acc))=some r∧Jz (D+1) (((JB f a v b.fields[i]).bind fun o=>(MG f a v (b.fields.drop (i+1))).map fun l=>o++l).map fun l=>Vl.mk 9 0 0 ⟨#[]⟩ [] (Bz (acc++l))) r:=fun q=>by
   rw [q,TA]
   by_cases c1:b.fields[i].2.2.1=1
   ·rw [Ad c1,Ae rfl,Ae c1]
    exact ⟨_,rfl,Jo (by omega) rfl⟩
   rw [Ac c1,Af (by decide),Af c1]
   by_cases c3:b.fields[i].2.2.1=3
   ·obtain ⟨x,hx,G,J,U⟩:=H.hd _ j c3
    rw [Ad c3,Ae rfl,Ae c3,hx,show Ci [x] 0=some x from rfl,Ab,s,Ab]
    obtain ⟨r,e,u⟩:=w _ (ha.push c (H.bn _ j) G J U)
    rw [Jm] at u
    exact ⟨r,e,u⟩
   ·rw [Ac c3,Af (by decide),Af c3]
    obtain ⟨r,e,u⟩:=w _ (ha.skip c)
    refine ⟨r,e,?_⟩
    rw [Ab,QH]
    exact u
  cases hp:D1 a.fields b.fields[i].1 with
  | none =>
   rw [Af (by simp)]
   exact g (by rw [JB,hp])
  | some p =>
   simp only [Option.getD_some,Option.isSome_some,Bool.true_and]
   cases hx:B9 v p.2.1 with
   | none =>
    rw [Af (by simp)]
    exact g (by rw [JB,hp];simp only [hx])
   | some x =>
    obtain ⟨r,e,⟨u1,C,Q⟩,V⟩:=H.hr _ j p hp x hx
    have ef:JB f a v b.fields[i]=(f p.2.2.2.1 b.fields[i].2.2.2.1 x).map fun y=>[(b.fields[i].2.1,y)]:=by rw [JB,hp];simp only [hx]
    rw [Ae Option.isSome_some,Option.getD_some,e,Ab,ef]
    cases q:f p.2.2.2.1 b.fields[i].2.2.2.1 x with
    | none =>
     rw [q] at u1
     simp only at u1
     rw [u1,Ae (by rfl)]
     exact ⟨_,rfl,Jo (by omega) rfl⟩
    | some y =>
     rw [q] at u1
     simp only at u1
     subst u1
     rw [Af (by simp),s,Ab]
     obtain ⟨r,e,u⟩:=w _ (ha.push c (H.bn _ j) C Q (V y q))
     rw [Jm] at u
     exact ⟨r,e,u⟩
end Go.Proofs.YtgpmlelfkjfbiaaGreatDoor
