/-
  Part 8 of the proof: rules and walks that the claim's last text uses.
-/
import Derived.Shelf.Vars
import Derived.Test.YtmcnjijeocmkgaaGreatDoorLc7
set_option linter.unusedSimpArgs false
set_option linter.unusedVariables false
set_option maxRecDepth 100000
set_option maxHeartbeats 4000000
namespace Go.Proofs.YtmcnjijeocmkgaaGreatDoor
open Go Go.RowKit Go.Ev
def Iz (n:Nat)  (b4_k25:Cpm) (b5_k25_0:List (ByteArray × Ex)):Option ((List (ByteArray × Ex)) × Int) :=
 if !b4_k25.ok then
  some (([],22))
 else
  (I4 n b5_k25_0).bind fun b =>
  if !(decide (b=0)) then
   some (([],b))
  else
   some ((b5_k25_0,0))
def Ek (n:Nat) (q:List (ByteArray × Ex)):Nat→Int→Cpm→(List (ByteArray × Ex))→Option ((List (ByteArray × Ex)) × Int)
 | 0,_,_,_=>none
 | m+1,b,b4_l28,b5_l28_0 =>
  if decide (b<(q.length:Int)) then
   (B6 q b).bind fun g =>
   (Bh n b4_l28 g.2).bind fun h =>
   if (b5_l28_0.length+1)*96≤140737488355328∧b5_l28_0.length+1≤4611686018427387904 then
    if Bj (b+1) then
     (Ek n q m) (b+1) h.2 (b5_l28_0++([(g.1,h.1)]))
    else none
   else none
  else
   Iz n b4_l28 b5_l28_0
def Hq (n:Nat) (g:List (ByteArray × Ex)) (h:List (ByteArray × Ex)) (b:Ty):Option ((List (ByteArray × Ex)) × Int) :=
 Ek n h n 0 (Cpm.mk g b true) ([])
def Dv (n:Nat) (a0:List (ByteArray × Ex)) (a1:List (ByteArray × Ex)) (a2:Ty) (y6:Int) (q:Int) (z:Int) (y:Int) (h:Int):Nat→Int→Option ((List (ByteArray × Ex)) × Int)
 | 0,_=>none
 | m+1,b =>
  if decide (b<5) then
   (B6 ([y6,q,z,y,h]) b).bind fun g =>
   if !(decide (g=0)) then
    some (([],g))
   else
    if Bj (b+1) then
     (Dv n a0 a1 a2 y6 q z y h m) (b+1)
    else none
  else
   Hq n a0 a1 a2 
def Ii (n:Nat) (g:List (ByteArray × Ex)) (h:List (ByteArray × Ex)) (q:Ty):Option ((List (ByteArray × Ex)) × Int) :=
 (Do n g).bind fun y6 =>
 (Do n h).bind fun y =>
 (Kq n q).bind fun y8 =>
 (I4 n g).bind fun z =>
 (I4 n h).bind fun b =>
 Dv n g h q y6 y y8 z b n 0
theorem VI (w0:World) (hE:Jl w0) (hM:Jh w0) (hP:Pow10 w0) (hT:Lib.Utf8Tabs 2 3 w0) (n:Nat) (B:As) (Rw:Ax) (L:Aw) (a0:List (ByteArray × Ex)) (a1:List (ByteArray × Ex)) (a2:Ty) (r:(List (ByteArray × Ex)) × Int) (h:Ii n a0 a1 a2=some r) :
  ACalls Tryz.prog w0 27 [.agg ([.list (a0.map AP) .none]),.agg ([.list (a1.map AP) .none]),.agg (a2.cs)] ⟨B,Rw,L⟩ fun x st=>x = .tup [.agg ([.list (r.1.map AP) .none]),Am r.2]∧st=⟨B,Rw,L⟩:=by
 rw [Ii] at h
 refine hd [.cell 6 49,.tmp 7] Tryz.func27 Tryz.ntmps27 fun M0 W0 hN E F u hu C hs=>?_
 simp only [AB]
 refine rg [3,4,5,6] hs ?_
 refine AA (fun e st=>Ck e st B Rw L [(3,true,.box B.length 0),(4,true,.box (B.length+1) 0),(5,true,.box (B.length+2) 0),(6,true,.box (B.length+3) 0)] [[.list (a0.map AP) .none],[.list (a1.map AP) .none],a2.cs,[.list ([]) .full]] [] (Hq n a0 a1 a2  = some r)) ?_ ?_
 ·intro K4 ax
  obtain ⟨y6,ao,h⟩:=bind_some h
  obtain ⟨y7,au,h⟩:=bind_some h
  obtain ⟨y8,ar,h⟩:=bind_some h
  obtain ⟨y9,av,h⟩:=bind_some h
  obtain ⟨ad,ag,h⟩:=bind_some h
  apply Ap;intro K5 ab
  refine dk 13 6 1 [3,4,5,6,25,26,27] hs OJ ?_
  refine Az _ (GL w0 hE hM hP n _ _ _ a0 _ ao) (hv hs) ?_
  refine nc hs ?_
  refine Az _ (GL w0 hE hM hP n _ _ _ a1 _ au) (hv hs) ?_
  refine nc hs ?_
  refine Az _ (XO w0 hT n _ _ _ a2 _ ar) (hv hs) ?_
  refine nc hs ?_
  refine Az _ (N8 w0 hE hM hP hT n _ _ _ a0 _ av) (hv hs) ?_
  refine nc hs ?_
  refine Az _ (N8 w0 hE hM hP hT n _ _ _ a1 _ ag) (hv hs) ?_
  refine dn hs ab ?_
  clear ab
  apply Au
  refine AC (fun m e st=>∃ (z:Int),Ck e st B Rw L [(3,true,.box B.length 0),(4,true,.box (B.length+1) 0),(5,true,.box (B.length+2) 0),(6,true,.box (B.length+3) 0),(25,true,.list (([y6,y7,y8,y9,ad]).map Yg) .full),(26,true,Am 5),(27,true,Am z)] [[.list (a0.map AP) .none],[.list (a1.map AP) .none],a2.cs,[.list ([]) .full]] [] (Dv n a0 a1 a2 y6 y7 y8 y9 ad m z=some r)) n ⟨0,([]),Rw,ef hs,ef hs,C,h⟩ ?_
  rintro ml11 e st ⟨z,Xl11,Rl11,rfl,rfl,C,h⟩ Ul11 Vl11
  cases ml11 with
  | zero=>cases h
  | succ ml11 =>
  rw [Dv] at h
  refine td hN E F u C ?_
  refine rg [3,4,5,6,25,26,27,28] hs ?_
  apply Ap;intro K13 U
  refine Cj h hs ?_ ?_<;>intro hs h
  rotate_left
  ·refine sx [3,4,5,6] hs ax ?_
   exact ⟨([]),Rl11,ef hs,ef hs,C,h⟩
  refine sk [3,4,5,6,25,26,27] hs U ?_
  clear U
  apply Ap;intro K15 aj
  apply Au
  obtain ⟨a4,am,h⟩:=bind_some h
  obtain ⟨aq,Z,aa⟩:=Bt am
  have G:=Bv (f:=Yg) aa
  simp only [List.map_cons,List.map_nil,Ge,Gi,F3,ES,EY,F7,Dn,D5,F2,CN,CM,Ej,D7,Ef,F4,Ee,FZ] at G
  simp only [List.length_cons,List.length_nil] at Z
  exact go (tg (a:=([3,4,5,6,9,25,26,27],[3,4,5,6,9,25,26,27,32],([6,7],()),[3,4,5,6,25,26,27],[3,4,5,6,25,26,27],()))) h (Ae G hs) hN E F u C trivial (q2 aj (fun e s=>Vl11 ml11 e s (Nat.lt_succ_self _)))
 ·clear h;rintro e st ⟨Xk3,Rk3,rfl,rfl,C,h⟩
  rw [Hq] at h
  refine td hN E F u C ?_
  have hs:=Ae (Ty.cs_eqs a2) hs
  refine rg [4,6,10] hs ?_
  refine rg [4,6,10,11] hs ?_
  refine AA (fun e st=>∃ (p:Cpm) (l:List (ByteArray × Ex)) (w:List AV) (q:Ev.Own),Ck e st B Rw L [(6,true,.box (B.length+3) 0),(10,true,.box (B.length+4) 0),(11,true,.box (B.length+5) 0)] [[.list (a0.map AP) .none],[.list (a1.map AP) .none],a2.cs,[.list ([]) .full],w,[.list (l.map AP) q]] [(6,l.length,q)] (w.map AV.pubCell = .list (p.first.map AP) .none::((p.mid.cs)++([.val (.bool p.ok)]))∧Iz n p l=some r)) ?_ ?_
  ·intro K26 ae
   refine rg [6,10,11,41,42,43] hs ?_
   apply Au
   refine AC (fun m e st=>∃ (t:Int) (d:Cpm) (g:List (ByteArray × Ex)) (v:List AV) (o:Ev.Own),Ck e st B Rw L [(6,true,.box (B.length+3) 0),(10,true,.box (B.length+4) 0),(11,true,.box (B.length+5) 0),(41,true,.list (a1.map AP) .none),(42,true,Am (a1.length:Int)),(43,true,Am t)] [[.list (a0.map AP) .none],[.list (a1.map AP) .none],a2.cs,[.list ([]) .full],v,[.list (g.map AP) o]] [(6,g.length,o)] (v.map AV.pubCell = .list (d.first.map AP) .none::((d.mid.cs)++([.val (.bool d.ok)]))∧Ek n a1 m t d g=some r)) n ⟨0,(Cpm.mk a0 a2 true),([]),([.list (a0.map AP) .none,Am a2.kind,Am a2.min,Am a2.max,Am a2.scale,.list (a2.words.map Eo) .none,.list (a2.elem.map KF) .none,.list (a2.fields.map CW) .none,.val (.bool true)]),.full,([]),Rk3,ef (cm hs),ef (cm hs),Owns.of_eq ((C).full 6 0) E0,ef (cm hs),h⟩ ?_
   rintro ml28 e st ⟨t,d,g,v,o,Xl28,Rl28,rfl,rfl,C,V,h⟩ Ul28 Vl28
   cases ml28 with
   | zero=>cases h
   | succ ml28 =>
   rw [Ek] at h
   refine Ba (B.length+4) (by first | rfl | (simp only [CG,BK,BJ,Bl];rfl)) V ?_;simp +decide only [go_sem,Nat.reduceAdd]
   show Em _ _ _ _ _ _ _ _ [(6,true,.box (B.length+3) 0),(10,true,.box (B.length+4) 0),(11,true,.box (B.length+5) 0),(41,true,.list (a1.map AP) .none),(42,true,Am (a1.length:Int)),(43,true,Am t)] ⟨B++([[.list (a0.map AP) .none],[.list (a1.map AP) .none],a2.cs,[.list ([]) .full],.list (d.first.map AP) .none::((d.mid.cs)++([.val (.bool d.ok)])),[.list (g.map AP) o]]++Xl28),Rl28,L⟩
   have hU:=C.unders
   simp only [List.mem_cons,List.not_mem_nil,or_false,forall_eq_or_imp,forall_eq] at hU
   refine td hN E F u C ?_
   refine rg [6,10,11,41,42,43,44] hs ?_
   apply Ap;intro K30 J
   refine Cj h hs ?_ ?_<;>intro hs h
   rotate_left
   ·have k:=hs.1
    refine sx [6,10,11] hs ae ?_
    exact ⟨d,g,(.list (d.first.map AP) .none::((d.mid.cs)++([.val (.bool d.ok)]))),o,([]),Rl28,ef (cm hs),ef (cm hs),Owns.of_eq (C) E0,ef (cm hs),h⟩
   have k:=hs.1
   refine sk [6,10,11,41,42,43] hs J ?_
   clear J
   apply Ap;intro K32 O
   apply Au
   obtain ⟨D,ak,h⟩:=bind_some h
   obtain ⟨ap,ay,Y⟩:=Bt ak
   have c:=Bv (f:=AP) Y
   have hs:=Ae c hs
   refine rg [6,10,11,13,41,42,43] hs ?_
   obtain ⟨j,Q,h⟩:=bind_some h
   obtain ⟨K,h⟩:=Av h
   obtain ⟨aw,H,C,b⟩:=C.append (P:=Tryz.prog) YC (by rw [Rh];rfl) (by decide) 1 K.1 K.2
   replace b:=fun (ys:List AV) B L o2=>b (g.map AP) ys B L o2 E0
   replace b:=fun (y:AV) B L o2=>b [y] B L o2 E0 ev
   try simp only [List.mem_singleton,List.mem_cons,List.not_mem_nil,or_false,forall_eq_or_imp,forall_eq,List.map_append,List.map_cons,List.map_nil,Ge,Gi,F3,ES,EY,F7,Dn,D5,F2,CN,CM,Ej,D7,Ef,F4,Ee,FZ] at b
   apply Gt OJ [1,7,8,9,10,12] [6,10,11,41,42,43] kr (fun s=>∃ (X:As) (rows:Ax) (c4:List AV) (c5:List AV),s=⟨B++([[.list (a0.map AP) .none],[.list (a1.map AP) .none],[Am a2.kind,Am a2.min,Am a2.max,Am a2.scale,.list (a2.words.map Eo) .none,.list (a2.elem.map KF) .none,.list (a2.fields.map CW) .none],[.list ([]) .full],c4,c5,.val (.string D.1)::(D.2.cs)]++X),rows,L⟩) 7 (B.length+7)
   ·simp +decide only [go_sem,Nat.reduceAdd]
   ·rintro s ⟨X,rows,c4,c5,rfl⟩
    refine ⟨1,?_⟩
    rw [Aq];simp +decide only [go_sem,Nat.reduceAdd,Dw,Ty.cs_eqs a2,k,c,Ex.cs_eqs j.1,b]
    (repeat' apply Ae)<;>first | rfl | exact cl
   ·refine Good.mk [1,7] kr ⟨[],_,_,_,by first | rfl | simp only [List.append_nil,List.nil_append]⟩ ?_ ?_
    ·intro h;exact absurd h (by decide)
    ·intro i hi;simp only [List.mem_cons,List.not_mem_nil,or_false] at hi
     rcases hi with rfl | rfl
     ·apply Cc rfl rfl ev
      ·simp +decide only [go_sem,Nat.reduceAdd,DW,Ty.cs_eqs a2,k,c,Ex.cs_eqs j.1,b]
       (repeat' apply Ae)<;>first | rfl | exact cl
      ·simp +decide only [go_sem,Nat.reduceAdd,Ty.cs_eqs a2,k,c,Ex.cs_eqs j.1,b]
       refine Good.mk [7] kr ⟨[],_,_,_,by first | rfl | simp only [List.append_nil,List.nil_append]⟩ ?_ ?_
       ·intro h;exact absurd h (by decide)
       ·intro i hi;simp only [List.mem_cons,List.not_mem_nil,or_false] at hi
        subst hi
        ·apply Cc rfl rfl ev
         ·simp +decide only [go_sem,Nat.reduceAdd,DW,Ty.cs_eqs a2,k,c,Ex.cs_eqs j.1,b]
          have hs:=Ae (Ex.cs_eqs j.1) hs
          have hs:=Ae b hs
          (repeat' with_reducible apply Ae)<;>first | exact ND (F9 w0 hE hM hP n _ _ _ (B.length+4) d (ef hs) D.2 _ Q) (hv hs) | rfl | exact cl
         ·simp +decide only [go_sem,Nat.reduceAdd,Ty.cs_eqs a2,k,c,Ex.cs_eqs j.1,b]
          exact gd (tg (a:=(8,9,10,12,[6,10,11,41,42,43]))) (Ae b (Ae (Ex.cs_eqs j.1) (Ae c (Ae (Ty.cs_eqs a2) hs))))
     ·apply Cc rfl rfl ev
      ·simp +decide only [go_sem,Nat.reduceAdd,DW,Ty.cs_eqs a2,k,c,Ex.cs_eqs j.1,b]
       have hs:=Ae (Ex.cs_eqs j.1) hs
       have hs:=Ae b hs
       (repeat' with_reducible apply Ae)<;>first | exact ND (F9 w0 hE hM hP n _ _ _ (B.length+4) d (ef hs) D.2 _ Q) (hv hs) | rfl | exact cl
      ·simp +decide only [go_sem,Nat.reduceAdd,Ty.cs_eqs a2,k,c,Ex.cs_eqs j.1,b]
       refine Good.mk [1,8] kr ⟨[],_,_,_,by first | rfl | simp only [List.append_nil,List.nil_append]⟩ ?_ ?_
       ·intro h;exact absurd h (by decide)
       ·intro i hi;simp only [List.mem_cons,List.not_mem_nil,or_false] at hi
        rcases hi with rfl | rfl
        ·apply Cc rfl rfl ev
         ·simp +decide only [go_sem,Nat.reduceAdd,DW,Ty.cs_eqs a2,k,c,Ex.cs_eqs j.1,b]
          (repeat' apply Ae)<;>first | rfl | exact cl
         ·simp +decide only [go_sem,Nat.reduceAdd,Ty.cs_eqs a2,k,c,Ex.cs_eqs j.1,b]
          exact gd (tg (a:=(8,9,10,12,[6,10,11,41,42,43]))) (Ae b (Ae (Ex.cs_eqs j.1) (Ae c (Ae (Ty.cs_eqs a2) hs))))
        ·apply Cc rfl rfl ev
         ·simp +decide only [go_sem,Nat.reduceAdd,DW,Ty.cs_eqs a2,k,c,Ex.cs_eqs j.1,b]
          (repeat' apply Ae)<;>first | rfl | exact cl
         ·simp +decide only [go_sem,Nat.reduceAdd,Ty.cs_eqs a2,k,c,Ex.cs_eqs j.1,b]
          refine Good.mk [1,9] kr ⟨[],_,_,_,by first | rfl | simp only [List.append_nil,List.nil_append]⟩ ?_ ?_
          ·intro h;exact absurd h (by decide)
          ·intro i hi;simp only [List.mem_cons,List.not_mem_nil,or_false] at hi
           rcases hi with rfl | rfl
           ·apply Cc rfl rfl ev
            ·simp +decide only [go_sem,Nat.reduceAdd,DW,Ty.cs_eqs a2,k,c,Ex.cs_eqs j.1,b]
             (repeat' apply Ae)<;>first | rfl | exact cl
            ·simp +decide only [go_sem,Nat.reduceAdd,Ty.cs_eqs a2,k,c,Ex.cs_eqs j.1,b]
             exact gd (tg (a:=(9,10,12,[6,10,11,41,42,43]))) (Ae b (Ae (Ex.cs_eqs j.1) (Ae c (Ae (Ty.cs_eqs a2) hs))))
           ·apply Cc rfl rfl ev
            ·simp +decide only [go_sem,Nat.reduceAdd,DW,Ty.cs_eqs a2,k,c,Ex.cs_eqs j.1,b]
             (repeat' apply Ae)<;>first | rfl | exact cl
            ·simp +decide only [go_sem,Nat.reduceAdd,Ty.cs_eqs a2,k,c,Ex.cs_eqs j.1,b]
             exact gd (tg (a:=(1,10,12,[6,10,11,41,42,43]))) (Ae b (Ae (Ex.cs_eqs j.1) (Ae c (Ae (Ty.cs_eqs a2) hs))))
   simp +decide only [go_sem,Nat.reduceAdd,Ty.cs_eqs a2,k,c,Ex.cs_eqs j.1,b]
   (repeat' apply Ae)<;>first | refine O _ _ ?_ | exact cl
   clear O
   obtain ⟨az,h⟩:=Av h
   have hs:=Ae (Ex.cs_eqs j.1) hs
   have hs:=Ae b hs
   refine rl [6,10,11,41,42,43] hs (fun e s=>Vl28 ml28 e s (Nat.lt_succ_self _)) ?_
   exact ⟨(t+1),j.2,(g++([(D.1,j.1)])),(.list (j.2.first.map AP) .none::((j.2.mid.cs)++([.val (.bool j.2.ok)]))),aw,([.val (.string D.1)::(D.2.cs)]),H,ef (cm hs),ef (cm hs),Owns.of_eq (C) E0,ef (cm hs),h⟩
  ·clear h;rintro e st ⟨p,l,w,q,Xk25,Rk25,rfl,rfl,C,V,h⟩
   rw [Iz] at h
   refine Ba (B.length+4) (by first | rfl | (simp only [CG,BK,BJ,Bl];rfl)) V ?_;simp +decide only [go_sem,Nat.reduceAdd]
   show Em _ _ _ _ _ _ _ _ [(6,true,.box (B.length+3) 0),(10,true,.box (B.length+4) 0),(11,true,.box (B.length+5) 0)] ⟨B++([[.list (a0.map AP) .none],[.list (a1.map AP) .none],a2.cs,[.list ([]) .full],.list (p.first.map AP) .none::((p.mid.cs)++([.val (.bool p.ok)])),[.list (l.map AP) q]]++Xk25),Rk25,L⟩
   have hU:=C.unders
   simp only [List.mem_cons,List.not_mem_nil,or_false,forall_eq_or_imp,forall_eq] at hU
   refine td hN E F u C ?_
   apply Ap;intro K41 N
   refine rg [6,11,64] hs ?_
   refine Cj h hs ?_ ?_<;>intro hs h
   ·refine rg [6,7] hs ?_
    exact rt h hs u C
   refine sk [6,11] hs N ?_
   clear N
   apply Ap;intro K45 af
   obtain ⟨a3,ai,h⟩:=bind_some h
   refine rc 2 [6,11,14] hs ?_;intro K46 ah
   refine Az _ (N8 w0 hE hM hP hT n _ _ _ l _ ai) (hv hs) ?_
   exact go (tg (a:=([6,11,14,69],([6,7],()),[6,11],[6,7],()))) h hs hN E F u C trivial (q2 ah af)
theorem WP (n n':Nat):∀ (m m':Nat) (l:List Part) (s:ByteArray),s.size<m→s.size<m'→s.size≤300→EF n m l s=EF n' m' l s
 | 0,_,_,_,h,_,_=>absurd h (Nat.not_lt_zero _)
 | _,0,_,_,_,h,_=>absurd h (Nat.not_lt_zero _)
 | m+1,m'+1,l,s,h,h',hs=>by
  rw [EF,EF,XC]
  by_cases c:s.size=0
  ·rw [Ah c,Aj (by decide),Aj (by decide)];rfl
  ·obtain ⟨p,r,b,e,d,a⟩:=ZbA s (by omega) hs
   rw [Ag c,Ai (by rfl),Ai (by rfl),e,Af,Af,WP n n' m m' (l++[p]) r (by omega) (by omega) (by omega)]
theorem Zhj (n n':Nat) (h:302≤n) (h':302≤n') (s:ByteArray):Yr n s=Yr n' s:=by
 unfold Yr
 congr 1
 rw [CZ,CZ]
 by_cases c:G5 s ⟨#[]⟩=true
 ·rw [Ai c,Ai c]
 rw [Aj c,Aj c]
 by_cases d:200<(s.size:Int)
 ·rw [Ai (Ah d),Ai (Ah d)]
 have z:(⟨#[46]⟩:ByteArray).size=1:=rfl
 have a:¬ decide (200<(s.size:Int))=true:=by rw [decide_eq_true_eq];exact d
 rw [Aj a,Aj a,Ai (by rw [z];omega),Ai (by rw [z];omega)]
 exact WP n n' n n' [] _ (by rw [ByteArray.size_append,z];omega) (by rw [ByteArray.size_append,z];omega) (by rw [ByteArray.size_append,z];omega)
def XJ:Ty→TF→Bool→List Part→TF × Bool
 | _,f,b,[]=>(f,b)
 | t,f,b,p::r=>if p.kind=1∧t.kind=9 then (match IP t p.name with
  | some g=>XJ g.2.2.2.1 g true r
  | none=>(NJ,false)) else (NJ,false)
def fAt (t:Ty) (l:List Part):TF × Bool:=XJ t NJ false l
theorem ZdN (n:Nat) (hn:1500000≤n) (l:List Part) (hl:l.length≤1000):∀ (k m i:Nat) (t:Ty) (f:TF) (b:Bool),i+k=l.length→k<m→t.small→Eu n l m b (i:Int) t f=some (XJ t f b (l.drop i))
 | k,0,i,_,_,_,_,h,_=>absurd h (Nat.not_lt_zero _)
 | 0,m+1,i,t,f,b,hi,_,_=>by
  rw [Eu,AH,Ac,Aj (by decide),It,List.drop_eq_nil_of_le (by omega)];rfl
 | k+1,m+1,i,t,f,b,hi,hm,ts=>by
  have a:i<l.length:=by omega
  have d:=ts.1
  rw [Eu,AH,Ah a,Ai rfl,AK a,Af,List.drop_eq_getElem_cons a,XJ]
  by_cases c:l[i].kind=1∧t.kind=9
  ·rw [Ai c,Ah c.1,Ah c.2,Aj (by decide),QR n t _ (by omega) ts (.inl c.2),Af]
   cases hF:IP t l[i].name with
   | none=>rfl
   | some g =>
    have ih:=ZdN n hn l hl k m (i+1) g.2.2.2.1 g true (by omega) (by omega) (Ty.small_field ts (LU hF).1)
    simp only [Option.isSome_some,Option.getD_some,Bool.not_true,Bool.false_eq_true,if_false]
    rw [Ai (AG (by omega))]
    exact ih
  ·rw [Aj c,Ai (by simp only [Bool.or_eq_true,Bool.not_eq_true',decide_eq_false_iff_not];omega)]
   rfl
theorem Zek (n:Nat) (hn:1500000≤n) (t:Ty) (ts:t.small) (l:List Part) (hl:l.length≤1000):Gj n t l=some (fAt t l):=by
 have:=ZdN n hn l hl l.length n 0 t NJ false (by omega) (by omega) ts
 rw [List.drop_zero] at this
 exact this
theorem ZeL (n:Nat) (ag:Int→Ty→TF→Option (TF × Bool)) (l:List Part) (i:Nat) (hi:i<l.length) (t:Ty) (f:TF) (ht:t.fields.length≤1000000):∀ (k m j:Nat),j+k=t.fields.length→k<m →
  FI n ag l (i:Int) t f m (j:Int)=if l[i].kind=1∧t.kind=9 then (match (t.fields.drop j).find? (fun x=>G5 x.2.1 l[i].name) with
   | some g=>FM n ag i true g
   | none=>FM n ag i false f) else FM n ag i false f
 | k,0,j,_,h=>absurd h (Nat.not_lt_zero _)
 | 0,m+1,j,hj,_=>by
  rw [FI,AH,Ag (show ¬ j<t.fields.length by omega),Bool.false_and,Aj (by decide),List.drop_eq_nil_of_le (by omega)]
  split<;>rfl
 | k+1,m+1,j,hj,hm=>by
  have a:j<t.fields.length:=by omega
  have ih:=ZeL n ag l i hi t f ht k m (j+1) (by omega) (by omega)
  have ih:FI n ag l (i:Int) t f m ((j:Int)+1)=_:=ih
  rw [FI,AH,Ah a,Bool.true_and]
  by_cases k9:t.kind=9
  rotate_left
  ·rw [Ag k9,Aj (by decide),Aj (fun q=>k9 q.2)]
  rw [Ah k9,Ai rfl,AK hi,Af]
  by_cases k1:l[i].kind=1
  ·rw [Ah k1,Ai rfl,AK a,Af,Ai (show l[i].kind=1∧t.kind=9 from ⟨k1,k9⟩),List.drop_eq_getElem_cons a,List.find?_cons]
   rw [Ai (show l[i].kind=1∧t.kind=9 from ⟨k1,k9⟩)] at ih
   rw [Ai (AG (by omega)),ih]
   cases G5 t.fields[j].2.1 l[i].name with
   | true=>simp
   | false=>simp
  ·rw [Ag k1,Aj (by decide),Ai (AG (by omega)),ih,Aj (fun q:l[i].kind=1∧t.kind=9=>k1 q.1),Aj (fun q:l[i].kind=1∧t.kind=9=>k1 q.1)]
theorem Zig (n:Nat) (hn:1500000≤n) (l:List Part) (hl:l.length≤1000):∀ (k m i:Nat) (t:Ty) (f:TF),i+k=l.length→k<m→t.small→D9 n l m (i:Int) t f=some (XJ t f (decide (0<(l.length:Int))) (l.drop i))
 | k,0,i,_,_,_,h,_=>absurd h (Nat.not_lt_zero _)
 | 0,m+1,i,t,f,hi,_,_=>by
  rw [D9,AH,Ac,Aj (by decide),PT,List.drop_eq_nil_of_le (by omega)];rfl
 | k+1,m+1,i,t,f,hi,hm,ts=>by
  have a:i<l.length:=by omega
  have e:=ts.1
  have d:=t.lens
  have b:FI n (D9 n l m) l (i:Int) t f n 0=_:=ZeL n (D9 n l m) l i a t f (by omega) t.fields.length n 0 (by omega) (by omega)
  rw [D9,AH,Ah a,Ai rfl,b,List.drop_zero,List.drop_eq_getElem_cons a,XJ]
  by_cases c:l[i].kind=1∧t.kind=9
  ·rw [Ai c,Ai c]
   show (match IP t l[i].name with | some g=>FM n (D9 n l m) i true g | none=>FM n (D9 n l m) i false f)=_
   cases hF:IP t l[i].name with
   | none=>rfl
   | some g =>
    have ih:=Zig n hn l hl k m (i+1) g.2.2.2.1 g (by omega) (by omega) (Ty.small_field ts (LU hF).1)
    simp only
    rw [FM,Aj (by decide),NG,Ai (AG (by omega))]
    rw [Ah (show 0<(l.length:Int) by omega)] at ih
    exact ih
  ·rw [Aj c,Aj c];rfl
theorem ZM (n:Nat) (hn:1500000≤n) (t:Ty) (ts:t.small) (l:List Part) (hl:l.length≤1000):Na n t l=some (fAt t l):=by
 have:=Zig n hn l hl l.length n 0 t NJ (by omega) (by omega) ts
 rw [List.drop_zero] at this
 refine Eq.trans this (congrArg some ?_)
 cases l with
 | nil=>rfl
 | cons p r=>rfl
def FOk (f:TF):Prop:=f.2.2.2.1.small∧(f.2.2.1=3→f.2.2.2.2.length=1)∧f.2.2.2.2.length≤1∧∀ v∈f.2.2.2.2,v.small
theorem Zbw:∀ (l:List Part) (t:Ty) (f:TF) (b:Bool),t.small→t.Good→(b=true→FOk f)→(XJ t f b l).2=true→FOk (XJ t f b l).1
 | [],t,f,b,_,_,hb,h=>hb h
 | p::r,t,f,b,ts,tg,hb,h=>by
  rw [XJ] at h ⊢
  by_cases c:p.kind=1∧t.kind=9
  ·rw [Ai c] at h ⊢
   cases hF:IP t p.name with
   | none=>rw [hF] at h;exact absurd h (by simp)
   | some g =>
    rw [hF] at h
    have a:=(LU hF).1
    obtain ⟨_,_,_,_,d,e⟩:=tg.own.each _ a
    obtain ⟨_,_,_,i⟩:=(t.ok_eq.1 ts.2.2).2.2.2 _ a
    refine Zbw r g.2.2.2.1 g true (Ty.small_field ts a) (Hk tg a) (fun _=>⟨Ty.small_field ts a,d,?_,i⟩) h
    by_cases n3:g.2.2.1=3
    ·rw [d n3];exact Nat.le_refl _
    ·rw [e n3];exact Nat.zero_le _
  ·rw [Aj c] at h;exact absurd h (by simp)
theorem Ze7 {t:Ty} (ts:t.small) (tg:t.Good) (l:List Part) (h:(fAt t l).2=true):FOk (fAt t l).1:=Zbw l t NJ false ts tg (fun q=>absurd q (by decide)) h
theorem Zd7 (n:Nat) (l:List Ty) (f:Ty→Option Bool) (p:Ty→Bool) (hf:∀ x∈l,f x=some (p x)) (hl:l.length≤1000000000):∀ (k m i:Nat),i+k=l.length→k<m→B8 n l f m i=some (OB p l i)
 | k,0,i,_,h=>absurd h (Nat.not_lt_zero _)
 | 0,m+1,i,hi,_=>by
  rw [B8,AH,Ac,I9 p l i (by omega)]
  rfl
 | k+1,m+1,i,hi,hm=>by
  have a:i<l.length:=by omega
  rw [B8,AH,Ah a,HA p l i a]
  simp only [if_true,AK a,Af,hf _ (List.getElem_mem a)]
  by_cases h:p l[i]=true
  ·rw [Ai h,Ai h]
  ·rw [Aj h,Aj h,Ai (AG (by omega))]
   exact Zd7 n l f p hf hl k m (i+1) (by omega) (by omega)
theorem Ya (n:Nat) (l:List Ty) (f:Ty→Option Bool) (p:Ty→Bool) (hf:∀ x∈l,f x=some (p x)) (hl:l.length≤1000000000) (hn:l.length<n):Di n l f=some (l.any p):=by
 have e:FQ n l f=some (OB p l 0):=Zd7 n l f p hf hl l.length n 0 (by omega) hn
 rw [Di,e,Af,MN]
theorem Zb9 (rec:Ty→Option Bool) (n:Nat) (t:Ty) (p:Ty→Bool) (hr:∀ q∈t.fields,rec q.2.2.2.1=some (!p q.2.2.2.1)) (hl:t.fields.length≤1000000):∀ (k m i:Nat),i+k=t.fields.length→k<m→DV rec n t m i=some (!((t.fields.drop i).any fun q=>decide (q.2.2.1=3)||p q.2.2.2.1))
 | k,0,i,_,h=>absurd h (Nat.not_lt_zero _)
 | 0,m+1,i,hi,_=>by
  rw [DV,AH,Ac,Aj (by decide),Jq,List.drop_eq_nil_of_le (by omega)];rfl
 | k+1,m+1,i,hi,hm=>by
  have a:i<t.fields.length:=by omega
  have ih:=Zb9 rec n t p hr hl k m (i+1) (by omega) (by omega)
  rw [DV,AH,Ah a,Ai rfl,AK a,Af,List.drop_eq_getElem_cons a,List.any_cons]
  by_cases n3:t.fields[i].2.2.1=3
  ·rw [Ah n3];rfl
  rw [Ag n3,Aj (by decide),hr _ (List.getElem_mem a),Af,Bool.false_or]
  cases p t.fields[i].2.2.2.1 with
  | true=>rfl
  | false =>
   rw [Aj (by decide),Ai (AG (by omega)),Bool.false_or]
   exact ih
theorem Zeb (rec:Ty→Option Bool) (n:Nat) (t:Ty) (p:Ty→Bool) (hr:∀ x∈t.elem,rec x=some (!p x)) (hl:t.elem.length≤1000000):∀ (k m i:Nat),i+k=t.elem.length→k<m→EH rec n t m i=if (t.elem.drop i).any p=true then some false else Ik rec n t
 | k,0,i,_,h=>absurd h (Nat.not_lt_zero _)
 | 0,m+1,i,hi,_=>by
  rw [EH,AH,Ac,Aj (by decide),List.drop_eq_nil_of_le (by omega)];rfl
 | k+1,m+1,i,hi,hm=>by
  have a:i<t.elem.length:=by omega
  have ih:=Zeb rec n t p hr hl k m (i+1) (by omega) (by omega)
  rw [EH,AH,Ah a,Ai rfl,AK a,Af,List.drop_eq_getElem_cons a,List.any_cons,hr _ (List.getElem_mem a),Af]
  cases p t.elem[i] with
  | true=>simp
  | false =>
   rw [Aj (by decide),Ai (AG (by omega)),Bool.false_or]
   exact ih
theorem Zed:∀ (n:Nat) (t:Ty),t.size+10≤n→t.size≤1000000→∃ b,AM n t=some b∧Ce n t=some (!b)
 | 0,t,h,_=>by omega
 | n+1,t,h,hs=>by
  have p:=t.lens
  have l:∀ x∈t.elem,AM n x=some ((AM n x).getD false)∧Ce n x=some (!(AM n x).getD false):=fun x a=>by
   have:=t.elem_size x a
   obtain ⟨b,g,i⟩:=Zed n x (by omega) (by omega)
   rw [g,i];exact ⟨rfl,rfl⟩
  have k:∀ q∈t.fields,AM n q.2.2.2.1=some ((AM n q.2.2.2.1).getD false)∧Ce n q.2.2.2.1=some (!(AM n q.2.2.2.1).getD false):=fun q c=>by
   have:=t.field_size q c
   obtain ⟨b,g,i⟩:=Zed n q.2.2.2.1 (by omega) (by omega)
   rw [g,i];exact ⟨rfl,rfl⟩
  have o:=Ya n t.elem (fun j=>AM n j) (fun x=>(AM n x).getD false) (fun x a=>(l x a).1) (by omega) (by omega)
  have m:=Q1 n t.fields (fun j=>Da (AM n) j) (fun q=>decide (q.2.2.1=3)||(AM n q.2.2.2.1).getD false) (fun q c=>by
   have e:=(k q c).1
   rw [Da]
   by_cases n3:q.2.2.1=3
   ·rw [Ah n3,Ai rfl,Bool.true_or]
   ·rw [Ag n3,Aj (by decide),Bool.false_or]
    cases hv:AM n q.2.2.2.1 with
    | none=>rw [hv] at e;cases e
    | some b=>rfl) (by omega) (by omega)
  have d:=Zeb (Ce n) n t (fun x=>(AM n x).getD false) (fun x a=>(l x a).2) (by omega) t.elem.length n 0 (by omega) (by omega)
  have f:=Zb9 (Ce n) n t (fun x=>(AM n x).getD false) (fun q c=>(k q c).2) (by omega) t.fields.length n 0 (by omega) (by omega)
  rw [List.drop_zero] at d f
  have d:EH (Ce n) n t n 0=_:=d
  have f:DV (Ce n) n t n 0=_:=f
  rw [AM,GF,Ce,K0,o,Af,m,d,Ik,f]
  cases t.elem.any fun x=>(AM n x).getD false with
  | true=>exact ⟨true,rfl,rfl⟩
  | false=>exact ⟨_,rfl,rfl⟩
theorem ZaB (a b:ByteArray):(a++b).data.toList=a.data.toList++b.data.toList:=by
 simp [ByteArray.data_append]
theorem Zhf {a b:ByteArray} (h:a.data.toList=b.data.toList):a=b:=by
 cases a;cases b;simp only [ByteArray.mk.injEq];exact Array.toList_inj.1 h
theorem Zbx (a:ByteArray) (i:Nat):(a.extract i a.size).data.toList=a.data.toList.drop i:=by
 simp only [ByteArray.data_extract]
 have:a.size=a.data.toList.length:=by simp
 rw [this];simp only [Array.toList_extract]
 rw [List.extract_eq_take_drop,List.take_of_length_le (by rw [List.length_drop];omega)]
theorem ZbY (n:Nat) (hn:25≤n) (c:UInt8) (hc:FO ⟨#[c]⟩=true) (x:Part) (hx:x.wf∧pOk x=true) (w:ByteArray) (hw:DT x=some w) (hz:(w.size:Int)=Ye x) (h40:Ye x≤40) :
  ∃ r:ByteArray,J7 n [Part.mk 1 0 ⟨#[c]⟩,x]=some (r,0)∧r.data.toList=c::w.data.toList:=by
 obtain ⟨m,rfl⟩:∃ m,n=m+3:=⟨n-3,by omega⟩
 have e:pOk (Part.mk 1 0 ⟨#[c]⟩)=true:=by
  show (if (1:Int)=1∨(1:Int)=4 then decide ((0:Int)=0)&&FO ⟨#[c]⟩ else _)=true
  rw [Ai (by decide),hc];rfl
 have b:(Part.mk 1 0 ⟨#[c]⟩).wf:=⟨by show Bj 1;decide,by show Bj 0;decide,by show (1:Nat)≤maxLen;decide⟩
 have h:Ye (Part.mk 1 0 ⟨#[c]⟩)=2:=rfl
 have a:=QC (m+3) [Part.mk 1 0 ⟨#[c]⟩,x] (fun p hp=>by
  rcases List.mem_cons.1 hp with rfl | hp
  ·exact b
  ·rw [List.mem_singleton.1 hp];exact hx.1) (by simp) 2 (m+3) 0 (-1) rfl (by omega) (by decide) (by decide)
 have a:Fp (m+3) [Part.mk 1 0 ⟨#[c]⟩,x] (m+3) (-1) 0=_:=a
 have i:I3 (m+3) [Part.mk 1 0 ⟨#[c]⟩,x]=some 0:=by
  rw [I3,Aj (by simp),show B6 [Part.mk 1 0 ⟨#[c]⟩,x] 0=some (Part.mk 1 0 ⟨#[c]⟩) from rfl,Af,Aj (show ¬ (!decide ((1:Int)=1))=true by decide),a,Ai]
  simp only [List.drop_zero,List.all_cons,List.all_nil,e,hx.2,Bool.and_self,Bool.true_and,decide_eq_true_eq,ZgX,List.map_cons,List.map_nil,List.sum_cons,List.sum_nil,h]
  omega
 have k:B6 [Part.mk 1 0 ⟨#[c]⟩,x] 0=some (Part.mk 1 0 ⟨#[c]⟩):=rfl
 have g:B6 [Part.mk 1 0 ⟨#[c]⟩,x] (0+1)=some x:=rfl
 have l:DT (Part.mk 1 0 ⟨#[c]⟩)=some ((⟨#[46]⟩:ByteArray)++⟨#[c]⟩):=by
  rw [DT,Ai (show decide ((1:Int)=1)=true by decide)]
  exact Ai (show (1:Nat)+1≤9223372036854775807 by decide)
 have f:(((⟨#[]⟩:ByteArray)++((⟨#[46]⟩:ByteArray)++⟨#[c]⟩))++w).size=2+w.size:=by
  rw [ByteArray.size_append,ByteArray.size_append,ByteArray.size_append]
  show 0+(1+1)+w.size=_
  omega
 have j:((⟨#[]⟩:ByteArray)++((⟨#[46]⟩:ByteArray)++⟨#[c]⟩)).size=2:=by
  rw [ByteArray.size_append,ByteArray.size_append];rfl
 have d:(⟨#[]⟩:ByteArray).size+((⟨#[46]⟩:ByteArray)++⟨#[c]⟩).size≤9223372036854775807:=by
  rw [ByteArray.size_append];show 0+(1+1)≤_;decide
 refine ⟨(((⟨#[]⟩:ByteArray)++((⟨#[46]⟩:ByteArray)++⟨#[c]⟩))++w).extract 1 (((⟨#[]⟩:ByteArray)++((⟨#[46]⟩:ByteArray)++⟨#[c]⟩))++w).size,?_,?_⟩
 ·rw [J7,i,Af,Aj (by decide),IB,Ai (by simp),k,Af,l,Af,Ai d,Ai (by decide),IB,Ai (by simp),g,Af,hw,Af,Ai (by rw [j];omega),Ai (by decide),IB,Aj (by simp),Oj,Ai ⟨by decide,by rw [f];omega,Int.le_refl _⟩]
 ·rw [Zbx,ZaB,ZaB,ZaB];rfl
theorem ZbX {r:ByteArray} {c:UInt8} {w:ByteArray} (h:r.data.toList=c::w.data.toList):r.size=1+w.size∧r.extract ((if (r.size:Int)<1 then (r.size:Int) else 1)).toNat r.size=w:=by
 have a:r.size=1+w.size:=by rw [←Q8,h,List.length_cons,Q8];omega
 refine ⟨a,Zhf ?_⟩
 rw [Aa,show (1:Int).toNat=1 from rfl,Zbx,h];rfl
theorem WF (n:Nat) (hn:25≤n) (l:List Part) (hp:∀ p∈l,p.wf∧pOk p=true) (hl:l.length≤20):∀ (k m i:Nat) (s:ByteArray),i+k=l.length→k<m→s.size≤10000+40*i→∃ w,EU n l m s i=some w∧FC n l m s i=some w
 | k,0,i,_,_,h,_=>absurd h (Nat.not_lt_zero _)
 | 0,m+1,i,s,hi,_,h=>by
  rw [EU,FC,AH,Ac,Aj (by decide),Aj (by decide)]
  exact ⟨_,rfl,rfl⟩
 | k+1,m+1,i,s,hi,hm,h=>by
  have a:i<l.length:=by omega
  have b:=hp _ (List.getElem_mem a)
  obtain ⟨w,e,z,u,c⟩:=Y0 l[i] b.2
  obtain ⟨r,a1,j⟩:=ZbY n hn 120 (by decide) l[i] b w e z c
  obtain ⟨f,a2,o⟩:=ZbY n hn 97 (by decide) l[i] b w e z c
  obtain ⟨t,d⟩:=ZbX j
  obtain ⟨q,g⟩:=ZbX o
  obtain ⟨y,q1,q2⟩:=WF n hn l hp hl k m (i+1) (s++w) (by omega) (by omega) (by rw [ByteArray.size_append];omega)
  have a2:J7 n ([Part.mk 1 0 (⟨#[97]⟩:ByteArray)]++[l[i]])=some (f,0):=a2
  refine ⟨y,?_,?_⟩
  ·rw [EU,AH,Ah a,Ai rfl,AK a,Af,a1,Af,Ai ⟨by split<;>omega,by split<;>omega,Int.le_refl _⟩,d,Ab,Ai (AG (by omega))]
   exact q1
  ·rw [FC,AH,Ah a,Ai rfl,AK a,Af,Ai ⟨by decide,by decide⟩,a2,Af,Ai ⟨by split<;>omega,by split<;>omega,Int.le_refl _⟩,g,Ab,Ai (AG (by omega))]
   exact q2
theorem Zci (n:Nat) (hn:25≤n) (l:List Part) (hp:∀ p∈l,p.wf∧pOk p=true) (hl:l.length≤20) (s:ByteArray) (hs:s.size≤10000):∃ w,FB n s l=some w∧Gw n s l=some w :=
 WF n hn l hp hl l.length n 0 s (by omega) (by omega) (by omega)
theorem ZdC {p:Part} (h:pOk p=true):(p.kind=1∨p.kind=4)∨(p.kind=2∧0≤p.index∧p.index<256)∨(p.kind=3∧p.index=0):=by
 unfold pOk at h
 by_cases h1:p.kind=1∨p.kind=4
 ·exact .inl h1
 rw [Aj h1] at h
 by_cases h2:p.kind=2
 ·rw [Ai h2,Bool.and_eq_true,Bool.and_eq_true] at h
  exact .inr (.inl ⟨h2,of_decide_eq_true h.1.2,of_decide_eq_true h.2⟩)
 rw [Aj h2] at h
 by_cases h3:p.kind=3
 ·rw [Ai h3,Bool.and_eq_true] at h
  exact .inr (.inr ⟨h3,of_decide_eq_true h.2⟩)
 rw [Aj h3] at h
 exact absurd h (by decide)
theorem JU:∀ (l m:List Vl),Bm (l++m)=Bm l+Bm m
 | [],m=>by simp [Bm]
 | x::l,m=>by rw [List.cons_append,Bm,JU l m,Bm];omega
theorem ZF (l:List Vl) (a b:Nat):Bm ((l.take a).drop b)≤Bm l:=by
 have d:Bm ((l.take a).drop b)≤Bm (l.take a):=by
  have:=JU ((l.take a).take b) ((l.take a).drop b)
  rw [List.take_append_drop] at this;omega
 have c:Bm (l.take a)≤Bm l:=by
  have:=JU (l.take a) (l.drop a)
  rw [List.take_append_drop] at this;omega
 omega
def ZaW (K:Nat) (l:List Vl):Prop:=Bm l≤K∧∀ x∈l,x.ok
theorem Zg0 (n:Nat) (p:Part) (hp:pOk p=true) (x:Vl) (hx:x.ok) (hn:x.size<n) (hs:x.size≤1050000):∃ l,Ir n p x=some l∧ZaW x.size l:=by
 obtain ⟨_,b,g⟩:=x.ok_eq.1 hx
 have i:=x.size_eq
 have f:=Ni x
 rw [Ir]
 by_cases k1:p.kind=1
 ·have e:C6 n x.fields (fun (x0:ByteArray × Vl)=>some (Gn x0 p.name))=some (OB (fun x0:ByteArray × Vl=>Gn x0 p.name) x.fields 0):=ZaR n x.fields _ _ (fun x _=>rfl) (by omega) x.fields.length n 0 (by omega) (by omega)
  rw [Ah k1,Ai rfl,PX,e,Af,Af]
  rcases PY (fun x0:ByteArray × Vl=>Gn x0 p.name) x.fields x.fields.length 0 (by omega) with h | ⟨j,hj,h,_⟩
  ·rw [h];exact ⟨_,rfl,by simp [Bm],by simp⟩
  ·rw [h,Ai (by rw [decide_eq_true_eq];omega),AK hj,Af]
   have d:=List.getElem_mem hj
   have m:=x.field_size _ d
   refine ⟨_,rfl,by simp only [Bm];omega,fun y a=>?_⟩
   rw [List.mem_singleton.1 a];exact (g _ d).2
 ·rw [Ag k1,Aj (by decide)]
  split
  ·exact ⟨_,rfl,by omega,b⟩
  ·split
   ·rename_i c
    rw [Bool.and_eq_true,decide_eq_true_eq,decide_eq_true_eq] at c
    obtain ⟨k,o⟩:=c
    have r:0≤p.index∧p.index<256:=by
     rcases ZdC hp with q | q | q
     ·omega
     ·exact q.2
     ·omega
    rw [Ai (by unfold Bj;omega),Ai ⟨by omega,by omega,by omega⟩]
    have:=ZF x.list (p.index+1).toNat p.index.toNat
    exact ⟨_,rfl,by omega,fun y a=>b y (List.mem_of_mem_take (List.mem_of_mem_drop a))⟩
   ·exact ⟨_,rfl,by simp [Bm],by simp⟩
theorem Zq (n:Nat) (now:List Vl) (hs:∀ x∈now,x.size<n∧x.size≤1050000) (hl:now.length≤1050000):∀ (k m i:Nat),i+k=now.length→k<m→HB n now m (now.take i) now (i:Int)=some (now,0)∧Hh n now m (now.take i) now (i:Int)=some (now,0)
 | k,0,i,_,h=>absurd h (Nat.not_lt_zero _)
 | 0,m+1,i,hi,_=>by
  rw [HB,Hh,AH,Ac,Aj (by decide),Aj (by decide),List.take_of_length_le (by omega)]
  exact ⟨rfl,rfl⟩
 | k+1,m+1,i,hi,hm=>by
  have a:i<now.length:=by omega
  obtain ⟨b,c⟩:=hs _ (List.getElem_mem a)
  have e:now.take i++[now[i]]=now.take (i+1):=by rw [List.take_succ_eq_append_getElem a]
  rw [HB,Hh,AH,Ah a,Ai rfl,Ai rfl,AK a,Af,Af,Nx n _ b (by omega),Af,Af,Ai (by rw [List.length_take];omega),Ai (AG (by omega)),Ai (by rw [List.length_take];omega),Ai (AG (by omega)),e]
  exact Zq n now hs hl k m (i+1) (by omega) (by omega)
theorem YW (n:Nat) (l:List Part) (hl:l.length≤1000) (hn:2000≤n):Lq n l=some (l.any fun p=>Dc p):=by
 rw [Lq,NS n l _ (fun p=>Dc p) (fun _ _=>rfl) (by omega) (by omega),Af]
theorem ZdW (n:Nat) (hn:1050002≤n) (l:List Part) (hl:l.length≤1000) (now:List Vl) (K:Nat) (hK:K≤1050000) (h:ZaW K now):∃ r,LF n l now=some r∧(r.2=0→ZaW K r.1∧(r.1=[]→(l.any fun p=>Dc p)=true)):=by
 have d:=IG now
 have e:=h.1
 obtain ⟨a,b⟩:=Zq n now (fun x c=>by have:=JE now x c;omega) (by omega) now.length n 0 (by omega) (by omega)
 rw [List.take_zero] at a b
 have a:HB n now n [] now 0=_:=a
 have b:Hh n now n [] now 0=_:=b
 rw [LF]
 by_cases z:(now.length:Int)=0
 ·rw [Ah z,Ai rfl,YW n l hl (by omega),Af]
  cases l.any fun p=>Dc p with
  | false=>exact ⟨_,rfl,fun q=>absurd q (by decide)⟩
  | true =>
   rw [Aj (by decide),a]
   exact ⟨_,rfl,fun _=>⟨h,fun _=>rfl⟩⟩
 ·rw [Ag z,Aj (by decide),b]
  exact ⟨_,rfl,fun _=>⟨h,fun q=>by simp only at q;rw [q] at z;exact absurd rfl z⟩⟩
theorem YP (n:Nat) (hn:1050002≤n) (l:List Part) (hl:l.length≤1000) (hp:∀ p∈l,pOk p=true) (K:Nat) (hK:K≤1050000):∀ (k m i:Nat) (now:List Vl),i+k=l.length→k<m→ZaW K now→∃ r,EX n l m now (i:Int)=some r∧(r.2=0→ZaW K r.1∧(r.1=[]→(l.any fun p=>Dc p)=true))
 | k,0,i,_,_,h,_=>absurd h (Nat.not_lt_zero _)
 | 0,m+1,i,now,hi,_,h=>by
  rw [EX,AH,Ac,Aj (by decide)]
  exact ZdW n hn l hl now K hK h
 | k+1,m+1,i,now,hi,hm,h=>by
  have g:i<l.length:=by omega
  have E:=IG now
  have G:=h.1
  rw [EX,AH,Ah g,Ai rfl,AK g,Af]
  have o:∀ (k' c d:Nat) (a:List Vl),d+k'=now.length→k'<c→Bm a+Bm (now.drop d)≤K→(∀ x∈a,x.ok)→∃ r,IM n (EX n l m) now (i:Int) l[i] c a now (d:Int)=some r∧(r.2=0→ZaW K r.1∧(r.1=[]→(l.any fun p=>Dc p)=true)):=by
   intro k'
   induction k' with
   | zero =>
    intro c d a y u s j
    obtain ⟨c,rfl⟩:∃ q,c=q+1:=⟨c-1,by omega⟩
    rw [IM,AH,Ac,Aj (by decide),N1,NN,Ai (AG (by omega))]
    exact YP n hn l hl hp K hK k m (i+1) a (by omega) (by omega) ⟨by omega,j⟩
   | succ k' ih =>
    intro c d a y u s j
    obtain ⟨c,rfl⟩:∃ q,c=q+1:=⟨c-1,by omega⟩
    have b:d<now.length:=by omega
    have f:=List.getElem_mem b
    have z:=JE now _ f
    rw [ZA now d b] at s
    rw [IM,AH,Ah b,Ai rfl,AK b,Af]
    split
    ·exact ⟨_,rfl,fun q=>absurd q (by decide)⟩
    obtain ⟨w,e,C,t⟩:=Zg0 n l[i] (hp _ (List.getElem_mem g)) now[d] (h.2 _ f) (by omega) (by omega)
    have D:=IG w
    have F:=IG a
    rw [e,Af,Ab,Ai (AG (by omega))]
    exact ih c (d+1) (a++w) (by omega) (by omega) (by rw [JU];omega) (fun x v=>(List.mem_append.1 v).elim (j x) (t x))
  exact o now.length n 0 [] (by omega) (by omega) (by rw [List.drop_zero,Bm];omega) (by simp)
theorem ZiI (n:Nat) (hn:1100000≤n) (v:Vl) (hv:v.ok) (hs:v.size≤1050000) (l:List Part) (hp:∀ p∈l,p.wf∧pOk p=true) (hl:l.length≤20):∃ r,NQ n v l=some r∧(r.2=0→r.1.size≤1050001∧r.1.ok):=by
 obtain ⟨b,e⟩:=Y7 n (by omega) l (fun p h=>(hp p h).1) hl
 have f:∃ r,Pe n v l=some r∧(r.2=0→ZaW v.size r.1∧(r.1=[]→(l.any fun p=>Dc p)=true)):=by
  rw [Pe,e,Af]
  cases b with
  | false=>exact ⟨_,rfl,fun q=>absurd q (by decide)⟩
  | true =>
   rw [Ai rfl,Aj (by decide)]
   exact YP n (by omega) l (by omega) (fun p h=>(hp p h).2) v.size hs l.length n 0 [v] (by omega) (by omega) ⟨by simp [Bm],fun x d=>by rw [List.mem_singleton.1 d];exact hv⟩
 obtain ⟨r,q,h⟩:=f
 rw [NQ,q,Af]
 by_cases c:r.2=0
 rotate_left
 ·rw [Ag c,Ai (by rfl)];exact ⟨_,rfl,fun q=>absurd q c⟩
 obtain ⟨⟨g,a⟩,i⟩:=h c
 rw [Ah c,Aj (by decide),YW n l (by omega) (by omega),Af]
 cases he:l.any fun p=>Dc p with
 | true =>
  rw [Ai rfl]
  refine ⟨_,rfl,fun _=>⟨?_,(Vl.ok_eq _).2 ⟨(by show (⟨#[]⟩:ByteArray).size≤1048576;decide),a,by simp [Vl.fields]⟩⟩⟩
  rw [Vl.size_eq];simp only [Vl.list,Vl.fields,E3];omega
 | false =>
  rw [Aj (by decide)]
  obtain ⟨r1,j⟩:=r
  cases r1 with
  | nil=>exact absurd (i rfl) (by rw [he];decide)
  | cons x w =>
   rw [show B6 (x::w) 0=some x from rfl,Af]
   refine ⟨_,rfl,fun _=>⟨?_,a x (List.mem_cons_self ..)⟩⟩
   simp only [Bm] at g ⊢; omega
abbrev P8:=List (ByteArray × Ex)
def zeroE:Ex:=Ex.mk 0 0 ⟨#[]⟩ [] []
def D1 (n:Nat) (m:P8):List (List Part):=m.map fun r=>(Yr n r.1).1
theorem ZbC (n:Nat) (hn:302≤n) (m:P8):∀ l∈D1 n m,O7 l:=fun l a=>by
 obtain ⟨r,_,rfl⟩:=List.mem_map.1 a
 exact (Qp n hn r.1).2
theorem ZC (n n':Nat) (h:302≤n) (h':302≤n') (m:P8):D1 n m=D1 n' m:=by
 unfold D1
 exact List.map_congr_left fun r _=>by rw [Zhj n n' h h']
theorem ZaP (n:Nat) (hn:2000≤n) (m:P8) (hm:m.length≤8) (t:Ty) (p:List Part):Dk n (Cps.mk m (D1 n m) t) p=some ((D1 n m).any fun x=>Md x p):=by
 have b:(D1 n m).length≤8:=by rw [D1,List.length_map];exact hm
 rw [Dk,Rz n _ _ (fun x=>Md x p) (fun x a=>by
  have:=(ZbC n (by omega) m x a).1
  rw [CL,S4 n _ _ (by omega) (by omega)];rfl) (by simp only;omega) (by simp only;omega)]
 rfl
theorem RH (n:Nat) (hn:2000≤n) (m:P8) (hm:m.length≤8) (t:Ty) (b:Bool) (p:List Part) (hp:p.length≤100):∀ (k q i:Nat),i+k=m.length→k<q→BM n (Cpm.mk m t b) p q (i:Int)=some (((D1 n m).drop i).any fun x=>Md x p)
 | k,0,i,_,h=>absurd h (Nat.not_lt_zero _)
 | 0,q+1,i,hi,_=>by
  rw [BM,AH,Ag (show ¬ i<m.length by omega),Aj (by decide),EC,List.drop_eq_nil_of_le (by rw [D1,List.length_map];omega)];rfl
 | k+1,q+1,i,hi,hq=>by
  have a:i<m.length:=by omega
  have c:i<(D1 n m).length:=by rw [D1,List.length_map];omega
  have ih:=RH n hn m hm t b p hp k q (i+1) (by omega) (by omega)
  obtain ⟨e,ok⟩:=Qp n (by omega) m[i].1
  have f:=ok.1
  have d:(D1 n m)[i]=(Yr n m[i].1).1:=by simp [D1]
  rw [BM,AH,Ah (show i<m.length from a),Ai rfl,AK (l:=m) a,Af,e,Af,Xl n _ _ (by omega) (by omega),Af,List.drop_eq_getElem_cons c,List.any_cons,d]
  cases Md (Yr n m[i].1).1 p with
  | true=>rfl
  | false =>
   rw [Aj (by decide),Ai (AG (by omega)),Bool.false_or]
   exact ih
theorem X1 (n:Nat) (hn:2000≤n) (m:P8) (hm:m.length≤8) (t:Ty) (b:Bool) (p:List Part) (hp:p.length≤100):CJ n (Cpm.mk m t b) p=some ((D1 n m).any fun x=>Md x p):=by
 have:=RH n hn m hm t b p hp m.length n 0 (by omega) (by omega)
 rw [List.drop_zero] at this
 exact this
def SubR (m:P8) (t:Ty) (b:Bool) (A:Option (Ex × Bool × Bool)) (Z:Option (Ex × Bool × Cpm)):Prop :=
 ∃ (o:Ex) (al ok:Bool),A=some (o,al,ok)∧Z=some (o,al,Cpm.mk m t (b&&ok))∧o.bnd 5∧(ok=false→al=false∧o=zeroE)
theorem ZcX:zeroE.bnd 5:=⟨by simp [zeroE,Ex.value],by simp [zeroE,Ex.args],by simp [zeroE,Ex.args],by simp [zeroE,Ex.value]⟩
theorem SubR.none (m:P8) (t:Ty) (b:Bool):SubR m t b (some (zeroE,false,false)) (some (zeroE,false,Cpm.mk m t false)) :=
 ⟨zeroE,false,false,rfl,by rw [Bool.and_false],ZcX,fun _=>⟨rfl,rfl⟩⟩
theorem SubR.val (m:P8) (t:Ty) (b:Bool) (v:Vl) (hv:v.size≤1100000∧v.ok):SubR m t b (some (Ex.mk 1 0 ⟨#[]⟩ [v] [],true,true)) (some (Ex.mk 1 0 ⟨#[]⟩ [v] [],true,Cpm.mk m t b)) :=
 ⟨_,true,true,rfl,by rw [Bool.and_true],⟨fun x a=>by rw [List.mem_singleton.1 a];exact hv,by simp [Ex.args],by simp [Ex.args],by simp [Ex.value]⟩,fun q=>absurd q (by decide)⟩
theorem ZbL (n:Nat) (hn:1500000≤n) (m:P8) (hm:m.length≤8) (t:Ty) (ts:t.small) (tg:t.Good) (b:Bool) (y:List Part × Int) (hy:O7 y.1):∀ (k q i:Nat),i+k=(y.1.drop 1).length→k<q →
  SubR m t b (Bn n (Cps.mk m (D1 n m) t) (y.1.drop 1) q (i:Int)) (AU n (Cpm.mk m t b) y q ((i+1:Nat):Int))
 | k,0,i,_,h=>absurd h (Nat.not_lt_zero _)
 | 0,q+1,i,hi,_=>by
  rw [Bn,AU,AH,Ag (show ¬ i<(y.1.drop 1).length by omega),Aj (by decide),Ag (show ¬ ((i+1:Nat):Int)≤((y.1.drop 1).length:Int) by omega),Aj (by decide)]
  exact SubR.none m t b
 | k+1,q+1,i,hi,hq=>by
  have ih:=ZbL n hn m hm t ts tg b y hy k q (i+1) (by omega) (by omega)
  have D:=hy.1
  have H:∀ p∈y.1.drop 1,p.wf∧pOk p=true:=fun p h=>hy.2 p (List.mem_of_mem_drop h)
  have u:(y.1.drop 1).length≤16:=by rw [List.length_drop];omega
  have g:i<(y.1.drop 1).length:=by omega
  have E:((i:Int)+1).toNat=i+1:=by omega
  have J:(((i+1:Nat):Int)).toNat=i+1:=rfl
  have d:Bj ((i:Int)+1):=AG (by omega)
  have f:Bj (((i+1:Nat):Int)+1):=AG (by omega)
  have s:((y.1.drop 1).take (i+1)).length≤100:=by rw [List.length_take];omega
  have K:=Zek n hn t ts ((y.1.drop 1).take (i+1)) (by omega)
  have w:=ZM n hn t ts ((y.1.drop 1).take (i+1)) (by omega)
  have l:=ZaP n (by omega) m hm t ((y.1.drop 1).take (i+1))
  have G:=X1 n (by omega) m hm t b ((y.1.drop 1).take (i+1)) (by omega)
  have fok:=Ze7 ts tg ((y.1.drop 1).take (i+1))
  rw [Bn,AH,Ah g,Ai rfl,Ai d,Ai ⟨by decide,by omega,by omega⟩,Ai d,Ai ⟨by omega,by omega,by omega⟩,E,K,Af,l,Af]
  rw [AU,Ah (show ((i+1:Nat):Int)≤((y.1.drop 1).length:Int) by omega),Ai (rfl:true=true),Ai (show (0:Nat)≤0∧(0:Int)≤((i+1:Nat):Int)∧((i+1:Nat):Int)≤((y.1.drop 1).length:Int) from ⟨by decide,by omega,by omega⟩),J,w,Af]
  have z:(0:Nat)≤0∧(0:Int)≤((i+1:Nat):Int)∧((i+1:Nat):Int)≤((y.1.drop 1).length:Int):=⟨by decide,by omega,by omega⟩
  simp only [Ai z,G,Af,Ai d,Ai f]
  generalize fAt t ((y.1.drop 1).take (i+1))=F at fok ⊢
  generalize ((D1 n m).any fun x=>Md x ((y.1.drop 1).take (i+1)))=W
  cases hF:F.2 with
  | false=>simp only [Bool.not_false,Bool.true_or,if_true];exact SubR.none m t b
  | true =>
  obtain ⟨_,C,_,o⟩:=fok hF
  simp only [Bool.not_true,Bool.false_or,Bool.false_eq_true,if_false]
  by_cases n2:F.1.2.2.1=2
  ·have e:¬ F.1.2.2.1=3:=by omega
   simp only [Ah n2,Ag e,Bool.true_and,Bool.not_false,Bool.true_or,if_true]
   cases W with
   | false=>exact SubR.none m t b
   | true=>exact ih
  ·by_cases e:F.1.2.2.1=3
   rotate_left
   ·simp only [Ag n2,Ag e,Bool.false_and,Bool.not_false,Bool.true_or,Bool.false_eq_true,if_true,if_false]
    exact ih
   simp only [Ag n2,Ah e,Bool.false_and,Bool.not_true,Bool.false_or,Bool.false_eq_true,if_false]
   cases W with
   | true=>exact ih
   | false =>
    obtain ⟨v,hv⟩:=List.length_eq_one_iff.1 (C e)
    obtain ⟨U,O,j⟩:=o v (by rw [hv];exact List.mem_singleton.2 rfl)
    simp only [Bool.false_eq_true,if_false,hv,show B6 [v] 0=some v from rfl,Af]
    by_cases hr:0<(((y.1.drop 1).drop (i+1)).length:Int)
    ·have a:((i+1:Nat):Int)<((y.1.drop 1).length:Int):=by rw [List.length_drop] at hr;omega
     obtain ⟨r,g1,g2⟩:=ZiI n (by omega) v j (by omega) ((y.1.drop 1).drop (i+1)) (fun p h=>H p (List.mem_of_mem_drop h)) (by rw [List.length_drop];omega)
     rw [Ai (Ah hr),Ai (Ah a),Ai ⟨by omega,by omega,Int.le_refl _⟩,g1,Af,Af]
     by_cases c:r.2=0
     ·obtain ⟨Q,N⟩:=g2 c
      simp only [Ah c,Bool.not_true,Bool.false_eq_true,if_false]
      exact SubR.val m t b r.1 ⟨by omega,N⟩
     ·simp only [Ag c,Bool.not_false,if_true]
      exact SubR.none m t b
    ·have a:¬ ((i+1:Nat):Int)<((y.1.drop 1).length:Int):=by rw [List.length_drop] at hr;omega
     rw [Aj (by rw [decide_eq_true_eq];exact hr),Aj (by rw [decide_eq_true_eq];exact a)]
     exact SubR.val m t b v ⟨by omega,j⟩
theorem ZhS (n:Nat) (hn:1500000≤n) (m:P8) (hm:m.length≤8) (t:Ty) (ts:t.small) (tg:t.Good) (b:Bool) (y:List Part × Int) (hy:O7 y.1) :
  SubR m t b (CP n (Cps.mk m (D1 n m) t) (y.1.drop 1)) (Dh n (Cpm.mk m t b) y):=by
 have:=hy.1
 exact ZbL n hn m hm t ts tg b y hy (y.1.drop 1).length n 0 (by omega) (by rw [List.length_drop];omega)
theorem Ex.bnd.mono:∀ {d d':Nat} {e:Ex},e.bnd d→d≤d'→e.bnd d'
 | 0,_,_,h,_=>h.elim
 | d+1,0,_,_,h=>by omega
 | d+1,d'+1,e,⟨h1,h2,h3,h4⟩,h=>⟨h1,h2,fun x a=>(h3 x a).mono (by omega),h4⟩
theorem SubR.some (m:P8) (t:Ty) (b:Bool) (o:Ex) (al:Bool) (ho:o.bnd 5):SubR m t b (some (o,al,true)) (some (o,al,Cpm.mk m t b)) :=
 ⟨o,al,true,rfl,by rw [Bool.and_true],ho,fun q=>absurd q (by decide)⟩
def ZiV (n:Nat) (t:Ty) (P:List Part) (r:ByteArray × Ex) (T:List Part):Option (Ex × Bool × Bool) :=
 (Gj n t T).bind fun b =>
 if 0≤(T.length:Int)∧(T.length:Int)≤(P.length:Int)∧(P.length:Int)≤(P.length:Int) then
  if b.2 then
   (AM n b.1.2.2.2.1).bind fun q =>
   if q then
    some ((Ex.mk 0 0 (⟨#[]⟩:ByteArray) ([]) ([]),false,false))
   else
    if (decide ((((P.drop T.length).length:Int))=0))&&(decide (b.1.2.2.1=3)) then
     some ((Ex.mk 23 0 (⟨#[]⟩:ByteArray) ([]) ([r.2,Ex.mk 1 0 (⟨#[]⟩:ByteArray) b.1.2.2.2.2 ([])]),true,true))
    else
     if decide ((((P.drop T.length).length:Int))=0) then
      some ((r.2,decide (r.2.op=1),true))
     else
      if (!(decide (r.2.op=2)))||(decide (b.1.2.2.1=3)) then
       some ((Ex.mk 0 0 (⟨#[]⟩:ByteArray) ([]) ([]),false,false))
      else
       (FB n r.2.text (P.drop T.length)).bind fun h =>
       some ((Ex.mk 2 0 h ([]) ([]),false,true))
  else
   if ((decide ((((P.drop T.length).length:Int))=0))&&b.2)&&(decide (b.1.2.2.1=3)) then
    some ((Ex.mk 23 0 (⟨#[]⟩:ByteArray) ([]) ([r.2,Ex.mk 1 0 (⟨#[]⟩:ByteArray) b.1.2.2.2.2 ([])]),true,true))
   else
    if decide ((((P.drop T.length).length:Int))=0) then
     some ((r.2,decide (r.2.op=1),true))
    else
     if !(decide (r.2.op=2)) then
      some ((Ex.mk 0 0 (⟨#[]⟩:ByteArray) ([]) ([]),false,false))
     else
      (FB n r.2.text (P.drop T.length)).bind fun g =>
      some ((Ex.mk 2 0 g ([]) ([]),false,true))
 else none
def ZkZ (n:Nat) (g:Cpm) (P:List Part) (r:ByteArray × Ex) (T:List Part):Option (Ex × Bool × Cpm) :=
 (Na n g.mid T).bind fun b =>
 if b.2 then
  (Ce n b.1.2.2.2.1).bind fun y =>
  if !y then
   some ((Ex.mk 0 0 (⟨#[]⟩:ByteArray) ([]) ([]),false,Cpm.mk g.first g.mid false))
  else
   if (decide ((T.length:Int)=(P.length:Int)))&&(b.2&&(decide (b.1.2.2.1=3))) then
    some ((Ex.mk 23 0 (⟨#[]⟩:ByteArray) ([]) ([r.2,Ex.mk 1 0 (⟨#[]⟩:ByteArray) b.1.2.2.2.2 ([])]),true,g))
   else
    if decide ((T.length:Int)=(P.length:Int)) then
     some ((r.2,decide (r.2.op=1),g))
    else
     if (!(decide (r.2.op=2)))||(b.2&&(decide (b.1.2.2.1=3))) then
      some ((Ex.mk 0 0 (⟨#[]⟩:ByteArray) ([]) ([]),false,Cpm.mk g.first g.mid false))
     else
      if 0≤(T.length:Int)∧(T.length:Int)≤(P.length:Int)∧(P.length:Int)≤(P.length:Int) then
       (Gw n r.2.text (P.drop T.length)).bind fun q =>
       some ((Ex.mk 2 0 q ([]) ([]),false,g))
      else none
 else
  if (decide ((T.length:Int)=(P.length:Int)))&&(b.2&&(decide (b.1.2.2.1=3))) then
   some ((Ex.mk 23 0 (⟨#[]⟩:ByteArray) ([]) ([r.2,Ex.mk 1 0 (⟨#[]⟩:ByteArray) b.1.2.2.2.2 ([])]),true,g))
  else
   if decide ((T.length:Int)=(P.length:Int)) then
    some ((r.2,decide (r.2.op=1),g))
   else
    if (!(decide (r.2.op=2)))||(b.2&&(decide (b.1.2.2.1=3))) then
     some ((Ex.mk 0 0 (⟨#[]⟩:ByteArray) ([]) ([]),false,Cpm.mk g.first g.mid false))
    else
     if 0≤(T.length:Int)∧(T.length:Int)≤(P.length:Int)∧(P.length:Int)≤(P.length:Int) then
      (Gw n r.2.text (P.drop T.length)).bind fun h =>
      some ((Ex.mk 2 0 h ([]) ([]),false,g))
     else none
theorem ZcL (n:Nat) (hn:1500000≤n) (m:P8) (t:Ty) (ts:t.small) (tg:t.Good) (b:Bool) (P:List Part) (hP:∀ p∈P,p.wf∧pOk p=true) (hPl:P.length≤16) (r:ByteArray × Ex) (hr:r.2.fits 4) (T:List Part) (hT:Md P T=true) :
  SubR m t b (ZiV n t P r T) (ZkZ n (Cpm.mk m t b) P r T):=by
 have j:=Zfc hT
 have d:r.2.bnd 4:=hr.bnd
 obtain ⟨z,_,_,_,_⟩:=hr
 have s:(((P.drop T.length).length:Int)=0)=((T.length:Int)=(P.length:Int)):=propext (by rw [List.length_drop];omega)
 obtain ⟨w,k,q⟩:=Zci n (by omega) (P.drop T.length) (fun p h=>hP p (List.mem_of_mem_drop h)) (by rw [List.length_drop];omega) r.2.text (by omega)
 have g:0≤(T.length:Int)∧(T.length:Int)≤(P.length:Int)∧(P.length:Int)≤(P.length:Int):=⟨by omega,by omega,Int.le_refl _⟩
 have fok:=Ze7 ts tg T
 have c:SubR m t b (some (Ex.mk 2 0 w [] [],false,true)) (some (Ex.mk 2 0 w [] [],false,Cpm.mk m t b)) :=
  SubR.some m t b _ _ ⟨by simp [Ex.value],by simp [Ex.args],by simp [Ex.args],by simp [Ex.value]⟩
 have a:SubR m t b (some (r.2,decide (r.2.op=1),true)) (some (r.2,decide (r.2.op=1),Cpm.mk m t b)):=SubR.some m t b _ _ (d.mono (by omega))
 rw [ZiV,ZkZ,Zek n hn t ts T (by omega),ZM n hn t ts T (by omega),Af,Af,Ai g]
 simp only [s,Ai g,k,q,Af]
 generalize fAt t T=F at fok ⊢
 cases hF:F.2 with
 | true =>
  obtain ⟨l,D,C,i⟩:=fok hF
  have y:=l.1
  obtain ⟨h,o,u⟩:=Zed n F.1.2.2.2.1 (by omega) (by omega)
  simp only [o,u,Af,if_true,Bool.true_and]
  cases h with
  | true=>exact SubR.none m t b
  | false =>
   simp only [Bool.not_false,Bool.not_true,Bool.false_eq_true,if_false]
   by_cases e:(T.length:Int)=(P.length:Int)
   ·simp only [Ah e,Bool.true_and,if_true]
    by_cases n3:F.1.2.2.1=3
    ·simp only [Ah n3,if_true]
     refine SubR.some m t b _ _ ⟨by simp [Ex.value],by simp [Ex.args],fun x f=>?_,by simp [Ex.value]⟩
     simp only [Ex.args,List.mem_cons,List.not_mem_nil,or_false] at f
     rcases f with rfl | rfl
     ·exact d
     ·exact ⟨fun v hv=>⟨by have:=(i v hv).1;omega,(i v hv).2.2⟩,by simp [Ex.args],by simp [Ex.args],by show F.1.2.2.2.2.length≤2;omega⟩
    ·simp only [Ag n3,Bool.false_eq_true,if_false]
     exact a
   ·simp only [Ag e,Bool.false_and,Bool.false_eq_true,if_false]
    split
    ·exact SubR.none m t b
    ·exact c
 | false =>
  simp only [Bool.and_false,Bool.false_and,Bool.or_false,Bool.false_eq_true,if_false]
  by_cases e:(T.length:Int)=(P.length:Int)
  ·simp only [Ah e,if_true]
   exact a
  ·simp only [Ag e,Bool.false_eq_true,if_false]
   split
   ·exact SubR.none m t b
   ·exact c
def prd (P:List Part) (T:List Part):Bool:=decide (0<(T.length:Int))&&Md P T
theorem Zb6 (n:Nat) (hn:1500000≤n) (m:P8) (hm:LQ m) (t:Ty) (ts:t.small) (tg:t.Good) (b:Bool) (y:List Part × Int) (hy:O7 y.1):∀ (k q i:Nat),i+k=m.length→k<q →
  SubR m t b (if decide (OB (prd (y.1.drop 1)) (D1 n m) i<0)=true then (CP n (Cps.mk m (D1 n m) t) (y.1.drop 1)).bind fun y20=>some ((y20.1,y20.2.1,y20.2.2)) else (B6 m (OB (prd (y.1.drop 1)) (D1 n m) i)).bind fun x22=>(B6 (D1 n m) (OB (prd (y.1.drop 1)) (D1 n m) i)).bind fun x23=>ZiV n t (y.1.drop 1) x22 x23) (A8 n (Cpm.mk m t b) y q (i:Int))
 | k,0,i,_,h=>absurd h (Nat.not_lt_zero _)
 | 0,q+1,i,hi,_=>by
  have r:(D1 n m).length=m.length:=by rw [D1,List.length_map]
  have d:=ZhS n hn m hm.1 t ts tg b y hy
  rw [I9 _ _ i (by omega),Ai (by decide),A8,AH,Ag (show ¬ i<m.length by omega),Aj (by decide)]
  obtain ⟨o,al,ok,u,v,w,s⟩:=d
  rw [u,v,Af]
  exact ⟨o,al,ok,rfl,rfl,w,s⟩
 | k+1,q+1,i,hi,hq=>by
  have r:(D1 n m).length=m.length:=by rw [D1,List.length_map]
  have a:i<m.length:=by omega
  have c:i<(D1 n m).length:=by omega
  have g:=hm.1
  have ih:=Zb6 n hn m hm t ts tg b y hy k q (i+1) (by omega) (by omega)
  obtain ⟨e,ok⟩:=Qp n (by omega) m[i].1
  have x:=ok.1
  have j:=hy.1
  have f:(D1 n m)[i]=(Yr n m[i].1).1:=by simp [D1]
  rw [HA _ _ i c,f,A8,AH,Ah (show i<m.length from a),Ai (rfl:true=true),AK (l:=m) a,Af,e,Af]
  by_cases z:((Yr n m[i].1).1.length:Int)=0
  ·rw [Ah z,Ai (rfl:true=true),Ai (AG (by omega)),prd,Ag (show ¬ 0<((Yr n m[i].1).1.length:Int) by omega),Bool.false_and,Aj (show ¬ false=true by decide)]
   exact ih
  rw [Ag z,Aj (show ¬ false=true by decide),Xl n _ _ (by omega) (by omega),Af,prd,Ah (show 0<((Yr n m[i].1).1.length:Int) by omega),Bool.true_and]
  cases hB:Md (y.1.drop 1) (Yr n m[i].1).1 with
  | false =>
   rw [Aj (show ¬ false=true by decide),Ai (show (!false)=true by rfl),Ai (AG (by omega))]
   exact ih
  | true =>
   rw [Ai (rfl:true=true),Aj (show ¬ (!true)=true by decide),Aj (show ¬ decide (((i:Nat):Int)<0)=true by rw [decide_eq_true_eq];omega),AK (l:=m) a,Af,AK c,Af,f]
   exact ZcL n hn m t ts tg b (y.1.drop 1) (fun p h=>hy.2 p (List.mem_of_mem_drop h)) (by rw [List.length_drop];omega) m[i] (hm.2 _ (List.getElem_mem a)).2 _ hB
theorem Zjj (n:Nat) (hn:1500000≤n) (m:P8) (hm:LQ m) (t:Ty) (ts:t.small) (tg:t.Good) (b:Bool) (s:ByteArray) :
  SubR m t b (B5 n (Cps.mk m (D1 n m) t) s) (Bc n (Cpm.mk m t b) s):=by
 obtain ⟨e,ok⟩:=Qp n (by omega) s
 have k:(D1 n m).length=m.length:=by rw [D1,List.length_map]
 have f:=hm.1
 have o1:=ok.1
 have sl:=Zb6 n hn m hm t ts tg b (Yr n s) ok m.length n 0 (by omega) (by omega)
 rw [B5,Bc,e,Af,Af]
 generalize Yr n s=y at ok o1 sl ⊢
 by_cases c:y.2=0
 rotate_left
 ·rw [Ag c,Ai (show (!false)=true by rfl),Ai (by rfl)]
  exact SubR.none m t b
 rw [Ah c,Aj (show ¬ (!true)=true by decide),S4 n _ _ (by omega) (by omega),Af]
 obtain ⟨l,j⟩:=y
 cases l with
 | nil=>exact SubR.none m t b
 | cons x r =>
  have i:Md (x::r) [bodyP]=pEq x bodyP:=by
   unfold Md
   rw [Ah (show [bodyP].length≤(x::r).length by simp),Bool.true_and,P4,RJ,Bool.and_true]
  have a:¬ (((x::r).length:Int)=0):=by rw [List.length_cons];omega
  simp only at *
  rw [i,Ag a,Aj (show ¬ (!true||false)=true by decide),show B6 (x::r) 0=some x from rfl,Af]
  show SubR m t b (if (!pEq x bodyP)=true then _ else _) (if (!pEq x bodyP)=true then _ else _)
  cases pEq x bodyP with
  | false=>exact SubR.none m t b
  | true =>
   have d:(0:Nat)≤1∧1≤((x::r).length:Int)∧((x::r).length:Int)≤((x::r).length:Int):=⟨by decide,by rw [List.length_cons];omega,Int.le_refl _⟩
   have h:Df n (D1 n m) (fun (x0:List Part)=>Bo n x0 ((x::r).drop 1))=some (OB (prd ((x::r).drop 1)) (D1 n m) 0):=Zah n (D1 n m) _ _ (fun T g=>by
    have:=(ZbC n (by omega) m T g).1
    rw [Bo,prd]
    by_cases z:0<(T.length:Int)
    ·rw [Ah z,Ai (rfl:true=true),S4 n _ _ (by rw [List.length_drop];omega) (by rw [List.length_drop];omega),Bool.true_and];rfl
    ·rw [Ag z,Aj (by decide),Bool.false_and]) (by omega) (D1 n m).length n 0 (by omega) (by omega)
   rw [Aj (show ¬ (!true)=true by decide),Ai d,Aj (show ¬ (!true)=true by decide),Ai d,h,Af]
   exact sl
def M8 (n:Nat)  : Option Int :=
 some (0)
def FN (n:Nat) (h:List Int):Nat→Int→Option Int
 | 0,_=>none
 | m+1,b =>
  if decide (b<(h.length:Int)) then
   (B6 h b).bind fun g =>
   if !(decide (g=0)) then
    some (g)
   else
    if Bj (b+1) then
     (FN n h m) (b+1)
    else none
  else
   M8 n 
def Ju (n:Nat) (b:List Int):Option Int :=
 FN n b n 0
theorem Qf (w0:World) (n:Nat) (B:As) (Rw:Ax) (L:Aw) (a0:List Int) (r:Int) (h:Ju n a0=some r) :
  ACalls Tryz.prog w0 124 [.list (a0.map Yg) .none] ⟨B,Rw,L⟩ fun x st=>x=Am r∧st=⟨B,Rw,L⟩:=by
 rw [Ju] at h
 refine hd [.tmp 2] Tryz.func124 Tryz.ntmps124 fun M0 W0 j g f b k d hs=>?_
 simp only [AB]
 refine rg [0] hs ?_
 refine rg [0,3] hs ?_
 refine AA (fun e st=>Ck e st B Rw L [(3,true,Am 0)] [] [] (M8 n  = some r)) ?_ ?_
 ·intro K5 i
  refine rg [3,6,7,8] hs ?_
  apply Au
  refine AC (fun m e st=>∃ (c:Int),Ck e st B Rw L [(3,true,Am 0),(6,true,.list (a0.map Yg) .none),(7,true,Am (a0.length:Int)),(8,true,Am c)] [] [] (FN n a0 m c=some r)) n ⟨0,([]),Rw,ef hs,ef hs,d,h⟩ ?_
  rintro ml7 e st ⟨c,Xl7,Rl7,rfl,rfl,d,h⟩ Ul7 Vl7
  cases ml7 with
  | zero=>cases h
  | succ ml7 =>
  rw [FN] at h
  exact go (tg (a:=([3,6,7,8,9],([3,6,7,8],[3,5,6,7,8],[3,5,6,7,8,14],([2],()),[3,6,7,8],[3,6,7,8],()),[3],()))) h hs j g f b d trivial (q2 i (fun e s=>Vl7 ml7 e s (Nat.lt_succ_self _)))
 ·clear h;rintro e st ⟨Xk4,Rk4,rfl,rfl,d,h⟩
  rw [M8] at h
  refine td j g f b d ?_
  refine rg [2] hs ?_
  exact rt h hs b d
def Eb (n:Nat) (b:List (ByteArray × Vl)) (g:List (ByteArray × Vl)):Option Int :=
 if decide ((b.length:Int)<(g.length:Int)) then
  some ((-1))
 else
  some (0)
def BI (n:Nat) (h:List (ByteArray × Vl)) (q:List (ByteArray × Vl)) (a2:(ByteArray × Vl)→(ByteArray × Vl)→Option Int):Nat→Int→Option Int
 | 0,_=>none
 | m+1,b =>
  if decide (b<(h.length:Int)) then
   (B6 h b).bind fun y =>
   if decide ((q.length:Int)≤b) then
    some (1)
   else
    (B6 q b).bind fun z =>
    (a2 y z).bind fun g =>
    if !(decide (g=0)) then
     some (g)
    else
     if Bj (b+1) then
      (BI n h q a2 m) (b+1)
     else none
  else
   Eb n h q 
def EA (n:Nat) (g:List (ByteArray × Vl)) (h:List (ByteArray × Vl)) (b:(ByteArray × Vl)→(ByteArray × Vl)→Option Int):Option Int :=
 BI n g h b n 0
theorem Nk (w0:World) (n:Nat) (B:As) (Rw:Ax) (L:Aw) (a0:List (ByteArray × Vl)) (a1:List (ByteArray × Vl)) (fa2:FuncId) (ca2:List AV) (a2:(ByteArray × Vl)→(ByteArray × Vl)→Option Int) (ha2:∀ (x0:ByteArray × Vl) (x1:ByteArray × Vl) r,a2 x0 x1=some r→∀ B' rows,B <+: B'→Rw <+: rows→ACalls Tryz.prog w0 fa2 ([.agg (.val (.string x0.1)::(x0.2.cs)),.agg (.val (.string x1.1)::(x1.2.cs))]++ca2) ⟨B',rows,L⟩ fun v s=>v=Am r∧s=⟨B',rows,L⟩) (r:Int) (h:EA n a0 a1 a2=some r) :
  ACalls Tryz.prog w0 128 [.list (a0.map Qc) .none,.list (a1.map Qc) .none,.clo fa2 ca2] ⟨B,Rw,L⟩ fun x st=>x=Am r∧st=⟨B,Rw,L⟩:=by
 rw [EA] at h
 refine hd [.tmp 6] Tryz.func128 Tryz.ntmps128 fun M0 W0 j i g b l f hs=>?_
 simp only [AB]
 have c:=BN (l (.clo fa2 ca2) (by simp))
 refine rg [0,1,2] hs ?_
 refine AA (fun e st=>Ck e st B Rw L [(0,true,.list (a0.map Qc) .none),(1,true,.list (a1.map Qc) .none)] [] [] (Eb n a0 a1  = some r)) ?_ ?_
 ·intro K4 k
  refine rg [0,1,2,11,12,13] hs ?_
  apply Au
  refine AC (fun m e st=>∃ (d:Int),Ck e st B Rw L [(0,true,.list (a0.map Qc) .none),(1,true,.list (a1.map Qc) .none),(2,true,.clo fa2 ca2),(11,true,.list (a0.map Qc) .none),(12,true,Am (a0.length:Int)),(13,true,Am d)] [] [] (BI n a0 a1 a2 m d=some r)) n ⟨0,([]),Rw,ef hs,ef hs,f,h⟩ ?_
  rintro ml6 e st ⟨d,Xl6,Rl6,rfl,rfl,f,h⟩ Ul6 Vl6
  cases ml6 with
  | zero=>cases h
  | succ ml6 =>
  rw [BI] at h
  refine A4 j i g rfl b f (Ln c f) (Ln c f) ?_
  exact go (tg (a:=([0,1,2,11,12,13,14],([0,1,2,11,12,13],[0,1,2,7,8,11,12,13],[0,1,2,7,8,11,12,13,21],([6],()),[0,1,2,7,8,11,12,13],[0,1,2,8,9,11,12,13],[0,1,2,10,11,12,13],[0,1,2,10,11,12,13,31],([6],()),[0,1,2,11,12,13],[0,1,2,11,12,13],()),[0,1],()))) h hs j i g b f (q1 ha2) (q2 k (fun e s=>Vl6 ml6 e s (Nat.lt_succ_self _)))
 ·clear h;rintro e st ⟨Xk3,Rk3,rfl,rfl,f,h⟩
  rw [Eb] at h
  refine A4 j i g rfl b f (Ln c f) (Ln c f) ?_
  exact go (tg (a:=([38],([6],()),[],[6],()))) h hs j i g b f trivial trivial
def D6 (n:Nat) (b:List Vl) (g:List Vl):Option Int :=
 if decide ((b.length:Int)<(g.length:Int)) then
  some ((-1))
 else
  some (0)
def BH (n:Nat) (h:List Vl) (q:List Vl) (a2:Vl→Vl→Option Int):Nat→Int→Option Int
 | 0,_=>none
 | m+1,b =>
  if decide (b<(h.length:Int)) then
   (B6 h b).bind fun y =>
   if decide ((q.length:Int)≤b) then
    some (1)
   else
    (B6 q b).bind fun z =>
    (a2 y z).bind fun g =>
    if !(decide (g=0)) then
     some (g)
    else
     if Bj (b+1) then
      (BH n h q a2 m) (b+1)
     else none
  else
   D6 n h q 
def EB (n:Nat) (g:List Vl) (h:List Vl) (b:Vl→Vl→Option Int):Option Int :=
 BH n g h b n 0
theorem NB (w0:World) (n:Nat) (B:As) (Rw:Ax) (L:Aw) (a0:List Vl) (a1:List Vl) (fa2:FuncId) (ca2:List AV) (a2:Vl→Vl→Option Int) (ha2:∀ (x0:Vl) (x1:Vl) r,a2 x0 x1=some r→∀ B' rows,B <+: B'→Rw <+: rows→ACalls Tryz.prog w0 fa2 ([.agg (x0.cs),.agg (x1.cs)]++ca2) ⟨B',rows,L⟩ fun v s=>v=Am r∧s=⟨B',rows,L⟩) (r:Int) (h:EB n a0 a1 a2=some r) :
  ACalls Tryz.prog w0 127 [.list (a0.map BZ) .none,.list (a1.map BZ) .none,.clo fa2 ca2] ⟨B,Rw,L⟩ fun x st=>x=Am r∧st=⟨B,Rw,L⟩:=by
 rw [EB] at h
 refine hd [.tmp 6] Tryz.func127 Tryz.ntmps127 fun M0 W0 j i g b l f hs=>?_
 simp only [AB]
 have c:=BN (l (.clo fa2 ca2) (by simp))
 refine rg [0,1,2] hs ?_
 refine AA (fun e st=>Ck e st B Rw L [(0,true,.list (a0.map BZ) .none),(1,true,.list (a1.map BZ) .none)] [] [] (D6 n a0 a1  = some r)) ?_ ?_
 ·intro K4 k
  refine rg [0,1,2,11,12,13] hs ?_
  apply Au
  refine AC (fun m e st=>∃ (d:Int),Ck e st B Rw L [(0,true,.list (a0.map BZ) .none),(1,true,.list (a1.map BZ) .none),(2,true,.clo fa2 ca2),(11,true,.list (a0.map BZ) .none),(12,true,Am (a0.length:Int)),(13,true,Am d)] [] [] (BH n a0 a1 a2 m d=some r)) n ⟨0,([]),Rw,ef hs,ef hs,f,h⟩ ?_
  rintro ml6 e st ⟨d,Xl6,Rl6,rfl,rfl,f,h⟩ Ul6 Vl6
  cases ml6 with
  | zero=>cases h
  | succ ml6 =>
  rw [BH] at h
  refine A4 j i g rfl b f (Ln c f) (Ln c f) ?_
  exact go (tg (a:=([0,1,2,11,12,13,14],([0,1,2,11,12,13],[0,1,2,7,8,11,12,13],[0,1,2,7,8,11,12,13,21],([6],()),[0,1,2,7,8,11,12,13],[0,1,2,8,9,11,12,13],[0,1,2,10,11,12,13],[0,1,2,10,11,12,13,31],([6],()),[0,1,2,11,12,13],[0,1,2,11,12,13],()),[0,1],()))) h hs j i g b f (q1 ha2) (q2 k (fun e s=>Vl6 ml6 e s (Nat.lt_succ_self _)))
 ·clear h;rintro e st ⟨Xk3,Rk3,rfl,rfl,f,h⟩
  rw [D6] at h
  refine A4 j i g rfl b f (Ln c f) (Ln c f) ?_
  exact go (tg (a:=([38],([6],()),[],[6],()))) h hs j i g b f trivial trivial
def G4 (n:Nat)  : Option Bool :=
 some (true)
def BO (n:Nat) (q:List Vl) (a1:List Vl) (z:Vl→Vl→Option Bool):Nat→Int→Option Bool
 | 0,_=>none
 | m+1,b =>
  if decide (b<(q.length:Int)) then
   (B6 q b).bind fun g =>
   (B6 a1 b).bind fun h =>
   (z g h).bind fun y =>
   if !y then
    some (false)
   else
    if Bj (b+1) then
     (BO n q a1 z m) (b+1)
    else none
  else
   G4 n 
def DZ (n:Nat) (b:List Vl) (g:List Vl) (h:Vl→Vl→Option Bool):Option Bool :=
 if !(decide ((b.length:Int)=(g.length:Int))) then
  some (false)
 else
  BO n b g h n 0
theorem JB (w0:World) (n:Nat) (B:As) (Rw:Ax) (L:Aw) (a0:List Vl) (a1:List Vl) (fa2:FuncId) (ca2:List AV) (a2:Vl→Vl→Option Bool) (ha2:∀ (x0:Vl) (x1:Vl) r,a2 x0 x1=some r→∀ B' rows,B <+: B'→Rw <+: rows→ACalls Tryz.prog w0 fa2 ([.agg (x0.cs),.agg (x1.cs)]++ca2) ⟨B',rows,L⟩ fun v s=>v = .val (.bool r)∧s=⟨B',rows,L⟩) (r:Bool) (h:DZ n a0 a1 a2=some r) :
  ACalls Tryz.prog w0 170 [.list (a0.map BZ) .none,.list (a1.map BZ) .none,.clo fa2 ca2] ⟨B,Rw,L⟩ fun x st=>x = .val (.bool r)∧st=⟨B,Rw,L⟩:=by
 rw [DZ] at h
 refine hd [.tmp 6] Tryz.func170 Tryz.ntmps170 fun M0 W0 l i g b o f hs=>?_
 simp only [AB]
 have d:=BN (o (.clo fa2 ca2) (by simp))
 refine rg [0,1,2] hs ?_
 apply Ap;intro K2 j
 refine rg [0,1,2,14] hs ?_
 refine Cj h hs ?_ ?_<;>intro hs h
 ·refine rg [6] hs ?_
  exact rt h hs b f
 refine sk [0,1,2] hs j ?_
 clear j
 refine AA (fun e st=>Ck e st B Rw L [] [] [] (G4 n  = some r)) ?_ ?_
 ·intro K8 k
  refine rg [1,2,15,16,17] hs ?_
  apply Au
  refine AC (fun m e st=>∃ (c:Int),Ck e st B Rw L [(1,true,.list (a1.map BZ) .none),(2,true,.clo fa2 ca2),(15,true,.list (a0.map BZ) .none),(16,true,Am (a0.length:Int)),(17,true,Am c)] [] [] (BO n a0 a1 a2 m c=some r)) n ⟨0,([]),Rw,ef hs,ef hs,f,h⟩ ?_
  rintro ml10 e st ⟨c,Xl10,Rl10,rfl,rfl,f,h⟩ Ul10 Vl10
  cases ml10 with
  | zero=>cases h
  | succ ml10 =>
  rw [BO] at h
  refine A4 l i g rfl b f (Ln d f) (Ln d f) ?_
  exact go (tg (a:=([1,2,15,16,17,18],([1,2,15,16,17],[1,2,7,8,15,16,17],[1,2,8,9,15,16,17],[1,2,15,16,17,30],([6],()),[1,2,15,16,17],[1,2,15,16,17],()),[],()))) h hs l i g b f (q1 ha2) (q2 k (fun e s=>Vl10 ml10 e s (Nat.lt_succ_self _)))
 ·clear h;rintro e st ⟨Xk7,Rk7,rfl,rfl,f,h⟩
  rw [G4] at h
  refine A4 l i g rfl b f (Ln d f) (Ln d f) ?_
  refine rg [6] hs ?_
  exact rt h hs b f
def GW (rec:Vl→Vl→Option Int) (n:Nat) (b:ByteArray × Vl) (g:ByteArray × Vl):Option Int :=
 (rec b.2 g.2).bind fun q =>
 (Ju n ([Zn b.1 g.1,q])).bind fun h =>
 some (h)
theorem Vo (w0:World) (rec:Vl→Vl→Option Int) (ih:∀ (B:As) (Rw:Ax) (L:Aw) (a0:Vl) (a1:Vl) (r:Int) (h:rec a0 a1=some r),ACalls Tryz.prog w0 52 [.agg (a0.cs),.agg (a1.cs)] ⟨B,Rw,L⟩ fun x st=>x=Am r∧st=⟨B,Rw,L⟩) (n:Nat) (B:As) (Rw:Ax) (L:Aw) (a0:ByteArray × Vl) (a1:ByteArray × Vl) (r:Int) (h:GW rec n a0 a1=some r) :
  ACalls Tryz.prog w0 129 [.agg (.val (.string a0.1)::(a0.2.cs)),.agg (.val (.string a1.1)::(a1.2.cs))] ⟨B,Rw,L⟩ fun x st=>x=Am r∧st=⟨B,Rw,L⟩:=by
 rw [GW] at h
 refine hd [.tmp 4] Tryz.func129 Tryz.ntmps129 fun M0 W0 e d c b g f hs=>?_
 simp only [AB]
 exact go (tg (a:=([2,3],[13,4],()))) h hs e d c b f (q3 (RL w0) ih (Qf w0 n)) trivial
def MF (rec:Vl→Vl→Option Int) (n:Nat) (b:Vl) (g:Vl):Option Int :=
 (EB n b.list g.list (fun (q:Vl) (h:Vl)=>rec q h)).bind fun z =>
 (EA n b.fields g.fields (fun (q:ByteArray × Vl) (h:ByteArray × Vl)=>GW rec n q h)).bind fun y =>
 (Ju n ([if b.kind<g.kind then -1 else if b.kind=g.kind then 0 else 1,if b.int<g.int then -1 else if b.int=g.int then 0 else 1,if b.scale<g.scale then -1 else if b.scale=g.scale then 0 else 1,Zn b.text g.text,z,y])).bind fun y5 =>
 some (y5)
def Gl:Nat→Vl→Vl→Option Int
 | 0,_,_=>none
 | n+1,b,g=>MF (Gl n) n b g
def Pj (w0:World) (F:Vl→Vl→Option Int):Prop:=∀ (B:As) (Rw:Ax) (L:Aw) (b:Vl) (g:Vl) (r:Int),F b g=some r→ACalls Tryz.prog w0 52 [.agg (b.cs),.agg (g.cs)] ⟨B,Rw,L⟩ fun x st=>x=Am r∧st=⟨B,Rw,L⟩
theorem Vp (w0:World) (rec:Vl→Vl→Option Int) (ih:Pj w0 rec) (n:Nat):Pj w0 (MF rec n):=by
 intro B Rw L a0 a1 r h
 rw [MF] at h
 refine hd [.tmp 4] Tryz.func52 Tryz.ntmps52 fun M0 W0 p g j c v q hs=>?_
 simp only [AB]
 refine rg [2,3] hs ?_
 obtain ⟨w,e,h⟩:=bind_some h
 obtain ⟨t,l,h⟩:=bind_some h
 obtain ⟨u,s,h⟩:=bind_some h
 apply Ap;intro K2 m
 refine dk 33 8 1 [4] (al hs) OJ ?_
 refine Az _ (QG w0 _ _ _ a0.kind a1.kind) (hv (al hs)) ?_
 refine nc (al hs) ?_
 refine Az _ (QG w0 _ _ _ a0.int a1.int) (hv (al hs)) ?_
 refine nc (al hs) ?_
 refine Az _ (QG w0 _ _ _ a0.scale a1.scale) (hv (al hs)) ?_
 refine nc (al hs) ?_
 refine Az _ (RL w0 _ _ _ a0.text a1.text) (hv (al hs)) ?_
 refine nc (al hs) ?_
 refine Az _ (NB w0 n _ _ _ a0.list a1.list 52 [] (fun (d:Vl) (b:Vl)=>rec d b) (fun d b r k o rows' f i=>by exact ih _ _ _ d b _ k) _ e) (hv (al hs)) ?_
 refine nc (al hs) ?_
 refine Az _ (Nk w0 n _ _ _ a0.fields a1.fields 129 [] (fun (d:ByteArray × Vl) (b:ByteArray × Vl)=>GW rec n d b) (fun d b r k o rows' f i=>by exact Vo w0 rec ih n _ _ _ d b _ k) _ l) (hv (al hs)) ?_
 exact go (tg (a:=((),()))) h (al hs) p g j c q (q1 (Qf w0 n)) (q1 m)
theorem RS (w0:World):∀ n:Nat,Pj w0 (Gl n)
 | 0=>fun _ _ _ _ _ _ h=>(nomatch h)
 | n+1=>Vp w0 (Gl n) (RS w0 n) n
def IY (n:Nat) (b:Vl) (h:Vl):Option Bool :=
 (Gl n b h).bind fun g =>
 some (decide (g=0))
theorem VQ (w0:World) (n:Nat) (B:As) (Rw:Ax) (L:Aw) (a0:Vl) (a1:Vl) (r:Bool) (h:IY n a0 a1=some r) :
  ACalls Tryz.prog w0 13 [.agg (a0.cs),.agg (a1.cs)] ⟨B,Rw,L⟩ fun x st=>x = .val (.bool r)∧st=⟨B,Rw,L⟩:=by
 rw [IY] at h
 refine hd [.tmp 4] Tryz.func13 Tryz.ntmps13 fun M0 W0 e d c b g f hs=>?_
 simp only [AB]
 exact go (tg (a:=([2,3],[4],()))) h hs e d c b f (q1 (RS w0 n)) trivial
theorem ZgJ {a b:Nat}:decide ((a:Int)=(b:Int))=decide (a=b):=decide_eq_decide.2 ⟨fun h=>by omega,fun h=>by omega⟩
theorem Ze0 {a b:Nat}:decide ((a:Int)≤(b:Int))=decide (a≤b):=decide_eq_decide.2 ⟨fun h=>by omega,fun h=>by omega⟩
theorem To (n:Nat) (a b:List (Vl)) (f:Vl→Vl→Option Bool) (hl:a.length≤1000000000) (hab:a.length=b.length)
  (hr:∀ p∈a,∀ q∈b,∃ c,f p q=some c∧(c=true↔p=q)):∀ (k m i:Nat),i+k=a.length→k<m→∃ c,BO n a b f m i=some c∧(c=true↔a.drop i=b.drop i)
 | k,0,i,_,h=>absurd h (Nat.not_lt_zero _)
 | 0,m+1,i,hi,_=>by
  rw [BO,AH,Ac]
  simp only [Bool.false_eq_true,if_false]
  exact ⟨true,rfl,by rw [List.drop_eq_nil_of_le (by omega),List.drop_eq_nil_of_le (by omega)];simp⟩
 | k+1,m+1,i,hi,hm=>by
  have g:i<a.length:=by omega
  have d:i<b.length:=by omega
  rw [BO,AH,Ah g]
  simp only [if_true,AK g,AK d,Af]
  obtain ⟨c,e,j⟩:=hr _ (List.getElem_mem g) _ (List.getElem_mem d)
  rw [e,Ph _ _ i g d]
  simp only [Af]
  cases c with
  | false=>simp only [Bool.not_false,if_true];exact ⟨false,rfl,by simp only [Bool.false_eq_true,false_iff];intro h;simpa using j.2 h.1⟩
  | true =>
   simp only [Bool.not_true,Bool.false_eq_true,if_false]
   rw [Ai (AG (by omega))]
   obtain ⟨o,l,d⟩:=To n a b f hl hab hr k m (i+1) (by omega) (by omega)
   exact ⟨o,l,d.trans ⟨fun h=>⟨j.1 rfl,h⟩,fun h=>h.2⟩⟩
theorem Zbo (n:Nat) (a b:List (Vl)) (f:Vl→Vl→Option Bool) (hl:a.length≤1000000000) (hn:a.length<n)
  (hr:∀ p∈a,∀ q∈b,∃ c,f p q=some c∧(c=true↔p=q)):∃ c,DZ n a b f=some c∧(c=true↔a=b):=by
 rw [DZ,ZgJ]
 by_cases h:a.length=b.length
 ·rw [Ah h]
  simp only [Bool.not_true,Bool.false_eq_true,if_false]
  exact To n a b f hl h hr a.length n 0 (by omega) hn
 ·rw [Ag h]
  exact ⟨false,rfl,by simp only [Bool.false_eq_true,false_iff];intro e;exact h (by rw [e])⟩
theorem VD (n:Nat) (a b:List (Vl)) (f:Vl→Vl→Option Int) (hl:a.length≤1000000000)
  (hr:∀ p∈a,∀ q∈b,∃ c,f p q=some c∧(c=0↔p=q)):∀ (k m i:Nat),i+k=a.length→k<m→∃ c,BH n a b f m i=some c∧(c=0↔a.drop i=b.drop i)
 | k,0,i,_,h=>absurd h (Nat.not_lt_zero _)
 | 0,m+1,i,hi,_=>by
  rw [BH,AH,Ac]
  simp only [Bool.false_eq_true,if_false]
  rw [D6,AH,List.drop_eq_nil_of_le (show a.length≤i by omega)]
  by_cases h:a.length<b.length
  ·rw [Ah h]
   simp only [if_true]
   exact ⟨-1,rfl,⟨fun h=>absurd h (by decide),fun e=>by have:=List.drop_eq_nil_iff.1 e.symm;omega⟩⟩
  ·rw [Ag h]
   simp only [Bool.false_eq_true,if_false]
   exact ⟨0,rfl,⟨fun _=>(List.drop_eq_nil_of_le (by omega)).symm,fun _=>rfl⟩⟩
 | k+1,m+1,i,hi,hm=>by
  have g:i<a.length:=by omega
  rw [BH,AH,Ah g]
  simp only [if_true,AK g,Af,Ze0]
  by_cases d:i<b.length
  ·rw [Ag (show ¬ b.length≤i by omega)]
   simp only [Bool.false_eq_true,if_false,AK d,Af]
   obtain ⟨c,e,j⟩:=hr _ (List.getElem_mem g) _ (List.getElem_mem d)
   rw [e,Ph _ _ i g d]
   simp only [Af]
   by_cases h0:c=0
   ·rw [Ah h0]
    simp only [Bool.not_true,Bool.false_eq_true,if_false]
    rw [Ai (AG (by omega))]
    obtain ⟨o,l,d⟩:=VD n a b f hl hr k m (i+1) (by omega) (by omega)
    exact ⟨o,l,d.trans ⟨fun h=>⟨j.1 h0,h⟩,fun h=>h.2⟩⟩
   ·rw [Ag h0]
    simp only [Bool.not_false,if_true]
    exact ⟨c,rfl,⟨fun h=>absurd h h0,fun h=>absurd (j.2 h.1) h0⟩⟩
  ·rw [Ah (show b.length≤i by omega)]
   simp only [if_true]
   refine ⟨1,rfl,⟨fun h=>absurd h (by decide),fun e=>?_⟩⟩
   rw [List.drop_eq_nil_of_le (show b.length≤i by omega)] at e
   have:=List.drop_eq_nil_iff.1 e
   omega
theorem ZaO (n:Nat) (a b:List (Vl)) (f:Vl→Vl→Option Int) (hl:a.length≤1000000000) (hn:a.length<n)
  (hr:∀ p∈a,∀ q∈b,∃ c,f p q=some c∧(c=0↔p=q)):∃ c,EB n a b f=some c∧(c=0↔a=b) :=
 VD n a b f hl hr a.length n 0 (by omega) hn
theorem Vq (n:Nat) (a b:List (ByteArray × Vl)) (f:ByteArray × Vl→ByteArray × Vl→Option Int) (hl:a.length≤1000000000)
  (hr:∀ p∈a,∀ q∈b,∃ c,f p q=some c∧(c=0↔p=q)):∀ (k m i:Nat),i+k=a.length→k<m→∃ c,BI n a b f m i=some c∧(c=0↔a.drop i=b.drop i)
 | k,0,i,_,h=>absurd h (Nat.not_lt_zero _)
 | 0,m+1,i,hi,_=>by
  rw [BI,AH,Ac]
  simp only [Bool.false_eq_true,if_false]
  rw [Eb,AH,List.drop_eq_nil_of_le (show a.length≤i by omega)]
  by_cases h:a.length<b.length
  ·rw [Ah h]
   simp only [if_true]
   exact ⟨-1,rfl,⟨fun h=>absurd h (by decide),fun e=>by have:=List.drop_eq_nil_iff.1 e.symm;omega⟩⟩
  ·rw [Ag h]
   simp only [Bool.false_eq_true,if_false]
   exact ⟨0,rfl,⟨fun _=>(List.drop_eq_nil_of_le (by omega)).symm,fun _=>rfl⟩⟩
 | k+1,m+1,i,hi,hm=>by
  have g:i<a.length:=by omega
  rw [BI,AH,Ah g]
  simp only [if_true,AK g,Af,Ze0]
  by_cases d:i<b.length
  ·rw [Ag (show ¬ b.length≤i by omega)]
   simp only [Bool.false_eq_true,if_false,AK d,Af]
   obtain ⟨c,e,j⟩:=hr _ (List.getElem_mem g) _ (List.getElem_mem d)
   rw [e,Ph _ _ i g d]
   simp only [Af]
   by_cases h0:c=0
   ·rw [Ah h0]
    simp only [Bool.not_true,Bool.false_eq_true,if_false]
    rw [Ai (AG (by omega))]
    obtain ⟨o,l,d⟩:=Vq n a b f hl hr k m (i+1) (by omega) (by omega)
    exact ⟨o,l,d.trans ⟨fun h=>⟨j.1 h0,h⟩,fun h=>h.2⟩⟩
   ·rw [Ag h0]
    simp only [Bool.not_false,if_true]
    exact ⟨c,rfl,⟨fun h=>absurd h h0,fun h=>absurd (j.2 h.1) h0⟩⟩
  ·rw [Ah (show b.length≤i by omega)]
   simp only [if_true]
   refine ⟨1,rfl,⟨fun h=>absurd h (by decide),fun e=>?_⟩⟩
   rw [List.drop_eq_nil_of_le (show b.length≤i by omega)] at e
   have:=List.drop_eq_nil_iff.1 e
   omega
theorem Zag (n:Nat) (a b:List (ByteArray × Vl)) (f:ByteArray × Vl→ByteArray × Vl→Option Int) (hl:a.length≤1000000000) (hn:a.length<n)
  (hr:∀ p∈a,∀ q∈b,∃ c,f p q=some c∧(c=0↔p=q)):∃ c,EA n a b f=some c∧(c=0↔a=b) :=
 Vq n a b f hl hr a.length n 0 (by omega) hn
theorem Zid (n:Nat) (l:List Int) (hl:l.length≤1000000000):∀ (k m i:Nat),i+k=l.length→k<m→∃ c,FN n l m i=some c∧(c=0↔∀ x∈l.drop i,x=0)
 | k,0,i,_,h=>absurd h (Nat.not_lt_zero _)
 | 0,m+1,i,hi,_=>by
  rw [FN,AH,Ac]
  simp only [Bool.false_eq_true,if_false]
  exact ⟨0,rfl,by rw [List.drop_eq_nil_of_le (by omega)];simp⟩
 | k+1,m+1,i,hi,hm=>by
  have a:i<l.length:=by omega
  rw [FN,AH,Ah a]
  simp only [if_true,AK a,Af]
  rw [List.drop_eq_getElem_cons a]
  by_cases h0:l[i]=0
  ·rw [Ah h0]
   simp only [Bool.not_true,Bool.false_eq_true,if_false]
   rw [Ai (AG (by omega))]
   obtain ⟨e,b,d⟩:=Zid n l hl k m (i+1) (by omega) (by omega)
   exact ⟨e,b,d.trans ⟨fun h x hx=>by rcases List.mem_cons.1 hx with rfl | hx;exact h0;exact h x hx,fun h x hx=>h x (List.mem_cons_of_mem _ hx)⟩⟩
  ·rw [Ag h0]
   simp only [Bool.not_false,if_true]
   exact ⟨_,rfl,⟨fun h=>absurd h h0,fun h=>absurd (h _ (List.mem_cons_self ..)) h0⟩⟩
theorem Ziw (n:Nat) (l:List Int) (hl:l.length<n) (h2:l.length≤1000000000):∃ c,Ju n l=some c∧(c=0↔∀ x∈l,x=0):=Zid n l h2 l.length n 0 (by omega) hl
theorem Zcd (a b:Int):(if a<b then (-1:Int) else if a=b then 0 else 1)=0↔a=b:=by
 by_cases h1:a<b
 ·rw [Ai h1];omega
 ·rw [Aj h1]
  by_cases h2:a=b
  ·simp [h2]
  ·simp [h2]
theorem Vl.lens' (v:Vl):v.list.length<v.size∧v.fields.length<v.size:=by have:=IG v.list;have:=NT v.fields;have:=v.size_eq;omega
theorem O0:∀ (n:Nat) (a b:Vl),a.size+10≤n→a.size≤1000000000→∃ c,Gl n a b=some c∧(c=0↔a=b)
 | 0,a,b,h,_=>by omega
 | n+1,a,b,h,hs=>by
  have w:=a.lens'
  rw [Gl,MF]
  obtain ⟨v,m,s⟩:=ZaO n a.list b.list (fun x y=>Gl n x y) (by omega) (by omega) (fun p d q _=>O0 n p q (by have:=a.list_size p d;omega) (by have:=a.list_size p d;omega))
  obtain ⟨f,g,i⟩:=Zag n a.fields b.fields (fun x y=>GW (Gl n) n x y) (by omega) (by omega) (fun p d q _=>by
   obtain ⟨c,e,j⟩:=O0 n p.2 q.2 (by have:=a.field_size p d;omega) (by have:=a.field_size p d;omega)
   obtain ⟨f,g,i⟩:=Ziw n [Zn p.1 q.1,c] (by simp;omega) (by simp)
   refine ⟨f,by rw [GW,e,Af,g];rfl,i.trans ?_⟩
   simp only [List.mem_cons,List.not_mem_nil,or_false,forall_eq_or_imp,forall_eq,WA,j]
   exact ⟨fun h=>Prod.ext h.1 h.2,fun h=>by rw [h];exact ⟨rfl,rfl⟩⟩)
  rw [m,Af,g,Af]
  obtain ⟨c,e,j⟩:=Ziw n [if a.kind<b.kind then -1 else if a.kind=b.kind then 0 else 1,if a.int<b.int then -1 else if a.int=b.int then 0 else 1,if a.scale<b.scale then -1 else if a.scale=b.scale then 0 else 1,Zn a.text b.text,v,f] (by simp;omega) (by simp)
  refine ⟨c,by rw [e];rfl,j.trans ?_⟩
  simp only [List.mem_cons,List.not_mem_nil,or_false,forall_eq_or_imp,forall_eq,WA,Zcd,s,i]
  exact ⟨fun ⟨u,t,k,o,l,r⟩=>Vl.ext' u t k o l r,fun h=>by rw [h];exact ⟨rfl,rfl,rfl,rfl,rfl,rfl⟩⟩
theorem Zcw (n:Nat) (a b:Vl) (h:a.size+10≤n) (hs:a.size≤1000000000):∃ c,IY n a b=some c∧(c=true↔a=b):=by
 obtain ⟨c,e,d⟩:=O0 n a b h hs
 exact ⟨decide (c=0),by rw [IY,e];rfl,by rw [decide_eq_true_eq];exact d⟩
def Fz (n:Nat)  : Option Bool :=
 some (true)
def BD (n:Nat) (q:List Ex) (a1:List Ex) (z:Ex→Ex→Option Bool):Nat→Int→Option Bool
 | 0,_=>none
 | m+1,b =>
  if decide (b<(q.length:Int)) then
   (B6 q b).bind fun g =>
   (B6 a1 b).bind fun h =>
   (z g h).bind fun y =>
   if !y then
    some (false)
   else
    if Bj (b+1) then
     (BD n q a1 z m) (b+1)
    else none
  else
   Fz n 
def FT (n:Nat) (b:List Ex) (g:List Ex) (h:Ex→Ex→Option Bool):Option Bool :=
 if !(decide ((b.length:Int)=(g.length:Int))) then
  some (false)
 else
  BD n b g h n 0
theorem O8 (w0:World) (n:Nat) (B:As) (Rw:Ax) (L:Aw) (a0:List Ex) (a1:List Ex) (fa2:FuncId) (ca2:List AV) (a2:Ex→Ex→Option Bool) (ha2:∀ (x0:Ex) (x1:Ex) r,a2 x0 x1=some r→∀ B' rows,B <+: B'→Rw <+: rows→ACalls Tryz.prog w0 fa2 ([.agg (x0.cs),.agg (x1.cs)]++ca2) ⟨B',rows,L⟩ fun v s=>v = .val (.bool r)∧s=⟨B',rows,L⟩) (r:Bool) (h:FT n a0 a1 a2=some r) :
  ACalls Tryz.prog w0 171 [.list (a0.map NE) .none,.list (a1.map NE) .none,.clo fa2 ca2] ⟨B,Rw,L⟩ fun x st=>x = .val (.bool r)∧st=⟨B,Rw,L⟩:=by
 rw [FT] at h
 refine hd [.tmp 6] Tryz.func171 Tryz.ntmps171 fun M0 W0 l i g b o f hs=>?_
 simp only [AB]
 have d:=BN (o (.clo fa2 ca2) (by simp))
 refine rg [0,1,2] hs ?_
 apply Ap;intro K2 j
 refine rg [0,1,2,14] hs ?_
 refine Cj h hs ?_ ?_<;>intro hs h
 ·refine rg [6] hs ?_
  exact rt h hs b f
 refine sk [0,1,2] hs j ?_
 clear j
 refine AA (fun e st=>Ck e st B Rw L [] [] [] (Fz n  = some r)) ?_ ?_
 ·intro K8 k
  refine rg [1,2,15,16,17] hs ?_
  apply Au
  refine AC (fun m e st=>∃ (c:Int),Ck e st B Rw L [(1,true,.list (a1.map NE) .none),(2,true,.clo fa2 ca2),(15,true,.list (a0.map NE) .none),(16,true,Am (a0.length:Int)),(17,true,Am c)] [] [] (BD n a0 a1 a2 m c=some r)) n ⟨0,([]),Rw,ef hs,ef hs,f,h⟩ ?_
  rintro ml10 e st ⟨c,Xl10,Rl10,rfl,rfl,f,h⟩ Ul10 Vl10
  cases ml10 with
  | zero=>cases h
  | succ ml10 =>
  rw [BD] at h
  refine A4 l i g rfl b f (Ln d f) (Ln d f) ?_
  exact go (tg (a:=([1,2,15,16,17,18],([1,2,15,16,17],[1,2,7,8,15,16,17],[1,2,8,9,15,16,17],[1,2,15,16,17,30],([6],()),[1,2,15,16,17],[1,2,15,16,17],()),[],()))) h hs l i g b f (q1 ha2) (q2 k (fun e s=>Vl10 ml10 e s (Nat.lt_succ_self _)))
 ·clear h;rintro e st ⟨Xk7,Rk7,rfl,rfl,f,h⟩
  rw [Fz] at h
  refine A4 l i g rfl b f (Ln d f) (Ln d f) ?_
  refine rg [6] hs ?_
  exact rt h hs b f
def KX (rec:Ex→Ex→Option Bool) (n:Nat) (b:Ex) (g:Ex):Option Bool :=
 if ((decide (b.op=g.op))&&(decide (b.int=g.int)))&&(G5 b.text g.text) then
  (DZ n b.value g.value (fun (q:Vl) (h:Vl)=>IY n q h)).bind fun y =>
  if y then
   (FT n b.args g.args (fun (q:Ex) (h:Ex)=>rec q h)).bind fun z =>
   some (z)
  else
   some (false)
 else
  some (false)
def Fj:Nat→Ex→Ex→Option Bool
 | 0,_,_=>none
 | n+1,b,g=>KX (Fj n) n b g
def N2 (w0:World) (F:Ex→Ex→Option Bool):Prop:=∀ (B:As) (Rw:Ax) (L:Aw) (b:Ex) (g:Ex) (r:Bool),F b g=some r→ACalls Tryz.prog w0 81 [.agg (b.cs),.agg (g.cs)] ⟨B,Rw,L⟩ fun x st=>x = .val (.bool r)∧st=⟨B,Rw,L⟩
theorem TS (w0:World) (rec:Ex→Ex→Option Bool) (ih:N2 w0 rec) (n:Nat):N2 w0 (KX rec n):=by
 intro B Rw L a0 a1 r h
 rw [KX] at h
 refine hd [.tmp 4] Tryz.func81 Tryz.ntmps81 fun M0 W0 s o k b u l hs=>?_
 simp only [AB]
 refine rg [2,3] hs ?_
 apply Ap;intro K2 c
 rcases Bool.eq_false_or_eq_true (((decide (a0.op=a1.op))&&(decide (a0.int=a1.int)))&&(G5 a0.text a1.text)) with hf3 | hf3
 ·replace h:=AW h hf3
  obtain ⟨q,g,h⟩:=bind_some h
  rcases Bool.eq_false_or_eq_true (q) with hf5 | hf5
  ·replace h:=AW h hf5
   obtain ⟨t,m,h⟩:=bind_some h
   have hs:=Ae hf3 hs
   have hs:=Ae hf5 hs
   refine rk 3 [4] (al hs) ?_
   refine Az _ (JB w0 n _ _ _ a0.value a1.value 13 [] (fun (e:Vl) (d:Vl)=>IY n e d) (fun e d r f p rows' j i=>by exact VQ w0 n _ _ _ e d _ f) _ g) (hv (al hs)) ?_
   refine nc (al hs) ?_
   refine Az _ (O8 w0 n _ _ _ a0.args a1.args 81 [] (fun (e:Ex) (d:Ex)=>rec e d) (fun e d r f p rows' j i=>by exact ih _ _ _ e d _ f) _ m) (hv (al hs)) ?_
   refine ne (al hs) c ?_
   clear c
   exact rt h hs b l
  ·replace h:=AX h hf5
   have hs:=Ae hf3 hs
   have hs:=Ae hf5 hs
   refine rk 3 [4] (al hs) ?_
   refine Az _ (JB w0 n _ _ _ a0.value a1.value 13 [] (fun (e:Vl) (d:Vl)=>IY n e d) (fun e d r f p rows' j i=>by exact VQ w0 n _ _ _ e d _ f) _ g) (hv (al hs)) ?_
   refine nc (al hs) ?_
   refine Dq ?_
   refine ne (al hs) c ?_
   clear c
   exact rt h hs b l
 ·replace h:=AX h hf3
  exact go (tg (a:=([4],()))) h (al (Ae hf3 hs)) s o k b l trivial (q1 c)
theorem Qj (w0:World):∀ n:Nat,N2 w0 (Fj n)
 | 0=>fun _ _ _ _ _ _ h=>(nomatch h)
 | n+1=>TS w0 (Fj n) (Qj w0 n) n
def GA (n:Nat)  : Option Bool :=
 some (true)
def CC (n:Nat) (q:List (ByteArray × Ex)) (z:List (ByteArray × Ex)):Nat→Int→Option Bool
 | 0,_=>none
 | m+1,b =>
  if decide (b<(q.length:Int)) then
   (B6 q b).bind fun h =>
   (B6 z b).bind fun g =>
   if !(G5 h.1 g.1) then
    some (false)
   else
    (Fj n h.2 g.2).bind fun y =>
    if !y then
     some (false)
    else
     if Bj (b+1) then
      (CC n q z m) (b+1)
     else none
  else
   GA n 
def Fe (n:Nat) (b:List (ByteArray × Ex)) (g:List (ByteArray × Ex)):Option Bool :=
 if !(decide ((b.length:Int)=(g.length:Int))) then
  some (false)
 else
  CC n b g n 0
theorem Qy (w0:World) (n:Nat) (B:As) (Rw:Ax) (L:Aw) (a0:List (ByteArray × Ex)) (a1:List (ByteArray × Ex)) (r:Bool) (h:Fe n a0 a1=some r) :
  ACalls Tryz.prog w0 28 [.agg ([.list (a0.map AP) .none]),.agg ([.list (a1.map AP) .none])] ⟨B,Rw,L⟩ fun x st=>x = .val (.bool r)∧st=⟨B,Rw,L⟩:=by
 rw [Fe] at h
 refine hd [.tmp 4] Tryz.func28 Tryz.ntmps28 fun M0 W0 k i f b l d hs=>?_
 simp only [AB]
 refine rg [2,3] hs ?_
 apply Ap;intro K2 g
 refine rg [2,3,12] hs ?_
 refine Cj h hs ?_ ?_<;>intro hs h
 ·refine rg [4] hs ?_
  exact rt h hs b d
 refine sk [2,3] hs g ?_
 clear g
 refine AA (fun e st=>Ck e st B Rw L [] [[.list (a0.map AP) .none],[.list (a1.map AP) .none]] [] (GA n  = some r)) ?_ ?_
 ·intro K8 j
  refine rg [2,3,5] hs ?_
  apply Au
  refine AC (fun m e st=>∃ (c:Int),Ck e st B Rw L [(2,true,.box B.length 0),(3,true,.box (B.length+1) 0),(5,true,Am c)] [[.list (a0.map AP) .none],[.list (a1.map AP) .none]] [] (CC n a0 a1 m c=some r)) n ⟨0,([]),Rw,ef hs,ef hs,d,h⟩ ?_
  rintro ml10 e st ⟨c,Xl10,Rl10,rfl,rfl,d,h⟩ Ul10 Vl10
  cases ml10 with
  | zero=>cases h
  | succ ml10 =>
  rw [CC] at h
  exact go (tg (a:=([2,3,5,17],([2,3,5],([29,2,3,5,48],[4],()),[29,2,3,5,48],([4],()),[2,3,5],[2,3,5],()),[],()))) h hs k i f b d (q1 (Qj w0 n)) (q2 j (fun e s=>Vl10 ml10 e s (Nat.lt_succ_self _)))
 ·clear h;rintro e st ⟨Xk7,Rk7,rfl,rfl,d,h⟩
  rw [GA] at h
  refine td k i f b d ?_
  refine rg [4] hs ?_
  exact rt h hs b d
def RwR (m:P8) (t:Ty) (A:Option (Ex × Bool)) (Z:Option (Ex × Cpm)) (p:Bool) (D:Nat):Prop :=
 ∃ (e1 e2:Ex) (q:Bool),A=some (e1,q)∧Z=some (e2,Cpm.mk m t q)∧(q=true→p=true∧e1=e2)∧e1.bnd D∧e2.bnd D
theorem Zb8 (m:P8) (t:Ty) (c:Cps) (rec1:Ex→Cps→Bool→Option (Ex × Bool)) (rec2:Cpm→Ex→Option (Ex × Cpm)) (n D:Nat) (e:Ex) (ha:e.args.length≤4) (hv:∀ v∈e.value,v.size≤1100000∧v.ok) (hvl:e.value.length≤2)
  (hr:∀ x∈e.args,∀ p:Bool,RwR m t (rec1 x c p) (rec2 (Cpm.mk m t p) x) p D) (p0:Bool):∀ (k q i:Nat) (xs ys:List Ex) (p:Bool),i+k=e.args.length→k<q→xs.length=i→ys.length=i→(p=true→p0=true∧xs=ys)→(∀ x∈xs,x.bnd D)→(∀ x∈ys,x.bnd D) →
  RwR m t (C4 rec1 n e c q xs (i:Int) p) (Bi rec2 n e q ys (i:Int) (Cpm.mk m t p)) p0 (D+1)
 | k,0,i,_,_,_,_,h,_,_,_,_,_=>absurd h (Nat.not_lt_zero _)
 | 0,q+1,i,xs,ys,p,hi,_,h1,h2,hp,b1,b2=>by
  rw [C4,Bi,AH,Ac,Aj (by decide),Aj (by decide)]
  exact ⟨_,_,p,rfl,rfl,fun q=>⟨(hp q).1,by rw [(hp q).2]⟩,⟨hv,by simp only [Ex.args];omega,b1,hvl⟩,⟨hv,by simp only [Ex.args];omega,b2,hvl⟩⟩
 | k+1,q+1,i,xs,ys,p,hi,hq,h1,h2,hp,b1,b2=>by
  have a:i<e.args.length:=by omega
  obtain ⟨f,r,u,g,o,s,y,b⟩:=hr _ (List.getElem_mem a) p
  have ih:=Zb8 m t c rec1 rec2 n D e ha hv hvl hr p0 k q (i+1) (xs++[f]) (ys++[r]) u (by omega) (by omega) (by rw [G7];omega) (by rw [G7];omega) (fun z=>by
   obtain ⟨w,l⟩:=s z
   obtain ⟨j,d⟩:=hp w
   exact ⟨j,by rw [l,d]⟩) (G6 b1 y) (G6 b2 b)
  rw [C4,Bi,AH,Ah a,Ai rfl,Ai rfl,AK a,Af,Af,g,o,Af,Af,Ab,Ai (AG (by omega)),Ab,Ai (AG (by omega))]
  exact ih
theorem Zfp (n:Nat) (hn:1500000≤n) (m:P8) (hm:LQ m) (t:Ty) (ts:t.small) (tg:t.Good) (d:Nat) (e:Ex) (he:e.fits d) (p:Bool) (c:Cps) (hc:c=Cps.mk m (D1 n m) t) :
  ∃ (A:Option (Ex × Bool)) (Z1 Z2:Option (Ex × Cpm)),EK n e c p=A∧((Bc n (Cpm.mk m t p) e.text).bind fun y7=>some (y7.1,y7.2.2))=Z1 ∧
   ((Bc n (Cpm.mk m t p) e.text).bind fun y16=>if decide (y16.1.op=2) then some ((Ex.mk e.op e.int y16.1.text e.value e.args),y16.2.2) else if (decide (e.op=22))&&y16.2.1 then some ((Ex.mk 1 0 (⟨#[]⟩:ByteArray) ([Vl.mk 1 1 0 (⟨#[]⟩:ByteArray) ([]) ([])]) ([]),y16.2.2)) else some (e,Cpm.mk y16.2.2.first y16.2.2.mid false))=Z2 ∧
   (e.op=2→RwR m t A Z1 p (d+5))∧(e.op≠2→RwR m t A Z2 p (d+5)):=by
 obtain ⟨o,al,ok,h,i,k,j⟩:=Zjj n hn m hm t ts tg p e.text
 have f:=he.bnd.mono (show d≤d+5 by omega)
 have b:=k.mono (show 5≤d+5 by omega)
 refine ⟨_,_,_,rfl,rfl,rfl,fun g=>?_,fun g=>?_⟩
 ·rw [EK,hc,h,i,Af,Af]
  simp only
  cases ok with
  | false=>exact ⟨e,o,false,rfl,by rw [Bool.and_false],fun q=>absurd q (by decide),f,b⟩
  | true =>
   rw [Aj (show ¬ (!true)=true by decide),Ai (Ah g),Bool.and_true]
   exact ⟨o,o,p,rfl,rfl,fun q=>⟨q,rfl⟩,b,b⟩
 ·rw [EK,hc,h,i,Af,Af]
  simp only
  cases ok with
  | false =>
   obtain ⟨a1,a2⟩:=j rfl
   rw [a1,a2,Ai (show (!false)=true by rfl),Aj (show ¬ decide (zeroE.op=2)=true by decide),Bool.and_false,Aj (show ¬ false=true by decide)]
   exact ⟨e,e,false,rfl,rfl,fun q=>absurd q (by decide),f,f⟩
  | true =>
   rw [Aj (show ¬ (!true)=true by decide),Aj (by rw [decide_eq_true_eq];exact g),Bool.and_true]
   by_cases q2:o.op=2
   ·rw [Ai (Ah q2),Ai (Ah q2)]
    have a:(Ex.mk e.op e.int o.text e.value e.args).bnd (d+5):=by
     cases d with
     | zero=>exact he.elim
     | succ d=>exact f
    exact ⟨_,_,p,rfl,rfl,fun q=>⟨q,rfl⟩,a,a⟩
   ·have q3:¬ decide (o.op=2)=true:=by rw [decide_eq_true_eq];exact q2
    rw [Aj q3,Aj q3]
    by_cases q4:(decide (e.op=22)&&al)=true
    ·rw [Ai q4,Ai q4]
     have a:(Ex.mk 1 0 (⟨#[]⟩:ByteArray) ([Vl.mk 1 1 0 (⟨#[]⟩:ByteArray) ([]) ([])]) ([])).bnd (d+5):=by
      refine ⟨fun x a=>?_,by simp [Ex.args],by simp [Ex.args],by simp [Ex.value]⟩
      rw [List.mem_singleton.1 a]
      exact ⟨by decide,(Vl.ok_eq _).2 ⟨by decide,by simp [Vl.list],by simp [Vl.fields]⟩⟩
     exact ⟨_,_,p,rfl,rfl,fun q=>⟨q,rfl⟩,a,a⟩
    ·rw [Aj q4,Aj q4]
     exact ⟨e,e,false,rfl,rfl,fun q=>absurd q (by decide),f,f⟩
theorem Ze4 (m:P8) (hm:LQ m) (t:Ty) (ts:t.small) (tg:t.Good):∀ (d n:Nat) (e:Ex) (p:Bool),e.fits d→1500000+d≤n→RwR m t (Du n e (Cps.mk m (D1 400 m) t) p) (Bh n (Cpm.mk m t p) e) p (d+5)
 | 0,_,_,_,h,_=>h.elim
 | d+1,n,e,p,h,hn=>by
  obtain ⟨n,rfl⟩:∃ q,n=q+1:=⟨n-1,by omega⟩
  obtain ⟨A,Z1,Z2,j,u,s,l,g⟩:=Zfp n (by omega) m hm t ts tg (d+1) e h p (Cps.mk m (D1 400 m) t) (by rw [ZC 400 n (by omega) (by omega)])
  obtain ⟨_,f,r,i,o⟩:=h
  have rl:=Zb8 m t (Cps.mk m (D1 400 m) t) (Du n) (Bh n) n (d+5) e r (fun v hv=>⟨by have:=(f v hv).1;omega,(f v hv).2⟩) o (fun x k p=>Ze4 m hm t ts tg d n x p (i x k) (by omega)) p e.args.length n 0 [] [] p (by omega) (by omega) rfl rfl (fun q=>⟨q,rfl⟩) (by simp) (by simp)
  have rl:RwR m t (C4 (Du n) n e (Cps.mk m (D1 400 m) t) n [] 0 p) (Bi (Bh n) n e n [] 0 (Cpm.mk m t p)) p (d+1+5):=by
   have:=rl
   rw [show d+5+1=d+1+5 by omega] at this
   exact this
  have c:Dx (Du n) n e (Cps.mk m (D1 400 m) t) p true=A:=by
   rw [Dx,Ai (rfl:true=true),j]
   cases A<;>rfl
  have b:BA (Bh n) n (Cpm.mk m t p) e true=Z2:=by
   rw [BA,Ai (rfl:true=true),←s]
   rfl
  rw [Du,I7,Bh,Ez]
  by_cases o2:e.op=2
  ·rw [Ai (Ah o2),Ai (Ah o2),c,u]
   exact l o2
  have n2:¬ decide (e.op=2)=true:=by rw [decide_eq_true_eq];exact o2
  rw [Aj n2,Aj n2]
  by_cases o22:e.op=22
  ·rw [Ai (Ah o22),Ai (Ah o22),c,b]
   exact g o2
  have a:¬ decide (e.op=22)=true:=by rw [decide_eq_true_eq];exact o22
  rw [Aj a,Aj a]
  by_cases o26:e.op=26
  ·rw [Ah o26,c,b]
   exact g o2
  ·rw [Ag o26,Dx,BA,Aj (show ¬ false=true by decide),Aj (show ¬ false=true by decide)]
   exact rl
theorem Zb4 (rec:Ex→Option Ex) (n:Nat) (e:Ex) (hl:e.args.length≤4) (hr:∀ x∈e.args,rec x=some x) (vs:List Vl):∀ (k q i:Nat),i+k=e.args.length→k<q→EO rec n e q (i:Int) vs (e.args.take i)=some (Ex.mk e.op e.int e.text vs e.args)
 | k,0,i,_,h=>absurd h (Nat.not_lt_zero _)
 | 0,q+1,i,hi,_=>by
  rw [EO,AH,Ac,Aj (by decide),Jb,List.take_of_length_le (by omega)]
 | k+1,q+1,i,hi,hq=>by
  have a:i<e.args.length:=by omega
  have b:e.args.take i++[e.args[i]]=e.args.take (i+1):=by rw [List.take_succ_eq_append_getElem a]
  rw [EO,AH,Ah a,Ai rfl,AK a,Af,hr _ (List.getElem_mem a),Af,Ai (by rw [List.length_take];omega),Ai (AG (by omega)),b]
  exact Zb4 rec n e hl hr vs k q (i+1) (by omega) (by omega)
theorem Ze8 (rec:Ex→Option Ex) (n:Nat) (hn:1200000≤n) (e:Ex) (hl:e.args.length≤4) (hr:∀ x∈e.args,rec x=some x) (hv:∀ v∈e.value,v.size≤1100000∧v.ok) (hvl:e.value.length≤2):∀ (k q i:Nat),i+k=e.value.length→k<q→FA rec n e q (i:Int) (e.value.take i)=some e
 | k,0,i,_,h=>absurd h (Nat.not_lt_zero _)
 | 0,q+1,i,hi,_=>by
  rw [FA,AH,Ac,Aj (by decide),JV,List.take_of_length_le (by omega)]
  have:=Zb4 rec n e hl hr e.value e.args.length n 0 (by omega) (by omega)
  rw [List.take_zero] at this
  exact this.trans (by cases e;rfl)
 | k+1,q+1,i,hi,hq=>by
  have a:i<e.value.length:=by omega
  have b:e.value.take i++[e.value[i]]=e.value.take (i+1):=by rw [List.take_succ_eq_append_getElem a]
  have c:=(hv _ (List.getElem_mem a)).1
  rw [FA,AH,Ah a,Ai rfl,AK a,Af,Nx n _ (by omega) (by omega),Af,Ai (by rw [List.length_take];omega),Ai (AG (by omega)),b]
  exact Ze8 rec n hn e hl hr hv hvl k q (i+1) (by omega) (by omega)
theorem WQ:∀ (d n:Nat) (e:Ex),e.bnd d→1200000+d≤n→GI n e=some e
 | 0,_,_,h,_=>h.elim
 | d+1,n,e,⟨h1,h2,h3,h4⟩,hn=>by
  obtain ⟨n,rfl⟩:∃ q,n=q+1:=⟨n-1,by omega⟩
  rw [GI,Lj]
  have:=Ze8 (GI n) n (by omega) e h2 (fun x a=>WQ d n x (h3 x a) (by omega)) h1 h4 e.value.length n 0 (by omega) (by omega)
  rw [List.take_zero] at this
  exact this
theorem Zfq (n:Nat) (D:Nat) (hn:1200000+D≤n) (l:P8) (hl:l.length≤1000) (hb:∀ r∈l,r.2.bnd D):∀ (k q i:Nat),i+k=l.length→k<q→DI n l q (l.take i) (i:Int)=some l
 | k,0,i,_,h=>absurd h (Nat.not_lt_zero _)
 | 0,q+1,i,hi,_=>by
  rw [DI,AH,Ac,Aj (by decide),HS,List.take_of_length_le (by omega)]
 | k+1,q+1,i,hi,hq=>by
  have a:i<l.length:=by omega
  have b:l.take i++[(l[i].1,l[i].2)]=l.take (i+1):=by rw [List.take_succ_eq_append_getElem a]
  rw [DI,AH,Ah a,Ai rfl,AK a,Af,WQ D n _ (hb _ (List.getElem_mem a)) hn,Af,Ai (by rw [List.length_take];omega),Ai (AG (by omega)),b]
  exact Zfq n D hn l hl hb k q (i+1) (by omega) (by omega)
theorem Zcf (n D:Nat) (hn:1200000+D≤n) (l:P8) (hl:l.length≤1000) (hb:∀ r∈l,r.2.bnd D):GQ n l=some l:=by
 rw [GQ,Ai ⟨by omega,by omega,by omega⟩]
 have:=Zfq n D hn l hl hb l.length n 0 (by omega) (by omega)
 rw [List.take_zero] at this
 exact this
theorem ZbD (n:Nat) (l:List Ex) (f:Ex→Ex→Option Bool) (hf:∀ x∈l,f x x=some true) (hl:l.length≤1000):∀ (k q i:Nat),i+k=l.length→k<q→BD n l l f q (i:Int)=some true
 | k,0,i,_,h=>absurd h (Nat.not_lt_zero _)
 | 0,q+1,i,hi,_=>by
  rw [BD,AH,Ac,Aj (by decide),Fz]
 | k+1,q+1,i,hi,hq=>by
  have a:i<l.length:=by omega
  rw [BD,AH,Ah a,Ai rfl,AK a,Af,Af,hf _ (List.getElem_mem a),Af,Aj (by decide),Ai (AG (by omega))]
  exact ZbD n l f hf hl k q (i+1) (by omega) (by omega)
theorem TO:∀ (d n:Nat) (e:Ex),e.bnd d→1200000+d≤n→Fj n e e=some true
 | 0,_,_,h,_=>h.elim
 | d+1,n,e,⟨h1,h2,h3,h4⟩,hn=>by
  obtain ⟨n,rfl⟩:∃ q,n=q+1:=⟨n-1,by omega⟩
  obtain ⟨c,q1,q2⟩:=Zbo n e.value e.value (fun b a=>IY n b a) (by omega) (by omega) (fun p f q i=>Zcw n p q (by have:=(h1 p f).1;omega) (by have:=(h1 p f).1;omega))
  have q2:c=true:=q2.2 rfl
  subst q2
  have q3:=ZbD n e.args (fun b a=>Fj n b a) (fun x g=>TO d n x (h3 x g) (by omega)) (by omega) e.args.length n 0 (by omega) (by omega)
  have q3:BD n e.args e.args (fun b a=>Fj n b a) n 0=some true:=q3
  rw [Fj,KX,Ai (by simp [YU]),q1,Af,Ai rfl,FT,Ah rfl,Aj (by decide),q3,Af]
theorem W4 (n D:Nat) (hn:1200000+D≤n) (l:P8) (hl:l.length≤1000) (hb:∀ r∈l,r.2.bnd D):∀ (k q i:Nat),i+k=l.length→k<q→CC n l l q (i:Int)=some true
 | k,0,i,_,h=>absurd h (Nat.not_lt_zero _)
 | 0,q+1,i,hi,_=>by
  rw [CC,AH,Ac,Aj (by decide),GA]
 | k+1,q+1,i,hi,hq=>by
  have a:i<l.length:=by omega
  rw [CC,AH,Ah a,Ai rfl,AK a,Af,Af,YU,Aj (by decide),TO D n _ (hb _ (List.getElem_mem a)) hn,Af,Aj (by decide),Ai (AG (by omega))]
  exact W4 n D hn l hl hb k q (i+1) (by omega) (by omega)
theorem Zat (n D:Nat) (hn:1200000+D≤n) (l:P8) (hl:l.length≤1000) (hb:∀ r∈l,r.2.bnd D):Fe n l l=some true:=by
 rw [Fe,Ah rfl,Aj (by decide)]
 exact W4 n D hn l hl hb l.length n 0 (by omega) (by omega)
theorem ZdF (n D:Nat) (hn:1200002+D≤n) (l:P8) (hl:l.length≤1000) (hb:∀ r∈l,r.2.bnd D):∀ (k q i:Nat),i+k=l.length→k<q→∃ e,En n l q (i:Int)=some e∧Gq n l q (i:Int)=some e
 | k,0,i,_,h=>absurd h (Nat.not_lt_zero _)
 | 0,q+1,i,hi,_=>by
  rw [En,Gq,AH,Ac,Aj (by decide),Aj (by decide)]
  exact ⟨_,rfl,rfl⟩
 | k+1,q+1,i,hi,hq=>by
  have a:i<l.length:=by omega
  obtain ⟨c,e⟩:=ZgE n D hn _ (hb _ (List.getElem_mem a))
  obtain ⟨r,b,d⟩:=ZdF n D hn l hl hb k q (i+1) (by omega) (by omega)
  rw [En,Gq,AH,Ah a,Ai rfl,Ai rfl,AK a,Af,Af,e,Af,Af]
  by_cases z:c=0
  ·rw [Ah z,Aj (show ¬ (!true)=true by decide),Aj (show ¬ (!true)=true by decide),Ai (AG (by omega)),Ai (AG (by omega))]
   exact ⟨r,b,d⟩
  ·rw [Ag z]
   exact ⟨c,rfl,rfl⟩
theorem Zbf (n D:Nat) (hn:1200002+D≤n) (l:P8) (hl:l.length≤1000) (hb:∀ r∈l,r.2.bnd D):∃ e,Gg n l=some e∧I4 n l=some e :=
 ZdF n D hn l hl hb l.length n 0 (by omega) (by omega)
def Cd (b:ByteArray):Ex :=
 Ex.mk 2 0 b ([]) ([])
theorem Zbe (w0:World) (B:As) (Rw:Ax) (L:Aw) (a0:ByteArray) (r:Ex) (h:Cd a0=r) :
  ACalls Tryz.prog w0 31 [.val (.string a0)] ⟨B,Rw,L⟩ fun x st=>x = .agg (r.cs)∧st=⟨B,Rw,L⟩:=by
 rw [Cd] at h
 refine hd [.cell 2 65] Tryz.func31 Tryz.ntmps31 fun M0 W0 e d b a f c hs=>?_
 simp only [AB]
 refine rg [0,2] hs ?_
 refine rg [2] hs ?_
 exact rT h hs a c
theorem MB (w0:World) (B:As) (Rw:Ax) (L:Aw) (a0:ByteArray) :
  ACalls Tryz.prog w0 31 [.val (.string a0)] ⟨B,Rw,L⟩ fun x st=>x = .agg ((Cd a0).cs)∧st=⟨B,Rw,L⟩:=Zbe w0 B Rw L a0 _ rfl
def LX (n:Nat)  (b1_k4_6:List (Int × ByteArray × Int × Ty × List Vl)):Option Ty :=
 some (Ty.mk 9 0 0 0 ([]) ([]) b1_k4_6)
def Jc (n:Nat) (h:List ByteArray) (q:Ty):Nat→Int→(List (Int × ByteArray × Int × Ty × List Vl))→Option Ty
 | 0,_,_=>none
 | m+1,b,b1_l7_6 =>
  if decide (b<(h.length:Int)) then
   if Bj (b+1) then
    (B6 h b).bind fun g =>
    if (b1_l7_6.length+1)*160≤140737488355328∧b1_l7_6.length+1≤4611686018427387904 then
     if Bj (b+1) then
      (Jc n h q m) (b+1) (b1_l7_6++([(b+1,g,1,q,[])]))
     else none
    else none
   else none
  else
   LX n b1_l7_6
def JS (n:Nat) (b:List ByteArray) (g:Ty):Option Ty :=
 Jc n b g n 0 ([])
theorem O2 (w0:World) (n:Nat) (B:As) (Rw:Ax) (L:Aw) (a0:List ByteArray) (la1:Nat) (a1:Ty) (hla1:B[la1]? = some (a1.cs)) (r:Ty) (h:JS n a0 a1=some r) :
  ACalls Tryz.prog w0 71 [.list (a0.map Eo) .none,.box la1 0] ⟨B,Rw,L⟩ fun x st=>x = .agg (r.cs)∧st=⟨B,Rw,L⟩:=by
 rw [JS] at h
 refine hd [.cell 3 26] Tryz.func71 Tryz.ntmps71 fun M0 W0 G q u i K j hs=>?_
 simp only [AB]
 have v:=(Ak.1 hla1).1
 have hs:=Ae (An hla1) hs
 refine rg [0,1,3] hs ?_
 refine rg [0,1,3,4] hs ?_
 refine AA (fun e st=>∃ (c:List (Int × ByteArray × Int × Ty × List Vl)) (d:Ev.Own),Ck e st B Rw L [(3,true,.box B.length 0),(4,true,.box (B.length+1) 0)] [[Am 0,Am 0,Am 0,Am 0,.list ([]) .full,.list ([]) .full,.list ([]) .full],[Am 9,Am 0,Am 0,Am 0,.list ([]) .full,.list ([]) .full,.list (c.map CW) d]] [(11,c.length,d)] (LX n c=some r)) ?_ ?_
 ·intro K5 z
  refine rg [0,1,3,4,5] hs ?_
  apply Au
  refine AC (fun m e st=>∃ (g:Int) (a:List (Int × ByteArray × Int × Ty × List Vl)) (b:Ev.Own),Ck e st B Rw L [(0,true,.list (a0.map Eo) .none),(1,true,.box la1 0),(3,true,.box B.length 0),(4,true,.box (B.length+1) 0),(5,true,Am g)] [[Am 0,Am 0,Am 0,Am 0,.list ([]) .full,.list ([]) .full,.list ([]) .full],[Am 9,Am 0,Am 0,Am 0,.list ([]) .full,.list ([]) .full,.list (a.map CW) b]] [(11,a.length,b)] (Jc n a0 a1 m g a=some r)) n ⟨0,([]),.full,([]),Rw,ef hs,ef hs,Owns.of_eq ((j).full 11 0) E0,h⟩ ?_
  rintro ml7 e st ⟨g,a,b,Xl7,Rl7,rfl,rfl,j,h⟩ Ul7 Vl7
  cases ml7 with
  | zero=>cases h
  | succ ml7 =>
  rw [Jc] at h
  have C:=j.unders
  simp only [List.mem_cons,List.not_mem_nil,or_false,forall_eq_or_imp,forall_eq] at C
  refine td G q u i j ?_
  apply Ap;intro K8 t
  refine rg [0,1,3,4,5,10] hs ?_
  refine Cj h hs ?_ ?_<;>intro hs h
  rotate_left
  ·refine sx [3,4] hs z ?_
   exact ⟨a,b,([]),Rl7,ef hs,ef hs,Owns.of_eq (j) E0,h⟩
  refine sk [0,1,3,4,5] hs t ?_
  clear t
  apply Ap;intro K11 o
  apply Au
  obtain ⟨J,h⟩:=Av h
  obtain ⟨w,F,D,p,h⟩:=ix Eo h
  obtain ⟨l,h⟩:=Av h
  obtain ⟨E,k,j,f⟩:=j.append (P:=Tryz.prog) Vj (by rw [O3];rfl) (by decide) 1 l.1 l.2
  replace f:=fun (ys:List AV) B L o2=>f (a.map CW) ys B L o2 E0
  replace f:=fun (y:AV) B L o2=>f [y] B L o2 E0 ev
  try simp only [List.mem_singleton,List.mem_cons,List.not_mem_nil,or_false,forall_eq_or_imp,forall_eq,List.map_append,List.map_cons,List.map_nil,Ge,Gi,F3,ES,EY,F7,Dn,D5,F2,CN,CM,Ej,D7,Ef,F4,Ee,FZ] at f
  have hs:=Ae p hs
  have hs:=Ae (Ty.cs_eqs a1) hs
  have hs:=Ae f hs
  refine dl 11 1 1 [0,1,3,4,5] hs OJ o ?_
  clear o
  obtain ⟨H,h⟩:=Av h
  refine rl [0,1,3,4,5] hs (fun e s=>Vl7 ml7 e s (Nat.lt_succ_self _)) ?_
  exact ⟨(g+1),(a++([(g+1,w,1,a1,[])])),E,([]),k,ef hs,ef hs,Owns.of_eq (j) E0,h⟩
 ·clear h;rintro e st ⟨c,d,Xk4,Rk4,rfl,rfl,j,h⟩
  rw [LX] at h
  have C:=j.unders
  simp only [List.mem_cons,List.not_mem_nil,or_false,forall_eq_or_imp,forall_eq] at C
  refine td G q u i j ?_
  refine rg [3] hs ?_
  exact rt h hs i j
def KI (n:Nat)  (b1_k4_6:List (Int × ByteArray × Int × Ty × List Vl)):Option Ty :=
 some (Ty.mk 9 0 0 0 ([]) ([]) b1_k4_6)
def IA (n:Nat) (g:List ByteArray) (q:Ty):Nat→Int→(List (Int × ByteArray × Int × Ty × List Vl))→Option Ty
 | 0,_,_=>none
 | m+1,b,b1_l7_6 =>
  if decide (b<(g.length:Int)) then
   if Bj (b+1) then
    (B6 g b).bind fun h =>
    if (b1_l7_6.length+1)*160≤140737488355328∧b1_l7_6.length+1≤4611686018427387904 then
     if Bj (b+1) then
      (IA n g q m) (b+1) (b1_l7_6++[(b+1,h,1,q,[])])
     else none
    else none
   else none
  else
   KI n b1_l7_6
def Lx (n:Nat) (b:List ByteArray) (g:Ty):Option Ty :=
 IA n b g n 0 ([])
theorem TQ (w0:World) (n:Nat) (B:As) (Rw:Ax) (L:Aw) (a0:List ByteArray) (la1:Nat) (a1:Ty) (hla1:B[la1]? = some (a1.cs)) (r:Ty) (h:Lx n a0 a1=some r) :
  ACalls Tryz.prog w0 71 [.list (a0.map Eo) .none,.box la1 0] ⟨B,Rw,L⟩ fun x st=>∃ (o0:VO) (rows:Ax),x = .agg ([Am r.kind,Am r.min,Am r.max,Am r.scale,.list (r.words.map Eo) .none,.list (r.elem.map KF) .none,QJ o0 r.fields.length])∧st=⟨B,rows,L⟩∧Owns Rw rows [] .none [(o0,11,(r.fields).flatMap fun x=>(CW x).cells)]:=by
 rw [Lx] at h
 refine ACalls.finV (ZaN [true,true,true,true,true,true,false] (rs:=[.cell 3 26]) Tryz.func71 rfl rfl Tryz.ntmps71 (A7 Tryz.func71 rfl (by decide)) (Nat.le_of_ble_eq_true rfl) ?_)
 intro M0 W0 D u w i K
 dsimp only at D u w i K
 simp only [AB]
 have j:=Owns.none Rw
 have hs:=Ze5
 have z:=(Ak.1 hla1).1
 have hs:=Ae (An hla1) hs
 refine rg [0,1,3] hs ?_
 refine rg [0,1,3,4] hs ?_
 refine AA (fun e st=>∃ (d:List (Int × ByteArray × Int × Ty × List Vl)) (g:VO) (Xk4:As) (Rk4:Ax),e=[(3,true,.box B.length 0),(4,true,.box (B.length+1) 0)]∧st=⟨B++([[Am 0,Am 0,Am 0,Am 0,.list ([]) .full,.list ([]) .full,.list ([]) .full],[Am 9,Am 0,Am 0,Am 0,.list ([]) .full,.list ([]) .full,QJ g d.length]]++Xk4),Rk4,L⟩∧Owns Rw Rk4 [] .none [(g,11,d.flatMap fun x=>(CW x).cells)]∧KI n d=some r) ?_ ?_
 ·intro K5 C
  refine rg [0,1,3,4,5] hs ?_
  apply Au
  refine RA (B.length+1) 6 (by simp only [CG,BK,BJ,Bl];rfl) rfl ?_;simp +decide only [go_sem,Nat.reduceAdd,List.set_cons_zero,List.set_cons_succ]
  have j:=j.nilV 11
  refine AC (fun m e st=>∃ (c:Int) (a:List (Int × ByteArray × Int × Ty × List Vl)) (b:VO) (Xl7:As) (Rl7:Ax),e=[(0,true,.list (a0.map Eo) .none),(1,true,.box la1 0),(3,true,.box B.length 0),(4,true,.box (B.length+1) 0),(5,true,Am c)]∧st=⟨B++([[Am 0,Am 0,Am 0,Am 0,.list ([]) .full,.list ([]) .full,.list ([]) .full],[Am 9,Am 0,Am 0,Am 0,.list ([]) .full,.list ([]) .full,QJ b a.length]]++Xl7),Rl7,L⟩∧Owns Rw Rl7 [] .none [(b,11,a.flatMap fun x=>(CW x).cells)]∧IA n a0 a1 m c a=some r) n ⟨0,([]),.nil,([]),Rw,ef hs,ef hs,Owns.eqV (j) fn_,h⟩ ?_
  rintro ml7 e st ⟨c,a,b,Xl7,Rl7,rfl,rfl,j,h⟩ Ul7 Vl7
  cases ml7 with
  | zero=>cases h
  | succ ml7 =>
  rw [IA] at h
  have k:=j.underV
  simp only [List.mem_cons,List.not_mem_nil,or_false,forall_eq_or_imp,forall_eq] at k
  refine A4 D u w rfl i j ow ow ?_ (vu @Yd)
  apply Ap;intro K9 y
  refine rg [0,1,3,4,5,10] hs ?_
  refine Cj h hs ?_ ?_<;>intro hs h
  rotate_left
  ·refine sx [3,4] hs C ?_
   exact ⟨a,b,([]),Rl7,ef hs,ef hs,Owns.eqV (j) fn_,h⟩
  refine sk [0,1,3,4,5] hs y ?_
  clear y
  apply Ap;intro K12 p
  apply Au
  obtain ⟨H,h⟩:=Av h
  obtain ⟨t,F,G,v,h⟩:=ix Eo h
  obtain ⟨q,h⟩:=Av h
  obtain ⟨E,o,j,l⟩:=j.appendV (P:=Tryz.prog) (n:=a.length) (m:=1) Vj (by rw [O3];rfl) (by decide) ((Lt (f:=CW) (sz:=11) (fun _=>by simp +decide only [go_sem]) _)) q.1 q.2 [CW ((c+1,t,1,a1,[]))] rfl ((a++[(c+1,t,1,a1,[])]).flatMap fun x=>(CW x).cells) (by simp only [List.flatMap_append,List.flatMap_cons,List.flatMap_nil,List.append_nil,List.nil_append,Xa])
  simp only [List.mem_singleton,forall_eq,Ge,Gi,F3,ES,EY,F7,Dn,D5,F2,CN,CM,Ej,D7,Ef,F4,Ee,FZ,Ty.cs_eqs a1,List.cons_append,List.nil_append,List.map_nil,List.map_cons] at l
  have hs:=Ae v hs
  have hs:=Ae (Ty.cs_eqs a1) hs
  have hs:=Ae l hs
  refine dl 11 1 1 [0,1,3,4,5] hs OJ p ?_
  clear p
  obtain ⟨J,h⟩:=Av h
  refine rl [0,1,3,4,5] hs (fun e s=>Vl7 ml7 e s (Nat.lt_succ_self _)) ?_
  exact ⟨(c+1),(a++[(c+1,t,1,a1,[])]),E,([]),o,ef hs,ef hs,Owns.eqV (j) fn_,h⟩
 ·clear h;rintro e st ⟨d,g,Xk4,Rk4,rfl,rfl,j,h⟩
  rw [KI] at h
  have k:=j.underV
  simp only [List.mem_cons,List.not_mem_nil,or_false,forall_eq_or_imp,forall_eq] at k
  refine A4 D u w rfl i j ow ow ?_ (vu @Yd)
  refine rg [3] hs ?_
  apply AN;simp +decide only [go_sem,Nat.reduceAdd,An hla1]
  have hgt:=Option.some.inj h;subst hgt
  have k:=j.underV
  simp only [List.mem_cons,List.not_mem_nil,or_false,forall_eq_or_imp,forall_eq] at k
  refine ZiU j i rfl (by (simp +decide only [go_sem,Nat.reduceAdd,An hla1])<;>(try (repeat' apply Ae))<;>first | omega | assumption) (vu @Yd) ⟨_,_,?_,rfl,j.sub (List.nil_sublist _)⟩
  first | rfl | (simp +decide only [go_sem,Nat.reduceAdd,An hla1];done) | (simp +decide only [go_sem,Nat.reduceAdd,Vl.cs,Ty.cs,An hla1];done)
def Cm (b:ByteArray) (g:Ex):((ByteArray × Ex)) :=
 (b,g)
theorem ZX (w0:World) (B:As) (Rw:Ax) (L:Aw) (a0:ByteArray) (a1:Ex) (r:(ByteArray × Ex)) (h:Cm a0 a1=r) :
  ACalls Tryz.prog w0 30 [.val (.string a0),.agg (a1.cs)] ⟨B,Rw,L⟩ fun x st=>x = .agg (.val (.string r.1)::(r.2.cs))∧st=⟨B,Rw,L⟩:=by
 rw [Cm] at h
 refine hd [.cell 4 67] Tryz.func30 Tryz.ntmps30 fun M0 W0 e d b a f c hs=>?_
 simp only [AB]
 refine rg [0,3,4] hs ?_
 refine rg [4] hs ?_
 exact rT h hs a c
theorem La (w0:World) (B:As) (Rw:Ax) (L:Aw) (a0:ByteArray) (a1:Ex) :
  ACalls Tryz.prog w0 30 [.val (.string a0),.agg (a1.cs)] ⟨B,Rw,L⟩ fun x st=>x = .agg (.val (.string (Cm a0 a1).1)::((Cm a0 a1).2.cs))∧st=⟨B,Rw,L⟩:=ZX w0 B Rw L a0 a1 _ rfl
def Pn (n:Nat) (h:List (ByteArray × Ex)) (q:Ty) (g:ByteArray):Option ((List ByteArray) × Int) :=
 (MV n h q g).bind fun b =>
 some ((b.2.1,b.2.2))
theorem XT (w0:World) (hE:Jl w0) (hM:Jh w0) (hP:Pow10 w0) (hT:Lib.Utf8Tabs 2 3 w0) (n:Nat) (B:As) (Rw:Ax) (L:Aw) (a0:List (ByteArray × Ex)) (a1:Ty) (a2:ByteArray) (r:(List ByteArray) × Int) (h:Pn n a0 a1 a2=some r) :
  ACalls Tryz.prog w0 21 [.agg ([.list (a0.map AP) .none]),.agg (a1.cs),.val (.string a2)] ⟨B,Rw,L⟩ fun x st=>x = .tup [.list (r.1.map Eo) .none,Am r.2]∧st=⟨B,Rw,L⟩:=by
 rw [Pn] at h
 refine hd [.tmp 6,.tmp 7] Tryz.func21 Tryz.ntmps21 fun M0 W0 g f d a j e hs=>?_
 simp only [AB]
 refine rg [2,3,4] hs ?_
 obtain ⟨i,c,h⟩:=bind_some h
 refine rc 2 [9,10] hs ?_;intro K2 b
 refine Az _ (Vw w0 hE hM hP hT n _ _ _ a0 a1 a2 _ c) (hv hs) ?_
 refine ne hs b ?_
 clear b
 refine rg [6,7] hs ?_
 exact rt h hs a e
def J5 (n:Nat)  : Option Bool :=
 (Lx n ([(⟨#[105,100]⟩:ByteArray),(⟨#[97,109,111,117,110,116]⟩:ByteArray)]) (Ty.mk 2 0 99 0 ([]) ([]) ([]))).bind fun g =>
 (JS n ([(⟨#[115,107,117]⟩:ByteArray),(⟨#[113,116,121]⟩:ByteArray)]) (Ty.mk 2 0 99 0 ([]) ([]) ([]))).bind fun y =>
 if (g.fields.length+1)*160≤140737488355328∧g.fields.length+1≤4611686018427387904 then
  (Pn n ([Cm ((⟨#[105,100]⟩:ByteArray)) (Cd ((⟨#[98,111,100,121,46,105,100]⟩:ByteArray))),Cm ((⟨#[116,111,116,97,108]⟩:ByteArray)) (Ex.mk 26 0 ((⟨#[98,111,100,121,46,105,116,101,109,115,91,42,93,46,113,116,121]⟩:ByteArray)) ([]) ([]))]) (Ty.mk g.kind g.min g.max g.scale g.words g.elem (g.fields++[(3,(⟨#[105,116,101,109,115]⟩:ByteArray),1,Ty.mk 8 0 9 0 ([]) ([y]) ([]),[])])) ((⟨#[98,111,100,121]⟩:ByteArray))).bind fun b =>
  if (!(decide (b.2=0)))||(!(decide ((b.1.length:Int)=2))) then
   some (false)
  else
   (B6 b.1 0).bind fun x24 =>
   if !(G5 x24 ((⟨#[97,109,111,117,110,116]⟩:ByteArray))) then
    some (false)
   else
    (B6 b.1 1).bind fun x28 =>
    if !(G5 x28 ((⟨#[105,116,101,109,115,91,42,93,46,115,107,117]⟩:ByteArray))) then
     some (false)
    else
     (JS n ([(⟨#[110]⟩:ByteArray)]) (Ty.mk 2 0 99 0 ([]) ([]) ([]))).bind fun z =>
     (Gf n ([Cm ((⟨#[110]⟩:ByteArray)) (Ex.mk 12 0 (⟨#[]⟩:ByteArray) ([]) ([Cd ((⟨#[98,111,100,121,46,97]⟩:ByteArray)),Cd ((⟨#[98,111,100,121,46,98]⟩:ByteArray))]))]) ([Cm ((⟨#[116,119,105,99,101]⟩:ByteArray)) (Ex.mk 14 0 (⟨#[]⟩:ByteArray) ([]) ([Cd ((⟨#[98,111,100,121,46,110]⟩:ByteArray)),Ex.mk 1 0 (⟨#[]⟩:ByteArray) ([Vl.mk 2 2 0 (⟨#[]⟩:ByteArray) ([]) ([])]) ([])]))]) z).bind fun q =>
     if (decide (q.2=0))&&(decide ((q.1.length:Int)=1)) then
      (B6 q.1 0).bind fun h =>
      if G5 h.1 ((⟨#[116,119,105,99,101]⟩:ByteArray)) then
       if decide ((h.2.args.length:Int)=2) then
        (B6 h.2.args 0).bind fun x41 =>
        some (decide (x41.op=12))
       else
        some (false)
      else
       some (false)
     else
      some (false)
 else none
theorem RY (w0:World) (hB:Rj w0) (hE:Jl w0) (hM:Jh w0) (hP:Pow10 w0) (hT:Lib.Utf8Tabs 2 3 w0) (n:Nat) (B:As) (Rw:Ax) (L:Aw)  (r:Bool) (h:J5 n  = some r) :
  ACalls Tryz.prog w0 24 [] ⟨B,Rw,L⟩ fun x st=>x = .val (.bool r)∧st=⟨B,Rw,L⟩:=by
 rw [J5] at h
 refine hd [.tmp 0] Tryz.func24 Tryz.ntmps24 fun M0 W0 hN az a2 j hu q hs=>?_
 simp only [AB]
 apply Ap;intro K1 ag
 apply Ar 1 []
 rw [Aq];simp +decide only [go_sem,Nat.reduceAdd,Vl.cs_mks,Ty.cs_mks,List.map_nil]
 (repeat' apply Ae)<;>first | refine ag _ _ ?_ | exact cl
 clear ag
 apply Ap;intro K2 ae
 apply Ar 1 [1]
 rw [Aq];simp +decide only [go_sem,Nat.reduceAdd,Vl.cs_mks,Ty.cs_mks,List.map_nil]
 (repeat' apply Ae)<;>first | refine ae _ _ ?_ | exact cl
 clear ae
 apply Ap;intro K3 Y
 apply Ar 1 [2]
 rw [Aq];simp +decide only [go_sem,Nat.reduceAdd,Vl.cs_mks,Ty.cs_mks,List.map_nil]
 (repeat' apply Ae)<;>first | refine Y _ _ ?_ | exact cl
 clear Y
 apply Ap;intro K4 ad
 refine Jm B.length 4 (by first | rfl | (simp only [CG,BK,BJ,Bl];rfl)) rfl rfl ?_;simp +decide only [go_sem,Nat.reduceAdd]
 refine Jm B.length 5 (by first | rfl | (simp only [CG,BK,BJ,Bl];rfl)) rfl rfl ?_;simp +decide only [go_sem,Nat.reduceAdd]
 refine Jm B.length 6 (by first | rfl | (simp only [CG,BK,BJ,Bl];rfl)) rfl rfl ?_;simp +decide only [go_sem,Nat.reduceAdd]
 obtain ⟨v,ax,h⟩:=bind_some h
 apply Ar 2 [2,3]
 rw [Aq];simp +decide only [go_sem,Nat.reduceAdd,Vl.cs_mks,Ty.cs_mks,List.map_nil]
 (repeat' apply Ae)<;>first | (refine Ey _ (TQ w0 n _ _ _ ([(⟨#[105,100]⟩:ByteArray),(⟨#[97,109,111,117,110,116]⟩:ByteArray)]) B.length (Ty.mk 2 0 99 0 ([]) ([]) ([])) (by simp +decide only [go_sem,Nat.reduceAdd,Vl.cs_mks,Ty.cs_mks,List.map_nil]) _ ax) (by first | rfl | (simp +decide only [go_sem,Nat.reduceAdd,Vl.cs_mks,Ty.cs_mks,List.map_nil];done) | (simp +decide only [go_sem,Nat.reduceAdd,Vl.cs,Ty.cs,Vl.cs_mks,Ty.cs_mks,List.map_nil];done)) ?_;rintro _ _ ⟨o7,Rv8,rfl,rfl,Q⟩) | exact cl
 have q:=q.callV Q
 rw [Aq];simp +decide only [go_sem,Nat.reduceAdd,Vl.cs_mks,Ty.cs_mks,List.map_nil]
 (repeat' apply Ae)<;>first | refine ad _ _ ?_ | exact cl
 clear ad
 apply Ap;intro K9 af
 obtain ⟨w,ab,h⟩:=bind_some h
 obtain ⟨J,h⟩:=Av h
 obtain ⟨a1,ai,q,a⟩:=q.appendV (P:=Tryz.prog) (n:=v.fields.length) (m:=1) Vj (by rw [O3];rfl) (by decide) ((Lt (f:=CW) (sz:=11) (fun _=>by simp +decide only [go_sem]) _)) J.1 J.2 [CW ((3,(⟨#[105,116,101,109,115]⟩:ByteArray),1,Ty.mk 8 0 9 0 ([]) ([w]) ([]),[]))] rfl ((v.fields++[(3,(⟨#[105,116,101,109,115]⟩:ByteArray),1,Ty.mk 8 0 9 0 ([]) ([w]) ([]),[])]).flatMap fun x=>(CW x).cells) (by simp only [List.flatMap_append,List.flatMap_cons,List.flatMap_nil,List.append_nil,List.nil_append,Xa])
 simp only [List.mem_singleton,forall_eq,Ge,Gi,F3,ES,EY,F7,Dn,D5,F2,CN,CM,Ej,D7,Ef,F4,Ee,FZ,Ty.cs_mks,List.cons_append,List.nil_append,List.map_nil,List.map_cons] at a
 apply Pl OJ 9 2 1 [2,3] kr
 rw [Aq];simp +decide only [go_sem,Nat.reduceAdd,Vl.cs_mks,Ty.cs_mks,List.map_nil,a]
 (repeat' apply Ae)<;>first | refine Az _ (O2 w0 n _ _ _ ([(⟨#[115,107,117]⟩:ByteArray),(⟨#[113,116,121]⟩:ByteArray)]) B.length (Ty.mk 2 0 99 0 ([]) ([]) ([])) (by simp +decide only [go_sem,Nat.reduceAdd,Vl.cs_mks,Ty.cs_mks,List.map_nil]) _ ab) (by first | rfl | (simp +decide only [go_sem,Nat.reduceAdd,Vl.cs_mks,Ty.cs_mks,List.map_nil,a];done) | (simp +decide only [go_sem,Nat.reduceAdd,Vl.cs,Ty.cs,Vl.cs_mks,Ty.cs_mks,List.map_nil,a];done)) ?_ | exact cl
 rw [Aq];simp +decide only [go_sem,Nat.reduceAdd,Vl.cs_mks,Ty.cs_mks,List.map_nil,a]
 (repeat' with_reducible apply Ae)<;>first | (rw [Aq];simp +decide only [go_sem,Nat.reduceAdd,Vl.cs_mks,Ty.cs_mks,List.map_nil,a]) | exact cl
 (repeat' apply Ae)<;>first | refine af _ _ ?_ | exact cl
 clear af
 apply Ap;intro K15 F
 apply Ar 4 [2,3,4]
 rw [Aq];simp +decide only [go_sem,Nat.reduceAdd,Vl.cs_mks,Ty.cs_mks,List.map_nil,a]
 (repeat' apply Ae)<;>first | refine Az _ (MB w0 _ _ _ ((⟨#[98,111,100,121,46,105,100]⟩:ByteArray))) (by first | rfl | (simp +decide only [go_sem,Nat.reduceAdd,Vl.cs_mks,Ty.cs_mks,List.map_nil,a];done) | (simp +decide only [go_sem,Nat.reduceAdd,Vl.cs,Ty.cs,Vl.cs_mks,Ty.cs_mks,List.map_nil,a];done)) ?_ | exact cl
 rw [Aq];simp +decide only [go_sem,Nat.reduceAdd,Vl.cs_mks,Ty.cs_mks,List.map_nil,a]
 (repeat' apply Ae)<;>first | refine Az _ (La w0 _ _ _ ((⟨#[105,100]⟩:ByteArray)) (Cd ((⟨#[98,111,100,121,46,105,100]⟩:ByteArray)))) (by first | rfl | (simp +decide only [go_sem,Nat.reduceAdd,Vl.cs_mks,Ty.cs_mks,List.map_nil,a];done) | (simp +decide only [go_sem,Nat.reduceAdd,Vl.cs,Ty.cs,Vl.cs_mks,Ty.cs_mks,List.map_nil,a];done)) ?_ | exact cl
 rw [Aq];simp +decide only [go_sem,Nat.reduceAdd,Vl.cs_mks,Ty.cs_mks,List.map_nil,a]
 (repeat' apply Ae)<;>first | refine Az _ (La w0 _ _ _ ((⟨#[116,111,116,97,108]⟩:ByteArray)) (Ex.mk 26 0 ((⟨#[98,111,100,121,46,105,116,101,109,115,91,42,93,46,113,116,121]⟩:ByteArray)) ([]) ([]))) (by first | rfl | (simp +decide only [go_sem,Nat.reduceAdd,Vl.cs_mks,Ty.cs_mks,List.map_nil,a];done) | (simp +decide only [go_sem,Nat.reduceAdd,Vl.cs,Ty.cs,Vl.cs_mks,Ty.cs_mks,List.map_nil,a];done)) ?_ | exact cl
 rw [Aq];simp +decide only [go_sem,Nat.reduceAdd,Vl.cs_mks,Ty.cs_mks,List.map_nil,a]
 (repeat' apply Ae)<;>first | refine F _ _ ?_ | exact cl
 clear F
 apply Ap;intro K16 K
 refine ZR (B.length+1) 6 (by first | rfl | (simp only [CG,BK];rfl) | (simp +decide only [go_sem,Nat.reduceAdd,Vl.cs_mks,Ty.cs_mks,List.map_nil,a])) (by first | rfl | (simp only [XN,List.length_set];rfl) | (simp only [List.length_append,List.length_cons,List.length_nil,Nat.zero_add];rfl)) q true (.inl rfl) (by decide) ((Lt (f:=CW) (sz:=11) (fun _=>by simp +decide only [go_sem]) _)) (Zhv (f:=CW) 11 (fun _=>rfl) (fun _=>by simp +decide only [go_sem]) _) (fun ah q=>?_)
 simp +decide only [go_sem,Nat.reduceAdd,List.set_cons_zero,List.set_cons_succ]
 obtain ⟨y,Z,h⟩:=bind_some h
 apply Ar 2 [2,5,6]
 rw [Aq];simp +decide only [go_sem,Nat.reduceAdd,Vl.cs_mks,Ty.cs_mks,List.map_nil,a]
 (repeat' apply Ae)<;>first | refine Az _ (XT w0 hE hM hP hT n _ _ _ ([Cm ((⟨#[105,100]⟩:ByteArray)) (Cd ((⟨#[98,111,100,121,46,105,100]⟩:ByteArray))),Cm ((⟨#[116,111,116,97,108]⟩:ByteArray)) (Ex.mk 26 0 ((⟨#[98,111,100,121,46,105,116,101,109,115,91,42,93,46,113,116,121]⟩:ByteArray)) ([]) ([]))]) (Ty.mk v.kind v.min v.max v.scale v.words v.elem (v.fields++[(3,(⟨#[105,116,101,109,115]⟩:ByteArray),1,Ty.mk 8 0 9 0 ([]) ([w]) ([]),[])])) ((⟨#[98,111,100,121]⟩:ByteArray)) _ Z) (by first | rfl | (simp +decide only [go_sem,Nat.reduceAdd,Vl.cs_mks,Ty.cs_mks,List.map_nil,a];done) | (simp +decide only [go_sem,Nat.reduceAdd,Vl.cs,Ty.cs,Vl.cs_mks,Ty.cs_mks,List.map_nil,a];done)) ?_ | exact cl
 rw [Aq];simp +decide only [go_sem,Nat.reduceAdd,Vl.cs_mks,Ty.cs_mks,List.map_nil,a]
 (repeat' apply Ae)<;>first | refine K _ _ ?_ | exact cl
 clear K
 apply Ap;intro K19 D
 apply Ap;intro K20 t
 rcases Bool.eq_false_or_eq_true ((!(decide (y.2=0)))||(!(decide ((y.1.length:Int)=2)))) with hf21 | hf21
 ·replace h:=AW h hf21
  apply Ar 1 [2,57]
  rw [Aq];simp +decide only [go_sem,Nat.reduceAdd,Vl.cs_mks,Ty.cs_mks,List.map_nil,a,hf21]
  (repeat' apply Ae)<;>first | refine t _ _ ?_ | exact cl
  clear t
  refine AL true ev (by simp +decide only [go_sem,Nat.reduceAdd,Vl.cs_mks,Ty.cs_mks,List.map_nil,a,hf21]) (fun hb22=>?_) (fun hb22=>by cases hb22)
  apply Ap;intro K23 G
  apply Ar 1 [0]
  rw [Aq];simp +decide only [go_sem,Nat.reduceAdd,Vl.cs_mks,Ty.cs_mks,List.map_nil,a,hf21]
  (repeat' apply Ae)<;>first | refine G _ _ ?_ | exact cl
  clear G
  apply AN;simp +decide only [go_sem,Nat.reduceAdd,Vl.cs_mks,Ty.cs_mks,List.map_nil,a,hf21]
  have hgt:=Option.some.inj h;subst hgt
  first | refine Br j rfl q.pre ev ⟨?_,rfl⟩ | refine Ci j rfl q.pre ev ⟨?_,rfl⟩
  first | rfl | (simp +decide only [go_sem,Nat.reduceAdd,Vl.cs_mks,Ty.cs_mks,List.map_nil,a,hf21];done) | (simp +decide only [go_sem,Nat.reduceAdd,Vl.cs,Ty.cs,Vl.cs_mks,Ty.cs_mks,List.map_nil,a,hf21];done)
 ·replace h:=AX h hf21
  obtain ⟨ay,aq,ap,b,h⟩:=ix Eo h
  have c:(y.1.map Eo).getD 0 .junk=_:=b
  rcases Bool.eq_false_or_eq_true (!(G5 ay ((⟨#[97,109,111,117,110,116]⟩:ByteArray)))) with hf25 | hf25
  ·replace h:=AW h hf25
   apply Ar 1 [2,57]
   rw [Aq];simp +decide only [go_sem,Nat.reduceAdd,Vl.cs_mks,Ty.cs_mks,List.map_nil,a,hf21,b,c,hf25]
   (repeat' apply Ae)<;>first | refine t _ _ ?_ | exact cl
   clear t
   refine AL true ev (by simp +decide only [go_sem,Nat.reduceAdd,Vl.cs_mks,Ty.cs_mks,List.map_nil,a,hf21,b,c,hf25]) (fun hb26=>?_) (fun hb26=>by cases hb26)
   apply Ap;intro K27 E
   apply Ar 1 [0]
   rw [Aq];simp +decide only [go_sem,Nat.reduceAdd,Vl.cs_mks,Ty.cs_mks,List.map_nil,a,hf21,b,c,hf25]
   (repeat' apply Ae)<;>first | refine E _ _ ?_ | exact cl
   clear E
   apply AN;simp +decide only [go_sem,Nat.reduceAdd,Vl.cs_mks,Ty.cs_mks,List.map_nil,a,hf21,b,c,hf25]
   have hgt:=Option.some.inj h;subst hgt
   first | refine Br j rfl q.pre ev ⟨?_,rfl⟩ | refine Ci j rfl q.pre ev ⟨?_,rfl⟩
   first | rfl | (simp +decide only [go_sem,Nat.reduceAdd,Vl.cs_mks,Ty.cs_mks,List.map_nil,a,hf21,b,c,hf25];done) | (simp +decide only [go_sem,Nat.reduceAdd,Vl.cs,Ty.cs,Vl.cs_mks,Ty.cs_mks,List.map_nil,a,hf21,b,c,hf25];done)
  ·replace h:=AX h hf25
   obtain ⟨aw,ao,au,d,h⟩:=ix Eo h
   have e:(y.1.map Eo).getD 1 .junk=_:=d
   apply Ar 1 [2,57]
   rw [Aq];simp +decide only [go_sem,Nat.reduceAdd,Vl.cs_mks,Ty.cs_mks,List.map_nil,a,hf21,b,c,hf25,d,e]
   (repeat' apply Ae)<;>first | refine t _ _ ?_ | exact cl
   clear t
   refine AL (!(G5 aw ((⟨#[105,116,101,109,115,91,42,93,46,115,107,117]⟩:ByteArray)))) ev (by first | (simp +decide only [go_sem,Nat.reduceAdd,Vl.cs_mks,Ty.cs_mks,List.map_nil,a,hf21,b,c,hf25,d,e];done) | (simp +decide only [go_sem,Nat.reduceAdd,Vl.cs_mks,Ty.cs_mks,List.map_nil,a,hf21,b,c,hf25,d,e];rfl)) (fun g=>?_) (fun g=>?_)
   ·replace h:=AW h g
    apply Ap;intro K30 z
    apply Ar 1 [0]
    rw [Aq];simp +decide only [go_sem,Nat.reduceAdd,Vl.cs_mks,Ty.cs_mks,List.map_nil,a,hf21,b,c,hf25,d,e,g]
    (repeat' apply Ae)<;>first | refine z _ _ ?_ | exact cl
    clear z
    apply AN;simp +decide only [go_sem,Nat.reduceAdd,Vl.cs_mks,Ty.cs_mks,List.map_nil,a,hf21,b,c,hf25,d,e,g]
    have hgt:=Option.some.inj h;subst hgt
    first | refine Br j rfl q.pre ev ⟨?_,rfl⟩ | refine Ci j rfl q.pre ev ⟨?_,rfl⟩
    first | rfl | (simp +decide only [go_sem,Nat.reduceAdd,Vl.cs_mks,Ty.cs_mks,List.map_nil,a,hf21,b,c,hf25,d,e,g];done) | (simp +decide only [go_sem,Nat.reduceAdd,Vl.cs,Ty.cs,Vl.cs_mks,Ty.cs_mks,List.map_nil,a,hf21,b,c,hf25,d,e,g];done)
   replace h:=AX h g
   refine sk [2] hs D ?_
   clear D
   apply Ap;intro K31 N
   apply Ar 4 [2,7]
   rw [Aq];simp +decide only [go_sem,Nat.reduceAdd,Vl.cs_mks,Ty.cs_mks,List.map_nil,a,hf21,b,c,hf25,d,e,g]
   (repeat' apply Ae)<;>first | refine Az _ (MB w0 _ _ _ ((⟨#[98,111,100,121,46,97]⟩:ByteArray))) (by first | rfl | (simp +decide only [go_sem,Nat.reduceAdd,Vl.cs_mks,Ty.cs_mks,List.map_nil,a,hf21,b,c,hf25,d,e,g];done) | (simp +decide only [go_sem,Nat.reduceAdd,Vl.cs,Ty.cs,Vl.cs_mks,Ty.cs_mks,List.map_nil,a,hf21,b,c,hf25,d,e,g];done)) ?_ | exact cl
   rw [Aq];simp +decide only [go_sem,Nat.reduceAdd,Vl.cs_mks,Ty.cs_mks,List.map_nil,a,hf21,b,c,hf25,d,e,g]
   (repeat' apply Ae)<;>first | refine Az _ (MB w0 _ _ _ ((⟨#[98,111,100,121,46,98]⟩:ByteArray))) (by first | rfl | (simp +decide only [go_sem,Nat.reduceAdd,Vl.cs_mks,Ty.cs_mks,List.map_nil,a,hf21,b,c,hf25,d,e,g];done) | (simp +decide only [go_sem,Nat.reduceAdd,Vl.cs,Ty.cs,Vl.cs_mks,Ty.cs_mks,List.map_nil,a,hf21,b,c,hf25,d,e,g];done)) ?_ | exact cl
   rw [Aq];simp +decide only [go_sem,Nat.reduceAdd,Vl.cs_mks,Ty.cs_mks,List.map_nil,a,hf21,b,c,hf25,d,e,g]
   (repeat' apply Ae)<;>first | refine Az _ (La w0 _ _ _ ((⟨#[110]⟩:ByteArray)) (Ex.mk 12 0 (⟨#[]⟩:ByteArray) ([]) ([Cd ((⟨#[98,111,100,121,46,97]⟩:ByteArray)),Cd ((⟨#[98,111,100,121,46,98]⟩:ByteArray))]))) (by first | rfl | (simp +decide only [go_sem,Nat.reduceAdd,Vl.cs_mks,Ty.cs_mks,List.map_nil,a,hf21,b,c,hf25,d,e,g];done) | (simp +decide only [go_sem,Nat.reduceAdd,Vl.cs,Ty.cs,Vl.cs_mks,Ty.cs_mks,List.map_nil,a,hf21,b,c,hf25,d,e,g];done)) ?_ | exact cl
   rw [Aq];simp +decide only [go_sem,Nat.reduceAdd,Vl.cs_mks,Ty.cs_mks,List.map_nil,a,hf21,b,c,hf25,d,e,g]
   (repeat' apply Ae)<;>first | refine N _ _ ?_ | exact cl
   clear N
   apply Ap;intro K32 C
   apply Ar 3 [2,7,8]
   rw [Aq];simp +decide only [go_sem,Nat.reduceAdd,Vl.cs_mks,Ty.cs_mks,List.map_nil,a,hf21,b,c,hf25,d,e,g]
   (repeat' apply Ae)<;>first | refine Az _ (MB w0 _ _ _ ((⟨#[98,111,100,121,46,110]⟩:ByteArray))) (by first | rfl | (simp +decide only [go_sem,Nat.reduceAdd,Vl.cs_mks,Ty.cs_mks,List.map_nil,a,hf21,b,c,hf25,d,e,g];done) | (simp +decide only [go_sem,Nat.reduceAdd,Vl.cs,Ty.cs,Vl.cs_mks,Ty.cs_mks,List.map_nil,a,hf21,b,c,hf25,d,e,g];done)) ?_ | exact cl
   rw [Aq];simp +decide only [go_sem,Nat.reduceAdd,Vl.cs_mks,Ty.cs_mks,List.map_nil,a,hf21,b,c,hf25,d,e,g]
   (repeat' apply Ae)<;>first | refine Az _ (La w0 _ _ _ ((⟨#[116,119,105,99,101]⟩:ByteArray)) (Ex.mk 14 0 (⟨#[]⟩:ByteArray) ([]) ([Cd ((⟨#[98,111,100,121,46,110]⟩:ByteArray)),Ex.mk 1 0 (⟨#[]⟩:ByteArray) ([Vl.mk 2 2 0 (⟨#[]⟩:ByteArray) ([]) ([])]) ([])]))) (by first | rfl | (simp +decide only [go_sem,Nat.reduceAdd,Vl.cs_mks,Ty.cs_mks,List.map_nil,a,hf21,b,c,hf25,d,e,g];done) | (simp +decide only [go_sem,Nat.reduceAdd,Vl.cs,Ty.cs,Vl.cs_mks,Ty.cs_mks,List.map_nil,a,hf21,b,c,hf25,d,e,g];done)) ?_ | exact cl
   rw [Aq];simp +decide only [go_sem,Nat.reduceAdd,Vl.cs_mks,Ty.cs_mks,List.map_nil,a,hf21,b,c,hf25,d,e,g]
   (repeat' apply Ae)<;>first | refine C _ _ ?_ | exact cl
   clear C
   apply Ap;intro K33 H
   obtain ⟨ak,aa,h⟩:=bind_some h
   obtain ⟨U,V,h⟩:=bind_some h
   apply Gt OJ [9,10] [9,10] kr (fun s=>∃ (X:As) (rows:Ax),s=⟨B++([[Am 2,Am 0,Am 99,Am 0,.list ([]) .none,.list ([]) .none,.list ([]) .none],[Am v.kind,Am v.min,Am v.max,Am v.scale,.list (v.words.map Eo) .none,.list (v.elem.map KF) .none,.list ((v.fields++[(3,(⟨#[105,116,101,109,115]⟩:ByteArray),1,Ty.mk 8 0 9 0 ([]) ([w]) ([]),[])]).map CW) .none],[.list (([Cm ((⟨#[105,100]⟩:ByteArray)) (Cd ((⟨#[98,111,100,121,46,105,100]⟩:ByteArray))),Cm ((⟨#[116,111,116,97,108]⟩:ByteArray)) (Ex.mk 26 0 ((⟨#[98,111,100,121,46,105,116,101,109,115,91,42,93,46,113,116,121]⟩:ByteArray)) ([]) ([]))]).map AP) .full],[.list (([Cm ((⟨#[110]⟩:ByteArray)) (Ex.mk 12 0 (⟨#[]⟩:ByteArray) ([]) ([Cd ((⟨#[98,111,100,121,46,97]⟩:ByteArray)),Cd ((⟨#[98,111,100,121,46,98]⟩:ByteArray))]))]).map AP) .full],[.list (([Cm ((⟨#[116,119,105,99,101]⟩:ByteArray)) (Ex.mk 14 0 (⟨#[]⟩:ByteArray) ([]) ([Cd ((⟨#[98,111,100,121,46,110]⟩:ByteArray)),Ex.mk 1 0 (⟨#[]⟩:ByteArray) ([Vl.mk 2 2 0 (⟨#[]⟩:ByteArray) ([]) ([])]) ([])]))]).map AP) .full]]++X),rows,L⟩) 3 (B.length+5)
   ·simp +decide only [go_sem,Nat.reduceAdd]
   ·rintro s ⟨X,rows,rfl⟩
    refine ⟨3,?_⟩
    rw [Aq];simp +decide only [go_sem,Nat.reduceAdd,Dw,Vl.cs_mks,Ty.cs_mks,List.map_nil,a,hf21,b,c,hf25,d,e,g]
    (repeat' apply Ae)<;>first | refine Az _ (O2 w0 n _ _ _ ([(⟨#[110]⟩:ByteArray)]) B.length (Ty.mk 2 0 99 0 ([]) ([]) ([])) (by simp +decide only [go_sem,Nat.reduceAdd,Vl.cs_mks,Ty.cs_mks,List.map_nil,a,hf21,b,c,hf25,d,e,g]) _ aa) (by first | rfl | (simp +decide only [go_sem,Nat.reduceAdd,Vl.cs_mks,Ty.cs_mks,List.map_nil,a,hf21,b,c,hf25,d,e,g];done) | (simp +decide only [go_sem,Nat.reduceAdd,Vl.cs,Ty.cs,Vl.cs_mks,Ty.cs_mks,List.map_nil,a,hf21,b,c,hf25,d,e,g];done)) ?_ | exact cl
    rw [Aq];simp +decide only [go_sem,Nat.reduceAdd,Vl.cs_mks,Ty.cs_mks,List.map_nil,a,hf21,b,c,hf25,d,e,g]
    (repeat' apply Ae)<;>first | refine Az _ (Ot w0 hB hE hM hP hT n _ _ _ ([Cm ((⟨#[110]⟩:ByteArray)) (Ex.mk 12 0 (⟨#[]⟩:ByteArray) ([]) ([Cd ((⟨#[98,111,100,121,46,97]⟩:ByteArray)),Cd ((⟨#[98,111,100,121,46,98]⟩:ByteArray))]))]) ([Cm ((⟨#[116,119,105,99,101]⟩:ByteArray)) (Ex.mk 14 0 (⟨#[]⟩:ByteArray) ([]) ([Cd ((⟨#[98,111,100,121,46,110]⟩:ByteArray)),Ex.mk 1 0 (⟨#[]⟩:ByteArray) ([Vl.mk 2 2 0 (⟨#[]⟩:ByteArray) ([]) ([])]) ([])]))]) ak _ V) (by first | rfl | (simp +decide only [go_sem,Nat.reduceAdd,Vl.cs_mks,Ty.cs_mks,List.map_nil,a,hf21,b,c,hf25,d,e,g];done) | (simp +decide only [go_sem,Nat.reduceAdd,Vl.cs,Ty.cs,Vl.cs_mks,Ty.cs_mks,List.map_nil,a,hf21,b,c,hf25,d,e,g];done)) ?_ | exact cl
    rw [Aq];simp +decide only [go_sem,Nat.reduceAdd,Vl.cs_mks,Ty.cs_mks,List.map_nil,a,hf21,b,c,hf25,d,e,g]
    (repeat' apply Ae)<;>first | rfl | exact cl
   ·refine Good.mk [9] kr ⟨[],_,by first | rfl | (simp only [List.append_nil,List.nil_append,List.map_append,List.map_cons,List.map_nil,Dn,EY,ES,Ty.cs_mks,List.cons_append];first | done | rfl)⟩ ?_ ?_
    ·intro h;exact absurd h (by decide)
    ·intro i hi;simp only [List.mem_cons,List.not_mem_nil,or_false] at hi
     subst hi
     ·apply Cc rfl rfl ev
      ·simp +decide only [go_sem,Nat.reduceAdd,DW,Vl.cs_mks,Ty.cs_mks,List.map_nil,a,hf21,b,c,hf25,d,e,g]
       (repeat' apply Ae)<;>first | rfl | exact cl
      ·simp +decide only [go_sem,Nat.reduceAdd,Vl.cs_mks,Ty.cs_mks,List.map_nil,a,hf21,b,c,hf25,d,e,g]
       refine Good.mk [10] kr ⟨_,_,by first | rfl | (simp only [List.append_nil,List.nil_append,List.map_append,List.map_cons,List.map_nil,Dn,EY,ES,Ty.cs_mks,List.cons_append];first | done | rfl)⟩ ?_ ?_
       ·intro h;exact absurd h (by decide)
       ·intro i hi;simp only [List.mem_cons,List.not_mem_nil,or_false] at hi
        subst hi
        ·apply Cc rfl rfl ev
         ·simp +decide only [go_sem,Nat.reduceAdd,DW,Vl.cs_mks,Ty.cs_mks,List.map_nil,a,hf21,b,c,hf25,d,e,g]
          (repeat' apply Ae)<;>first | rfl | exact cl
         ·simp +decide only [go_sem,Nat.reduceAdd,Vl.cs_mks,Ty.cs_mks,List.map_nil,a,hf21,b,c,hf25,d,e,g]
          refine Good.mk [] kr ⟨_,_,by first | rfl | (simp only [List.append_nil,List.nil_append,List.map_append,List.map_cons,List.map_nil,Dn,EY,ES,Ty.cs_mks,List.cons_append];first | done | rfl)⟩ ?_ ?_
          ·intro _;apply SX [9,10];first | (simp +decide only [go_sem,Nat.reduceAdd,Vl.cs_mks,Ty.cs_mks,List.map_nil,a,hf21,b,c,hf25,d,e,g];done) | (simp +decide only [go_sem,Nat.reduceAdd,Vl.cs_mks,Ty.cs_mks,List.map_nil,a,hf21,b,c,hf25,d,e,g];rfl)
          ·intro i hi;cases hi
   simp +decide only [go_sem,Nat.reduceAdd,Vl.cs_mks,Ty.cs_mks,List.map_nil,a,hf21,b,c,hf25,d,e,g]
   (repeat' apply Ae)<;>first | refine H _ _ ?_ | exact cl
   clear H
   apply Ap;intro K36 o
   rcases Bool.eq_false_or_eq_true ((decide (U.2=0))&&(decide ((U.1.length:Int)=1))) with hf37 | hf37
   ·replace h:=AW h hf37
    obtain ⟨O,aj,am,k,h⟩:=ix AP h
    have l:(U.1.map AP).getD 0 .junk=_:=k
    rcases Bool.eq_false_or_eq_true (G5 O.1 ((⟨#[116,119,105,99,101]⟩:ByteArray))) with hf39 | hf39
    ·replace h:=AW h hf39
     rcases Bool.eq_false_or_eq_true (decide ((O.2.args.length:Int)=2)) with hf40 | hf40
     ·replace h:=AW h hf40
      obtain ⟨a0,ar,av,p,h⟩:=ix NE h
      have u:(O.2.args.map NE).getD 0 .junk=_:=p
      apply Ar 1 [0]
      rw [Aq];simp +decide only [go_sem,Nat.reduceAdd,Vl.cs_mks,Ty.cs_mks,List.map_nil,a,hf21,b,c,hf25,d,e,g,hf37,k,l,hf39,hf40,p,u,List.append_eq,List.cons_append,List.nil_append]
      (repeat' apply Ae)<;>first | refine o _ _ ?_ | exact cl
      clear o
      apply AN;simp +decide only [go_sem,Nat.reduceAdd,Vl.cs_mks,Ty.cs_mks,List.map_nil,a,hf21,b,c,hf25,d,e,g,hf37,k,l,hf39,hf40,p,u]
      have hgt:=Option.some.inj h;subst hgt
      first | refine Br j rfl q.pre ev ⟨?_,rfl⟩ | refine Ci j rfl q.pre ev ⟨?_,rfl⟩
      first | rfl | (simp +decide only [go_sem,Nat.reduceAdd,Vl.cs_mks,Ty.cs_mks,List.map_nil,a,hf21,b,c,hf25,d,e,g,hf37,k,l,hf39,hf40,p,u];done) | (simp +decide only [go_sem,Nat.reduceAdd,Vl.cs,Ty.cs,Vl.cs_mks,Ty.cs_mks,List.map_nil,a,hf21,b,c,hf25,d,e,g,hf37,k,l,hf39,hf40,p,u];done)
     ·replace h:=AX h hf40
      apply Ar 1 [0]
      rw [Aq];simp +decide only [go_sem,Nat.reduceAdd,Vl.cs_mks,Ty.cs_mks,List.map_nil,a,hf21,b,c,hf25,d,e,g,hf37,k,l,hf39,hf40,List.append_eq,List.cons_append,List.nil_append]
      (repeat' apply Ae)<;>first | refine o _ _ ?_ | exact cl
      clear o
      apply AN;simp +decide only [go_sem,Nat.reduceAdd,Vl.cs_mks,Ty.cs_mks,List.map_nil,a,hf21,b,c,hf25,d,e,g,hf37,k,l,hf39,hf40]
      have hgt:=Option.some.inj h;subst hgt
      first | refine Br j rfl q.pre ev ⟨?_,rfl⟩ | refine Ci j rfl q.pre ev ⟨?_,rfl⟩
      first | rfl | (simp +decide only [go_sem,Nat.reduceAdd,Vl.cs_mks,Ty.cs_mks,List.map_nil,a,hf21,b,c,hf25,d,e,g,hf37,k,l,hf39,hf40];done) | (simp +decide only [go_sem,Nat.reduceAdd,Vl.cs,Ty.cs,Vl.cs_mks,Ty.cs_mks,List.map_nil,a,hf21,b,c,hf25,d,e,g,hf37,k,l,hf39,hf40];done)
    ·replace h:=AX h hf39
     apply Ar 1 [0]
     rw [Aq];simp +decide only [go_sem,Nat.reduceAdd,Vl.cs_mks,Ty.cs_mks,List.map_nil,a,hf21,b,c,hf25,d,e,g,hf37,k,l,hf39,List.append_eq,List.cons_append,List.nil_append]
     (repeat' apply Ae)<;>first | refine o _ _ ?_ | exact cl
     clear o
     apply AN;simp +decide only [go_sem,Nat.reduceAdd,Vl.cs_mks,Ty.cs_mks,List.map_nil,a,hf21,b,c,hf25,d,e,g,hf37,k,l,hf39]
     have hgt:=Option.some.inj h;subst hgt
     first | refine Br j rfl q.pre ev ⟨?_,rfl⟩ | refine Ci j rfl q.pre ev ⟨?_,rfl⟩
     first | rfl | (simp +decide only [go_sem,Nat.reduceAdd,Vl.cs_mks,Ty.cs_mks,List.map_nil,a,hf21,b,c,hf25,d,e,g,hf37,k,l,hf39];done) | (simp +decide only [go_sem,Nat.reduceAdd,Vl.cs,Ty.cs,Vl.cs_mks,Ty.cs_mks,List.map_nil,a,hf21,b,c,hf25,d,e,g,hf37,k,l,hf39];done)
   ·replace h:=AX h hf37
    apply Ar 1 [0]
    rw [Aq];simp +decide only [go_sem,Nat.reduceAdd,Vl.cs_mks,Ty.cs_mks,List.map_nil,a,hf21,b,c,hf25,d,e,g,hf37,List.append_eq,List.cons_append,List.nil_append]
    (repeat' apply Ae)<;>first | refine o _ _ ?_ | exact cl
    clear o
    apply AN;simp +decide only [go_sem,Nat.reduceAdd,Vl.cs_mks,Ty.cs_mks,List.map_nil,a,hf21,b,c,hf25,d,e,g,hf37]
    have hgt:=Option.some.inj h;subst hgt
    first | refine Br j rfl q.pre ev ⟨?_,rfl⟩ | refine Ci j rfl q.pre ev ⟨?_,rfl⟩
    first | rfl | (simp +decide only [go_sem,Nat.reduceAdd,Vl.cs_mks,Ty.cs_mks,List.map_nil,a,hf21,b,c,hf25,d,e,g,hf37];done) | (simp +decide only [go_sem,Nat.reduceAdd,Vl.cs,Ty.cs,Vl.cs_mks,Ty.cs_mks,List.map_nil,a,hf21,b,c,hf25,d,e,g,hf37];done)
theorem ZeU (m:Nat):J5 (m+60)=some true:=by kernel_rfl
theorem Zdc (n:Nat) (h:60≤n):J5 n=some true:=by
 obtain ⟨m,rfl⟩:∃ m,n=m+60:=⟨n-60,by omega⟩
 exact ZeU m
def Gs (n:Nat) (a0:List (ByteArray × Ex)) (a1:List (ByteArray × Ex)) (a2:Ty):Option Bool :=
 (Ks n a0).bind fun z =>
 (Ks n a1).bind fun h =>
 (J0 n a2).bind fun y5 =>
 (Gf n z h y5).bind fun q =>
 (Ii n z h y5).bind fun y =>
 (J5 n ).bind fun g =>
 if g&&(decide (q.2=y.2)) then
  (Fe n q.1 y.1).bind fun b =>
  some (b)
 else
  some (false)
theorem P3 (w0:World) (hB:Rj w0) (hE:Jl w0) (hM:Jh w0) (hP:Pow10 w0) (hT:Lib.Utf8Tabs 2 3 w0) (n:Nat) (B:As) (Rw:Ax) (L:Aw) (a0:List (ByteArray × Ex)) (a1:List (ByteArray × Ex)) (a2:Ty) (r:Bool) (h:Gs n a0 a1 a2=some r) :
  ACalls Tryz.prog w0 5 [.agg ([.list (a0.map AP) .none]),.agg ([.list (a1.map AP) .none]),.agg (a2.cs)] ⟨B,Rw,L⟩ fun x st=>x = .val (.bool r)∧st=⟨B,Rw,L⟩:=by
 rw [Gs] at h
 refine hd [.tmp 6] Tryz.func5 Tryz.ntmps5 fun M0 W0 y j o b E u hs=>?_
 simp only [AB]
 refine rg [3,4,5] hs ?_
 obtain ⟨w,i,h⟩:=bind_some h
 obtain ⟨s,p,h⟩:=bind_some h
 obtain ⟨t,q,h⟩:=bind_some h
 apply Ap;intro K2 g
 refine dk 6 4 1 [3,4,5] hs OJ ?_
 refine Az _ (RP w0 n _ _ _ a0 _ i) (hv hs) ?_
 refine nc hs ?_
 refine Az _ (RP w0 n _ _ _ a1 _ p) (hv hs) ?_
 refine nc hs ?_
 refine Az _ (Yt w0 n _ _ _ a2 _ q) (hv hs) ?_
 refine dn hs g ?_
 clear g
 obtain ⟨C,k,h⟩:=bind_some h
 refine rc 2 [3,4,5,7,8] hs ?_;intro K6 e
 refine Az _ (Ot w0 hB hE hM hP hT n _ _ _ w s t _ k) (hv hs) ?_
 refine ne hs e ?_
 clear e
 obtain ⟨z,m,h⟩:=bind_some h
 refine rc 2 [7,8,9,10] hs ?_;intro K8 f
 refine Az _ (VI w0 hE hM hP hT n _ _ _ w s t _ m) (hv hs) ?_
 refine ne hs f ?_
 clear f
 apply Ap;intro K10 c
 obtain ⟨l,d,h⟩:=bind_some h
 rcases Bool.eq_false_or_eq_true (l&&(decide (C.2=z.2))) with hf12 | hf12
 ·replace h:=AW h hf12
  obtain ⟨D,v,h⟩:=bind_some h
  have hs:=Ae hf12 hs
  refine rk 3 [6] hs ?_
  refine Az _ (RY w0 hB hE hM hP hT n _ _ _  _ d) (hv hs) ?_
  exact go (tg (a:=((),()))) h hs y j o b u (q1 (Qy w0 n)) (q1 c)
 ·replace h:=AX h hf12
  have hs:=Ae hf12 hs
  refine rk 3 [6] hs ?_
  refine Az _ (RY w0 hB hE hM hP hT n _ _ _  _ d) (hv hs) ?_
  refine nc hs ?_
  refine Dq ?_
  refine ne hs c ?_
  clear c
  exact rt h hs b u
def fnz:List Int→Int
 | []=>0
 | x::r=>if x=0 then fnz r else x
theorem Zf (n:Nat) (l:List Int) (hl:l.length≤1000):∀ (k q i:Nat),i+k=l.length→k<q→FK n l q (i:Int)=some (fnz (l.drop i))
 | k,0,i,_,h=>absurd h (Nat.not_lt_zero _)
 | 0,q+1,i,hi,_=>by
  rw [FK,AH,Ac,Aj (by decide),JX,List.drop_eq_nil_of_le (by omega)];rfl
 | k+1,q+1,i,hi,hq=>by
  have a:i<l.length:=by omega
  have ih:=Zf n l hl k q (i+1) (by omega) (by omega)
  rw [FK,AH,Ah a,Ai rfl,AK a,Af,List.drop_eq_getElem_cons a,fnz]
  by_cases z:l[i]=0
  ·rw [Ah z,Aj (by decide),Ai z,Ai (AG (by omega))]
   exact ih
  ·rw [Ag z,Ai (by decide),Aj z]
theorem ZeD (n:Nat) (l:List Int) (hl:l.length≤1000) (hn:2000≤n):Jg n l=some (fnz l):=Zf n l hl l.length n 0 (by omega) (by omega)
theorem ZbH (n:Nat) (a0 a1:P8) (a2:Ty) (y6 y7 y8 y9 y10:Int):∀ (k q i:Nat),i+k=5→k<q→Dv n a0 a1 a2 y6 y7 y8 y9 y10 q (i:Int)=if fnz ([y6,y7,y8,y9,y10].drop i)=0 then Hq n a0 a1 a2 else some ([],fnz ([y6,y7,y8,y9,y10].drop i))
 | k,0,i,_,h=>absurd h (Nat.not_lt_zero _)
 | 0,q+1,i,hi,_=>by
  obtain rfl:i=5:=by omega
  rfl
 | k+1,q+1,i,hi,hq=>by
  have a:i<[y6,y7,y8,y9,y10].length:=by simp only [List.length_cons,List.length_nil];omega
  have ih:=ZbH n a0 a1 a2 y6 y7 y8 y9 y10 k q (i+1) (by omega) (by omega)
  have ih:Dv n a0 a1 a2 y6 y7 y8 y9 y10 q ((i:Int)+1)=_:=ih
  rw [Dv,Ai (Ah (show ((i:Nat):Int)<5 by omega)),AK a,Af,List.drop_eq_getElem_cons a,fnz]
  by_cases z:[y6,y7,y8,y9,y10][i]=0
  ·rw [Ah z,Aj (by decide),Ai z,Ai (AG (by omega)),ih]
  ·rw [Ag z,Ai (by decide),Aj z,Aj z]
theorem Zbr (n:Nat) (hn:1500000≤n) (a0 a1:P8) (a2:Ty) (h0:a0.length≤8):∀ (k q i:Nat),i+k=a0.length→k<q→C5 n a0 a1 a2 q (i:Int) ((D1 n a0).take i)=F6 n a0 a1 a2 (D1 n a0)
 | k,0,i,_,h=>absurd h (Nat.not_lt_zero _)
 | 0,q+1,i,hi,_=>by
  rw [C5,AH,Ac,Aj (by decide),List.take_of_length_le (by rw [D1,List.length_map];omega)]
 | k+1,q+1,i,hi,hq=>by
  have a:i<a0.length:=by omega
  have b:i<(D1 n a0).length:=by rw [D1,List.length_map];omega
  obtain ⟨e,ok⟩:=Qp n (by omega) a0[i].1
  have c:(D1 n a0)[i]=(Yr n a0[i].1).1:=by simp [D1]
  have d:(D1 n a0).take i++[(Yr n a0[i].1).1]=(D1 n a0).take (i+1):=by rw [List.take_succ_eq_append_getElem b,c]
  rw [C5,AH,Ah a,Ai rfl,AK a,Af,e,Af,Ai (by rw [List.length_take];omega),Ai (AG (by omega)),d]
  exact Zbr n hn a0 a1 a2 h0 k q (i+1) (by omega) (by omega)
def ZkI (A Z:Option (P8 × Int)):Prop:=∃ (r:P8) (e:Int),A=some (r,e)∧Z=some (r,e)∧r.length≤8∧∀ x∈r,x.2.bnd 9
theorem Zaa (n:Nat) (hn:3000000≤n) (a0 a1:P8) (h0:LQ a0) (h1:LQ a1) (t:Ty) (ts:t.small) (tg:t.Good):∀ (k q i:Nat) (o1 o2:P8) (p:Bool),i+k=a1.length→k<q→o1.length=i→o2.length=i→(p=true→o1=o2)→(∀ x∈o1,x.2.bnd 9)→(∀ x∈o2,x.2.bnd 9) →
  ZkI (DJ n a0 a1 t q (i:Int) (D1 400 a0) p o1) (Ek n a1 q (i:Int) (Cpm.mk a0 t p) o2)
 | k,0,i,_,_,_,_,h,_,_,_,_,_=>absurd h (Nat.not_lt_zero _)
 | 0,q+1,i,o1,o2,p,hi,_,l1,l2,hp,b1,b2=>by
  have r:=h1.1
  rw [DJ,Ek,AH,Ac,Aj (by decide),Aj (by decide),HU,Iz]
  cases p with
  | false=>exact ⟨[],22,rfl,rfl,by simp,by simp⟩
  | true =>
   obtain rfl:=hp rfl
   obtain ⟨c,b,d⟩:=Zbf n 9 (by omega) o1 (by omega) b1
   rw [Aj (show ¬ (!true)=true by decide),Aj (show ¬ (!true)=true by decide),b,d,Af,Af]
   by_cases z:c=0
   ·rw [Ah z,Aj (show ¬ (!true)=true by decide),Aj (show ¬ (!true)=true by decide),Zcf n 9 (by omega) o1 (by omega) b1,Af]
    exact ⟨o1,0,rfl,rfl,by omega,b1⟩
   ·rw [Ag z]
    exact ⟨[],c,rfl,rfl,by simp,by simp⟩
 | k+1,q+1,i,o1,o2,p,hi,hq,l1,l2,hp,b1,b2=>by
  have r:=h1.1
  have a:i<a1.length:=by omega
  obtain ⟨b,d,e,g,l,m,o,f⟩:=Ze4 a0 h0 t ts tg 4 n a1[i].2 p (h1.2 _ (List.getElem_mem a)).2 (by omega)
  have ih:=Zaa n hn a0 a1 h0 h1 t ts tg k q (i+1) (o1++[(a1[i].1,b)]) (o2++[(a1[i].1,d)]) e (by omega) (by omega) (by rw [G7];omega) (by rw [G7];omega) (fun z=>by
   obtain ⟨s,j⟩:=m z
   rw [hp s,j]) (G6 b1 o) (G6 b2 f)
  rw [DJ,Ek,AH,Ah a,Ai rfl,Ai rfl,AK a,Af,Af,g,l,Af,Af,Ab,Ai (AG (by omega)),Ab,Ai (AG (by omega))]
  exact ih
theorem ZhL (n:Nat) (hn:3000000≤n) (a0 a1:P8) (h0:LQ a0) (h1:LQ a1) (t:Ty) (ts:t.small):ZkI (Gf n a0 a1 t) (Ii n a0 a1 t):=by
 obtain ⟨f,q1⟩:=ZbT n (by omega) a0 h0
 obtain ⟨g,q2⟩:=ZbT n (by omega) a1 h1
 obtain ⟨c,q3,q⟩:=Zs n t hn ts
 obtain ⟨j,v,p⟩:=Zbf n 4 (by omega) a0 (by have:=h0.1;omega) (fun r o=>(h0.2 r o).2.bnd)
 obtain ⟨l,u,s⟩:=Zbf n 4 (by omega) a1 (by have:=h1.1;omega) (fun r o=>(h1.2 r o).2.bnd)
 have i:Kq n t=some (if c=0 then (if t.kind=9 then 0 else 11) else c):=by
  rw [Kq,q3,Af]
  by_cases h:c=0
  ·rw [Ah h,Aj (by decide),Ai h]
   by_cases k:t.kind=9
   ·rw [Ah k,Aj (by decide),Ai k]
   ·rw [Ag k,Ai (by decide),Aj k]
  ·rw [Ag h,Ai (by decide),Aj h]
 have m:FX n t=some (if c=0 then (if t.kind=9 then 0 else 11) else c):=by
  rw [FX,q3,Af]
  by_cases h:c=0
  ·by_cases k:t.kind=9
   ·rw [Ah h,Ah k,Aj (by decide),Ai h,Ai k,Ep,h]
   ·rw [Ah h,Ag k,Ai (by decide),Ai h,Aj k,Ep]
  ·rw [Ag h,Bool.false_and,Aj (by decide),Aj h,Ep]
 have d:=ZbH n a0 a1 t f g (if c=0 then (if t.kind=9 then 0 else 11) else c) j l 5 n 0 (by omega) (by omega)
 rw [List.drop_zero] at d
 have d:Dv n a0 a1 t f g (if c=0 then (if t.kind=9 then 0 else 11) else c) j l n 0=_:=d
 rw [Gf,Ii,q1,Af,Af,q2,Af,Af,m,i,Af,Af,v,p,Af,Af,u,s,Af,Af,ZeD n _ (by simp) (by omega),Af,d]
 by_cases z:fnz [f,g,(if c=0 then (if t.kind=9 then 0 else 11) else c),j,l]=0
 rotate_left
 ·rw [Ag z,Aj z]
  exact ⟨[],_,rfl,rfl,by simp,by simp⟩
 have w:c=0:=by
  by_cases h:c=0
  ·exact h
  ·exfalso
   rw [Aj h] at z
   simp only [fnz] at z
   by_cases a:f=0
   ·by_cases b:g=0
    ·rw [Ai a,Ai b,Aj h] at z;exact h z
    ·rw [Ai a,Aj b] at z;exact b z
   ·rw [Aj a] at z;exact a z
 have tg:=(q w).good
 have e:=Zbr n (by omega) a0 a1 t h0.1 a0.length n 0 (by omega) (by have:=h0.1;omega)
 rw [List.take_zero] at e
 have e:C5 n a0 a1 t n 0 []=_:=e
 rw [Ah z,Aj (show ¬ (!true)=true by decide),Ai z,e,F6,Hq,ZC n 400 (by omega) (by omega)]
 exact Zaa n hn a0 a1 h0 h1 t ts tg a1.length n 0 [] [] true (by omega) (by have:=h1.1;omega) rfl rfl (fun _=>rfl) (by simp) (by simp)
theorem Vt (n:Nat) (hn:3000000≤n) (a b:P8) (t:Ty):Gs n a b t=some true:=by
 obtain ⟨i,f,j⟩:=ZZ n (by omega) a
 obtain ⟨l,k,m⟩:=ZZ n (by omega) b
 obtain ⟨p,d,c⟩:=ZgK n (by omega) t
 obtain ⟨r,e,g,o,q,h⟩:=ZhL n hn i l j m p ⟨by have:=c.1;omega,by have:=c.2.1;omega,c.2.2⟩
 rw [Gs,f,Af,k,Af,d,Af,g,Af,o,Af,Zdc n (by omega),Af,Ai (by simp),Zat n 9 (by omega) r (by omega) h,Af]
end Go.Proofs.YtmcnjijeocmkgaaGreatDoor
namespace Go.Proofs.YtmcnjijeocmkgaaGreatDoor
open Go Go.Shelf Go.ChangeShapes Go.WideShapes Go.ChangeAt Go.RowKit Go.Lib Go.Ev
set_option maxRecDepth 100000
mutual
def Ex.wf:Ex→Prop
 | .mk o i t v a=>Bj o∧Bj i∧t.size≤maxLen∧v.length≤maxLen∧a.length≤maxLen∧(∀ x∈v,x.wf)∧Zd6 a
def Zd6:List Ex→Prop
 | []=>True
 | v::r=>v.wf∧Zd6 r
end
theorem ZG:∀ l,Zd6 l↔∀ v∈l,v.wf
 | []=>by simp [Zd6]
 | v::r=>by simp [Zd6,ZG r]
theorem Ex.ones (v:Ex):∀ x∈v.cs,x.one=true:=by
 cases v;intro x hx
 simp only [Ex.cs,List.mem_cons,List.not_mem_nil,or_false] at hx
 rcases hx with rfl | rfl | rfl | rfl | rfl<;>rfl
section
variable {H:Type} {enc:TypeId × Value→H} {W:World}
theorem Zbq:∀ (n:Nat) (cs:List Value) (x:DataW H × List MemPlace),Td enc W n 65 cs=some x→∃ v:Ex,v.wf∧RC W cs v.cs
 | 0,cs,x,h=>by simp [Td,DataW.trod] at h
 | n+1,cs,x,h=>by
  obtain ⟨xs,N,hn,rfl,J,F,a⟩:=DataW.trod_struct Tryz.underlying65 h
  cases hn
  have p:cs.length=5:=J.trans (by kernel_rfl)
  have d:xs.length=5:=F
  match cs,p,xs,d,a with
  | [c0,c1,c2,c3,c4],_,[y0,y1,y2,y3,y4],_,a =>
  have z:_=some y0:=a 0 _ rfl;have G:_=some y1:=a 1 _ rfl;have C:_=some y2:=a 2 _ rfl;have y:_=some y3:=a 3 _ rfl;have E:_=some y4:=a 4 _ rfl
  obtain ⟨o,ho,eo⟩:=L1 z
  obtain ⟨i,D,ei⟩:=L1 G
  obtain ⟨t,w,et,K⟩:=SZ C
  cases n with
  | zero=>simp [DataW.trod] at y
  | succ n =>
  obtain ⟨l,O,b,s,el,m,bl⟩:=Jt BZ Vl.wf (fun _=>0) Tryz.underlying31 (sz:=6) (by kernel_rfl) (by omega) (fun cs x h=>by
   obtain ⟨v,hv,g,Q⟩:=XW n cs x h
   exact ⟨v,.agg cs.toArray,hv,by simp [Value.cells],g.agg v.ones,Nat.zero_le _⟩) y
  obtain ⟨u,V,j,q,ef,e,U⟩:=Jt NE Ex.wf (fun _=>0) Tryz.underlying63 (sz:=5) (by kernel_rfl) (by omega) (fun cs x h=>by
   obtain ⟨v,hv,g⟩:=Zbq n cs x h
   exact ⟨v,.agg cs.toArray,hv,by simp [Value.cells],g.agg v.ones,Nat.zero_le _⟩) E
  have f:Tryz.prog.cellsOf 3=1:=by kernel_rfl
  have c:Tryz.prog.cellsOf 9=1:=by kernel_rfl
  have k:Tryz.prog.cellsOf 31=1:=by kernel_rfl
  have r:Tryz.prog.cellsOf 63=1:=by kernel_rfl
  simp only [List.getElem_toArray,List.getElem_cons_zero,List.getElem_cons_succ,f,c,k,r,List.drop_zero,List.take_succ_cons,List.take_zero,List.cons.injEq,and_true,List.drop_succ_cons] at eo ei et el ef
  subst eo ei et el ef
  refine ⟨.mk o i t l u,?_,?_⟩
  ·unfold Ex.wf
   exact ⟨ho,D,w,s,q,b,(ZG u).2 j⟩
  ·rw [Ex.cs,RF,Zey]
   exact .cons (.flat rfl) (.cons (.flat rfl) (.cons (.flat (Ah w)) (.cons m (.cons e .nil))))
end
section
variable {H:Type} {enc:TypeId × Value→H} {W:World} {base:Nat} {v:Value} {d:DataW H} {p:List MemPlace}
abbrev Mp:=List (ByteArray × Ex)
def Mp.wf (m:Mp):Prop:=m.length≤maxLen∧∀ p∈m,p.1.size≤maxLen∧p.2.wf
theorem Zfu (hv:Value.okWide Tryz.prog W .any base 49 v) (h:DataW.Trod enc Tryz.prog W 0 (fun _=>true) true 49 v d p):∃ t:Mp,t.wf∧R W Mem.start W v (avM t):=by
 obtain ⟨cs,rfl⟩:=ZdO Tryz.underlying49 hv
 obtain ⟨n,hn⟩:=h
 cases n with
 | zero=>simp [DataW.trod] at hn
 | succ n =>
 obtain ⟨xs,s,hn',_,f,hx,a⟩:=DataW.trod_struct Tryz.underlying49 hn
 cases hn'
 have q:(Value.agg cs).cells.toList=cs.toList:=rfl
 rw [q] at f a
 have g:cs.toList.length=1:=f.trans (by kernel_rfl)
 have k:xs.length=1:=hx
 match xs,k,a with
 | [w0],_,a =>
 have e:_=some w0:=a 0 _ rfl
 cases n with
 | zero=>simp [DataW.trod] at e
 | succ n =>
 obtain ⟨l,z,w,y,e1,c,_⟩:=Jt AP (fun p=>p.1.size≤maxLen∧p.2.wf) (fun _=>0) Tryz.underlying47 (sz:=6) (by kernel_rfl) (by omega) (fun cs x h=>by
  cases n with
  | zero=>simp [DataW.trod] at h
  | succ n =>
  obtain ⟨r,s,hn,rfl,f,hx,a⟩:=DataW.trod_struct Tryz.underlying67 h
  cases hn
  have j:cs.length=6:=f.trans (by kernel_rfl)
  have m:r.length=2:=hx
  match r,m,a with
  | [w0,w1],_,a =>
  have e:_=some w0:=a 0 _ rfl;have q1:_=some w1:=a 1 _ rfl
  obtain ⟨i,b,en,C⟩:=SZ e
  obtain ⟨v,hv,c⟩:=Zbq n _ _ q1
  have u:Tryz.prog.cellsOf 65=5:=by kernel_rfl
  have o:Tryz.prog.cellsOf 9=1:=by kernel_rfl
  simp only [List.getElem_toArray,List.getElem_cons_zero,List.getElem_cons_succ,u,o] at en c
  match cs,j with
  | [c0,c1,c2,c3,c4,c5],_ =>
  simp only [List.drop_zero,List.take_succ_cons,List.take_zero,List.cons.injEq,and_true,List.drop_succ_cons] at en c
  subst en
  refine ⟨(i,v),.agg #[.string i,c1,c2,c3,c4,c5],⟨b,hv⟩,rfl,?_,Nat.zero_le _⟩
  exact RC.agg (cs:=[.string i,c1,c2,c3,c4,c5]) (.cons (.flat (Ah b)) c) (fun x hx=>by
   rcases List.mem_cons.1 hx with rfl | hx
   ·rfl
   ·exact v.ones x hx)) e
 have o:Tryz.prog.cellsOf 47=1:=by kernel_rfl
 generalize hz:cs.toList=zs at *
 match zs,g with
 | [c0],_ =>
 simp only [List.getElem_toArray,List.getElem_cons_zero,List.getElem_cons_succ,o,List.drop_zero,List.take_succ_cons,List.take_zero,List.cons.injEq,and_true] at e1
 subst e1
 obtain rfl:cs = #[c0]:=by rw [←hz]
 exact ⟨l,⟨y,w⟩,RC.agg (cs:=[c0]) (.cons c .nil) (fun x hx=>by rcases List.mem_cons.1 hx with rfl | hx;rfl;cases hx)⟩
end
set_option maxRecDepth 100000
noncomputable def Pz:Nat:=(World.holding Tryz.prog default ⟨#[],#[],[]⟩).heap.size
noncomputable def PU (os:Os):World :=
 let w0:=World.holding Tryz.prog os ⟨#[.cells #[.string ⟨#[118,97,108,117,101,32,111,117,116,32,111,102,32,114,97,110,103,101]⟩] 359,.cells #[.string ⟨#[105,110,118,97,108,105,100,32,115,121,110,116,97,120]⟩] 359,.cells #[.int .i64 1,.int .i64 0,.string ⟨#[98,111,100,121]⟩] 146],#[],[]⟩
 let put (h:Array Obj) (g:Nat) (d:DataW Unit):Array Obj:=h.modify g fun
  | .cells _ t frozen => .cells (ZkK d).toArray t frozen
  | o=>o
 let one (h:Array Obj) (g:Nat) (v:Value):Array Obj:=h.modify g fun
  | .cells _ t frozen => .cells #[v] t frozen
  | o=>o
 { w0 with heap:=one (one (one (put (put (put (put (put w0.heap 2 Rows.laid_unicode_utf8_first) 3 Rows.laid_unicode_utf8_acceptRanges) 4 Rows.laid_internal_strconv_uint64pow10) 7 Rows.laid_math_bits_deBruijn32tab) 8 Rows.laid_math_bits_deBruijn64tab)
   6 (.iface 357 (.pointer (some ⟨Pz,0,none⟩)))) 5 (.iface 357 (.pointer (some ⟨Pz+1,0,none⟩)))) 0 (.slice (some ⟨Pz+2,0,none⟩) 1 1) }
theorem We (os:Os) (args:Array Value):laidMet Tryz.prog Rows.lossLostRow.laid ((PU os).forCall (fun _ _=>0) ⟨#[],args,[]⟩).memory :=
 (LaidIn.of_run (l:=Rows.lossLostRow.laid) [7,8,4,3,6,5,0,2,Pz,Pz+1,Pz+2] 8 (by kernel_rfl) (by kernel_rfl) (by kernel_rfl) (by kernel_rfl)).met
theorem ZcW {W:World} (hL:laidMet Tryz.prog Rows.lossLostRow.laid W):Lib.Utf8Tabs 2 3 W∧Pow10 W :=
 ⟨utf8Tabs_of_readsT (U8Types.of196 Tryz.laysValid) ⟨by kernel_rfl,by kernel_rfl,by kernel_rfl,by kernel_rfl,by kernel_rfl,by kernel_rfl,by kernel_rfl⟩ (Lib.laidMet.reads hL (.tail _ (.tail _ (.tail _ (.tail _ (.tail _ (.tail _ (.tail _ (.head _))))))))) (Lib.laidMet.reads hL (.tail _ (.tail _ (.tail _ (.head _))))),
  UU (Lib.laidMet.reads hL (.tail _ (.tail _ (.head _))))⟩
theorem Q9 {W:World} {name:String} {d:DataW Unit} {g:Nat} {t:TypeId} {ms:Array (String × TypeId)} (h:Lib.VarReads Tryz.prog W name d) (hg:Tryz.prog.globalNamed name=some g) (ht:(Tryz.prog.globals[g]?).map (·.type)=some t) (hu:Tryz.prog.underlying t=some (.interface ms)) :
  ∃ ev,W.cell? ⟨g,0,none⟩=some ev∧(ev = .nilIface∨∃ te pe,ev = .iface te pe):=by
 obtain ⟨i,j,cs,fuel,p,b,e,f,a⟩:=h
 obtain rfl:=Option.some.inj (hg.symm.trans b)
 obtain rfl:=Option.some.inj (ht.symm.trans e)
 have c:=World.var?_cell b f 0
 obtain ⟨l⟩:=cs
 cases fuel with
 | zero=>simp [DataW.trod] at a
 | succ n =>
  unfold DataW.trod at a
  simp only [hu] at a
  split at a
  all_goals first
   | (rename_i q _;simp at q;done)
   | exact ⟨_,by simpa using c,.inl rfl⟩
   | exact ⟨_,by simpa using c,.inr ⟨_,_,rfl⟩⟩
   | simp_all
theorem Zdf {W:World} (hL:laidMet Tryz.prog Rows.lossLostRow.laid W):Jl W :=
 ⟨Q9 (Lib.laidMet.reads hL (.tail _ (.tail _ (.tail _ (.tail _ (.tail _ (.head _))))))) (by kernel_rfl) (by kernel_rfl) (t:=248) Tryz.underlying248,
  Q9 (Lib.laidMet.reads hL (.tail _ (.tail _ (.tail _ (.tail _ (.head _)))))) (by kernel_rfl) (by kernel_rfl) (t:=248) Tryz.underlying248⟩
theorem ZcI {W:World} (hS:W.ShapedOpen Tryz.prog):Jh W :=
 cell_of_shapedOpen_int (zero := #[.int .i64 0]) (t:=3) hS (of_decide_eq_true (by kernel_rfl)) (by kernel_rfl) rfl (by kernel_rfl) (by kernel_rfl) Tryz.underlying3
theorem Wj {W:World} (h:Lib.VarReads Tryz.prog W "manifold/loss.body" Rows.laid_manifold_loss_body):Rj W:=by
 obtain ⟨g,t,cs,ab,p,U,h2,h3,h4⟩:=h
 obtain rfl:=Option.some.inj ((show Tryz.prog.globalNamed "manifold/loss.body" = some 0 by kernel_rfl).symm.trans U)
 obtain rfl:=Option.some.inj ((show (Tryz.prog.globals[0]?).map (·.type)=some 113 by kernel_rfl).symm.trans h2)
 have hc:=World.var?_cell U h3 0
 obtain ⟨l⟩:=cs
 rcases DataW.trod_slice Tryz.underlying113 h4 with ⟨_,q⟩ | ⟨a,len,cap,elems,rest,n,rfl,Y,H,_,hlc,hcm,hlen,hel,_,_⟩
 ·cases q
 have e3:Tryz.prog.cellsOf 146=3:=by kernel_rfl
 have e:elems.map (·.1)=[.agg [.lit (.int .i64 1),.lit (.int .i64 0),.lit (.string [98,111,100,121])]]:=by
  have:=congrArg Prod.fst H
  simp only [Rows.laid_manifold_loss_body,DataW.slice.injEq] at this
  exact this.1.symm
 have z:elems.length=1:=by have:=congrArg List.length e;simpa using this
 match elems,z,e,hlen,hel with
 | [e0],_,e,hlen,hel =>
 simp only [List.map_cons,List.map_nil,List.cons.injEq,and_true] at e
 have hlen:len=1:=hlen.symm
 subst hlen
 obtain ⟨cs',Z,Q⟩:=Option.bind_eq_some_iff.1 (hel 0 (by decide))
 obtain ⟨xs,n',_,V,u,y,D⟩:=DataW.trod_struct Tryz.underlying146 Q
 have u:cs'.length=3:=u.trans e3
 have y:xs.length=3:=y
 match cs',u,xs,y,D with
 | [c0,c1,c2],_,[y0,y1,y2],_,D =>
 have f0:_=some y0:=D 0 _ rfl;have f1:_=some y1:=D 1 _ rfl;have f2:_=some y2:=D 2 _ rfl
 obtain ⟨k,ek,dk,_⟩:=DataW.trod_int Tryz.underlying3 f0
 obtain ⟨i,ei,di,_⟩:=DataW.trod_int Tryz.underlying3 f1
 obtain ⟨s,es,ds,hs⟩:=DataW.trod_string Tryz.underlying9 f2
 have N:Tryz.prog.cellsOf 3=1:=by kernel_rfl
 have K:Tryz.prog.cellsOf 9=1:=by kernel_rfl
 simp only [List.getElem_toArray,List.getElem_cons_zero,List.getElem_cons_succ,N,K,List.drop_zero,List.take_succ_cons,List.take_zero,List.cons.injEq,and_true,List.drop_succ_cons] at ek ei es
 subst ek ei es dk di ds
 have F:=(congrArg Prod.fst V).symm.trans e
 simp only [List.map_cons,List.map_nil,DataW.agg.injEq,List.cons.injEq,DataW.lit.injEq,Lit.int.injEq,Lit.string.injEq,and_true,true_and] at F
 obtain ⟨rfl,rfl,C⟩:=F
 have hs3:s=⟨#[98,111,100,121]⟩:=by
  obtain ⟨⟨x⟩⟩:=s
  simp only at C
  rw [C]
 subst hs3
 obtain ⟨_,_,c⟩:=World.cells?_some Z
 rw [e3] at c
 have e0:((a.add (0*3)).add 0)=a:=by simp [Addr.add]
 have hspot:a.spot=none:=by
  have h5:=c 0 (by decide)
  rw [e0] at h5
  simp only [List.getElem?_cons_zero] at h5
  unfold World.cell? at h5
  split at h5
  ·split at h5
   ·cases h5
   ·rename_i q;simpa using q
  ·cases h5
 obtain ⟨b,d,sp⟩:=a
 simp only at hspot
 subst hspot
 have r:∀ j,j<3→W.cell? ⟨b,d+j,none⟩=([.int .i64 1,.int .i64 0,.string ⟨#[98,111,100,121]⟩]:List Value)[j]? := fun j J=>by
  have:=c j J
  rw [←this]
  congr 1
  have ea:∀ (o m:Nat),(⟨b,o,none⟩:Addr).add m=⟨b,o+m,none⟩:=fun o m=>by unfold Addr.add;split<;>simp_all
  rw [ea,ea];simp
 have aa:W.cell? ⟨0,0,none⟩=some (.slice (some ⟨b,d,none⟩) 1 cap):=by
  have Y:l=[.slice (some ⟨b,d,none⟩) 1 cap]:=Y
  rw [Y] at hc
  simpa using hc
 intro M w E
 refine ⟨.slice (some ⟨b,d,none⟩) 1 cap,?_,?_⟩
 ·simp only [Instr.loadAt,Instr.sureAddr,Sem.run_bind,Sem.run_pure,Result.andThen_ok]
  exact Oe (f:=fun _ => .slice (some ⟨b,d,none⟩) 1 cap) (show Ip Tryz.prog 113=some (1,false) by kernel_rfl) (fun j J=>by
   obtain rfl:j=0:=by omega
   exact LM aa E) (by decide)
 ·refine R.list (xs:=[.agg [Am 1,Am 0,.val (.string ⟨#[98,111,100,121]⟩)]]) 3 (fun _ => .agg #[.int .i64 1,.int .i64 0,.string ⟨#[98,111,100,121]⟩]) hlc hcm (fun i O=>?_) (fun i O=>?_) trivial
  ·obtain rfl:i=0:=by simpa using O
   refine ⟨rfl,fun j J=>?_⟩
   have h5:=r j J
   have G:j=0∨j=1∨j=2:=by omega
   have hv:∃ v:Value,([.int .i64 1,.int .i64 0,.string ⟨#[98,111,100,121]⟩]:List Value)[j]? = some v:=by
    rcases G with rfl | rfl | rfl<;>exact ⟨_,rfl⟩
   obtain ⟨v,hv⟩:=hv
   rw [hv] at h5
   rw [show d+0*3+j=d+j by omega]
   refine ⟨.inl (World.block_lt_of_cell? W _ h5),?_⟩
   rw [LM h5 E,←hv]
   rcases G with rfl | rfl | rfl<;>rfl
  ·obtain rfl:i=0:=by simpa using O
   refine .agg rfl (fun x H=>?_) (fun k U h2=>?_)
   ·simp only [List.mem_cons,List.not_mem_nil,or_false] at H
    rcases H with rfl | rfl | rfl<;>rfl
   ·have G:k=0∨k=1∨k=2:=by simp at h2;omega
    rcases G with rfl | rfl | rfl
    ·exact .flat rfl
    ·exact .flat rfl
    ·exact .flat (show G8 (.string ⟨#[98,111,100,121]⟩)=true from by decide)
theorem Zc0 {W:World} (hL:laidMet Tryz.prog Rows.lossLostRow.laid W):Rj W :=
 Wj (Lib.laidMet.reads hL (.tail _ (.tail _ (.tail _ (.tail _ (.tail _ (.tail _ (.head _))))))))
end Go.Proofs.YtmcnjijeocmkgaaGreatDoor
