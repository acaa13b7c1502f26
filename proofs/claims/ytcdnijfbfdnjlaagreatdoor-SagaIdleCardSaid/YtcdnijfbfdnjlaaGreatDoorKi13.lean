/-
  Part 13 of the proof: rules and walks that the claim's last text uses.
-/
import Derived.Shelf.Vars
import Derived.Test.YtcdnijfbfdnjlaaGreatDoorKi12
set_option linter.unusedSimpArgs false
set_option linter.unusedVariables false
set_option maxRecDepth 100000
set_option maxHeartbeats 4000000
namespace Go.Proofs.YtcdnijfbfdnjlaaGreatDoor
open Go Go.RowKit Go.Ev
set_option maxRecDepth 100000
set_option maxHeartbeats 4000000
theorem Zn9:KA kX 99993 (C9 (C9 (C9 (C9 (C9 (C9 (C9 (kC)))))))) kE7 kS7=some (.ret,kE7,kS7):=by kernel_rfl
theorem kQ0:(kC) = .seq (VZ (kC)) (C9 (kC)):=by kernel_rfl
theorem kQ1:(C9 (kC)) = .seq (VZ (C9 (kC))) (C9 (C9 (kC))):=by kernel_rfl
theorem kQ2:(C9 (C9 (kC))) = .seq (VZ (C9 (C9 (kC)))) (C9 (C9 (C9 (kC)))):=by kernel_rfl
theorem kQ3:(C9 (C9 (C9 (kC)))) = .seq (VZ (C9 (C9 (C9 (kC))))) (C9 (C9 (C9 (C9 (kC))))):=by kernel_rfl
theorem kQ4:(C9 (C9 (C9 (C9 (kC))))) = .seq (VZ (C9 (C9 (C9 (C9 (kC)))))) (C9 (C9 (C9 (C9 (C9 (kC)))))):=by kernel_rfl
theorem kQ5:(C9 (C9 (C9 (C9 (C9 (kC)))))) = .seq (VZ (C9 (C9 (C9 (C9 (C9 (kC))))))) (C9 (C9 (C9 (C9 (C9 (C9 (kC))))))):=by kernel_rfl
theorem kQ6:(C9 (C9 (C9 (C9 (C9 (C9 (kC))))))) = .seq (VZ (C9 (C9 (C9 (C9 (C9 (C9 (kC)))))))) (C9 (C9 (C9 (C9 (C9 (C9 (C9 (kC)))))))):=by kernel_rfl
theorem Zod:KA kX 100000 kC kE0 kS0=some (.ret,kE7,kS7):=(MZ kQ0 kP0 (MZ kQ1 kP1 (MZ kQ2 kP2 (MZ kQ3 kP3 (MZ kQ4 kP4 (MZ kQ5 kP5 (MZ kQ6 kP6 Zn9)))))))
theorem Zog:T9 Tryz.prog cfgL none 9 Tryz.f9 ⟨0,0,0⟩ ⟨[],[],[]⟩ kE7 kS7=some (.val (.bool true),⟨[],[],[]⟩):=by kernel_rfl
theorem ZlS:I1 Tryz.prog cfgL 60 none 9 [] ⟨[],[],[]⟩=some (.val (.bool true),⟨[],[],[]⟩) :=
 Zi7 (fn:=Tryz.f9) (c:=kC) (by kernel_rfl) Tryz.func9 (by kernel_rfl) (of_decide_eq_true (by kernel_rfl)) Zod (.inr rfl) Zog
theorem WV (w0:World) (B:Ao) (Rw:Au) (L:As) (hE:Zjs w0) (hM:YB w0) (hP:Pow10 w0) (hT:Lib.Utf8Tabs 1 2 w0):ACalls Tryz.prog w0 9 [] ⟨B,Rw,L⟩ fun v s'=>v = .val (.bool true)∧s'=⟨B,Rw,L⟩ :=
 FX (ZdF hM hP hT 60 9 [] ⟨[],[],[]⟩ _ _ ZlS).1 rfl fun M w b e c=>by
  have hv:b = #[]:=by
   have:=c.1
   apply Array.eq_empty_of_size_eq_zero;simpa using this
  subst hv
  have f:YB w:=by obtain ⟨m,h⟩:=hM;exact ⟨m,QO h e⟩
  have h:=ZdF (w0:=w) f (hP.below e) (Utf8Tabs_below hT e) 60 9 [] ⟨[],[],[]⟩ _ _ ZlS
  refine (h.2 Mem.start w #[] (Tj w) ⟨rfl,fun i d h2=>by simp at d⟩).mono ?_
  rintro en g ⟨v,M',a,st,d,⟨h2,_⟩,_,h4,h5⟩
  subst h2
  have:=h5.val_inv.1
  subst this
  exact ⟨d,h4.below⟩
def E0 (n:Nat)  : Option Bool :=
 some (true)
def Db (n:Nat) (h:List (Int × List Int)) (a1:List (Int × List Int)) (a2:(Int × List Int)→(Int × List Int)→Option Bool):Nat→Int→Option Bool
 | 0,_=>none
 | m+1,b =>
  if decide (b<(h.length:Int)) then
   (EA h b).bind fun x16 =>
   (EA a1 b).bind fun y =>
   (a2 x16 y).bind fun q =>
   if !q then
    some (false)
   else
    if Ba (b+1) then
     (Db n h a1 a2 m) (b+1)
    else none
  else
   E0 n 
def Fg (n:Nat) (h:List (Int × List Int)) (b:List (Int × List Int)) (q:(Int × List Int)→(Int × List Int)→Option Bool):Option Bool :=
 if !(decide ((h.length:Int)=(b.length:Int))) then
  some (false)
 else
  Db n h b q n 0
theorem KP (w0:World) (n:Nat) (B:Ao) (Rw:Au) (L:As) (a0:List (Int × List Int)) (a1:List (Int × List Int)) (fa2:FuncId) (ca2:List AV) (a2:(Int × List Int)→(Int × List Int)→Option Bool) (ha2:∀ (x0:Int × List Int) (x1:Int × List Int) r,a2 x0 x1=some r→∀ B' rows,B <+: B'→Rw <+: rows→ACalls Tryz.prog w0 fa2 ([.agg (Ak x0.1::([.list (x0.2.map AU) .none])),.agg (Ak x1.1::([.list (x1.2.map AU) .none]))]++ca2) ⟨B',rows,L⟩ fun v s=>v = .val (.bool r)∧s=⟨B',rows,L⟩) (r:Bool) (h:Fg n a0 a1 a2=some r) :
  ACalls Tryz.prog w0 106 [.list (a0.map NI) .none,.list (a1.map NI) .none,.clo fa2 ca2] ⟨B,Rw,L⟩ fun x st=>x = .val (.bool r)∧st=⟨B,Rw,L⟩:=by
 rw [Fg] at h
 refine hd [.tmp 6] Tryz.func106 Tryz.ntmps106 fun M0 W0 l g i b o f hs=>?_
 simp only [Az]
 have d:=Dw (o (.clo fa2 ca2) (by simp))
 refine rg [0,1,2] hs ?_
 apply Am;intro K2 j
 refine rg [0,1,2,14] hs ?_
 refine F6 h hs ?_ ?_<;>intro hs h
 ·refine rg [6] hs ?_
  exact rt h hs b f
 refine sk [0,1,2] hs j ?_
 clear j
 refine AB (fun e st=>Ck e st B Rw L [] [] [] (E0 n  = some r)) ?_ ?_
 ·intro K8 k
  refine rg [1,2,15,16,17] hs ?_
  apply Ar
  refine Ax (fun m e st=>∃ (c:Int),Ck e st B Rw L [(1,true,.list (a1.map NI) .none),(2,true,.clo fa2 ca2),(15,true,.list (a0.map NI) .none),(16,true,Ak (a0.length:Int)),(17,true,Ak c)] [] [] (Db n a0 a1 a2 m c=some r)) n ⟨0,([]),Rw,ef hs,ef hs,f,h⟩ ?_
  rintro ml10 e st ⟨c,Xl10,Rl10,rfl,rfl,f,h⟩ Ul10 Vl10
  cases ml10 with
  | zero=>cases h
  | succ ml10 =>
  rw [Db] at h
  refine BW l g i rfl b f (KU d f) (KU d f) ?_
  exact go (tg (a:=([1,2,15,16,17,18],([1,2,15,16,17],[1,2,7,8,15,16,17],[1,2,8,9,15,16,17],[1,2,15,16,17,30],([6],()),[1,2,15,16,17],[1,2,15,16,17],()),[],()))) h hs l g i b f (q1 ha2) (q2 k (fun e s=>Vl10 ml10 e s (Nat.lt_succ_self _)))
 ·clear h;rintro e st ⟨Xk7,Rk7,rfl,rfl,f,h⟩
  rw [E0] at h
  refine BW l g i rfl b f (KU d f) (KU d f) ?_
  refine rg [6] hs ?_
  exact rt h hs b f
def F9 (n:Nat) (h:Fte) (b:Fte):Option Bool :=
 (B5 n h.stamp b.stamp).bind fun y =>
 if ((y&&(decide (h.kind=b.kind)))&&(NB h.node b.node))&&(NB h.text b.text) then
  (Fg n h.into b.into (fun (x0:Int × List Int) (x1:Int × List Int)=>B5 n x0 x1)).bind fun q =>
  some (q)
 else
  some (false)
theorem LA (w0:World) (n:Nat) (B:Ao) (Rw:Au) (L:As) (a0:Fte) (a1:Fte) (r:Bool) (h:F9 n a0 a1=some r) :
  ACalls Tryz.prog w0 70 [.agg ((Ak a0.stamp.1::([.list (a0.stamp.2.map AU) .none]))++(Ak a0.kind::(.val (.string a0.node)::(.list (a0.into.map NI) .none::([.val (.string a0.text)]))))),.agg ((Ak a1.stamp.1::([.list (a1.stamp.2.map AU) .none]))++(Ak a1.kind::(.val (.string a1.node)::(.list (a1.into.map NI) .none::([.val (.string a1.text)])))))] ⟨B,Rw,L⟩ fun x st=>x = .val (.bool r)∧st=⟨B,Rw,L⟩:=by
 rw [F9] at h
 refine hd [.tmp 4] Tryz.func70 Tryz.ntmps70 fun M0 W0 m e f b u k hs=>?_
 simp only [Az]
 refine rg [2,3] hs ?_
 apply Am;intro K2 c
 obtain ⟨q,j,h⟩:=bind_some h
 rcases Bool.eq_false_or_eq_true (((q&&(decide (a0.kind=a1.kind)))&&(NB a0.node a1.node))&&(NB a0.text a1.text)) with hf4 | hf4
 ·replace h:=DK h hf4
  obtain ⟨t,g,h⟩:=bind_some h
  have hs:=Ad hf4 hs
  refine rk 3 [4] (al hs) ?_
  refine Aw _ (Eg w0 n _ _ _ a0.stamp a1.stamp _ j) (hv (al hs)) ?_
  refine nc (al hs) ?_
  refine Aw _ (KP w0 n _ _ _ a0.into a1.into 24 [] (fun (d:Int × List Int) (i:Int × List Int)=>B5 n d i) (fun d i r p s rows' l o=>by exact Eg w0 n _ _ _ d i _ p) _ g) (hv (al hs)) ?_
  refine ne (al hs) c ?_
  clear c
  exact rt h hs b k
 ·replace h:=DI h hf4
  exact go (tg (a:=([4],()))) h (al (Ad hf4 hs)) m e f b k (q1 (Eg w0 n)) (q1 c)
def Hy (n:Nat)  : Option Bool :=
 some (true)
def E3 (n:Nat) (h:List Fte) (a1:List Fte):Nat→Int→Option Bool
 | 0,_=>none
 | m+1,b =>
  if decide (b<(h.length:Int)) then
   (EA h b).bind fun x16 =>
   (EA a1 b).bind fun q =>
   (F9 n x16 q).bind fun y =>
   if !y then
    some (false)
   else
    if Ba (b+1) then
     (E3 n h a1 m) (b+1)
    else none
  else
   Hy n 
def H3 (n:Nat) (h:List Fte) (b:List Fte):Option Bool :=
 if !(decide ((h.length:Int)=(b.length:Int))) then
  some (false)
 else
  E3 n h b n 0
theorem Ot (w0:World) (n:Nat) (B:Ao) (Rw:Au) (L:As) (a0:List Fte) (a1:List Fte) (r:Bool) (h:H3 n a0 a1=some r) :
  ACalls Tryz.prog w0 41 [.list (a0.map Jt) .none,.list (a1.map Jt) .none] ⟨B,Rw,L⟩ fun x st=>x = .val (.bool r)∧st=⟨B,Rw,L⟩:=by
 rw [H3] at h
 refine hd [.tmp 4] Tryz.func41 Tryz.ntmps41 fun M0 W0 k f g b l d hs=>?_
 simp only [Az]
 refine rg [0,1] hs ?_
 apply Am;intro K2 i
 refine rg [0,1,10] hs ?_
 refine F6 h hs ?_ ?_<;>intro hs h
 ·refine rg [4] hs ?_
  exact rt h hs b d
 refine sk [0,1] hs i ?_
 clear i
 refine AB (fun e st=>Ck e st B Rw L [] [] [] (Hy n  = some r)) ?_ ?_
 ·intro K8 j
  refine rg [0,1,5] hs ?_
  apply Ar
  refine Ax (fun m e st=>∃ (c:Int),Ck e st B Rw L [(0,true,.list (a0.map Jt) .none),(1,true,.list (a1.map Jt) .none),(5,true,Ak c)] [] [] (E3 n a0 a1 m c=some r)) n ⟨0,([]),Rw,ef hs,ef hs,d,h⟩ ?_
  rintro ml10 e st ⟨c,Xl10,Rl10,rfl,rfl,d,h⟩ Ul10 Vl10
  cases ml10 with
  | zero=>cases h
  | succ ml10 =>
  rw [E3] at h
  exact go (tg (a:=([0,1,5,14],([0,1,5],[10,0,1,5,26],([4],()),[0,1,5],[0,1,5],()),[],()))) h hs k f g b d (q1 (LA w0 n)) (q2 j (fun e s=>Vl10 ml10 e s (Nat.lt_succ_self _)))
 ·clear h;rintro e st ⟨Xk7,Rk7,rfl,rfl,d,h⟩
  rw [Hy] at h
  refine td k f g b d ?_
  refine rg [4] hs ?_
  exact rt h hs b d
def HY (n:Nat)  : Option Bool :=
 some (true)
def CG (n:Nat) (h:List Int) (a1:List Int):Nat→Int→Option Bool
 | 0,_=>none
 | m+1,b =>
  if decide (b<(h.length:Int)) then
   (EA h b).bind fun q =>
   (EA a1 b).bind fun y =>
   if !(decide (q=y)) then
    some (false)
   else
    if Ba (b+1) then
     (CG n h a1 m) (b+1)
    else none
  else
   HY n 
def Fp (n:Nat) (h:List Int) (b:List Int):Option Bool :=
 if !(decide ((h.length:Int)=(b.length:Int))) then
  some (false)
 else
  CG n h b n 0
theorem PH (w0:World) (n:Nat) (B:Ao) (Rw:Au) (L:As) (a0:List Int) (a1:List Int) (r:Bool) (h:Fp n a0 a1=some r) :
  ACalls Tryz.prog w0 68 [.list (a0.map AU) .none,.list (a1.map AU) .none] ⟨B,Rw,L⟩ fun x st=>x = .val (.bool r)∧st=⟨B,Rw,L⟩:=by
 rw [Fp] at h
 refine hd [.tmp 4] Tryz.func68 Tryz.ntmps68 fun M0 W0 k f g c l d hs=>?_
 simp only [Az]
 refine rg [0,1] hs ?_
 apply Am;intro K2 i
 refine rg [0,1,10] hs ?_
 refine F6 h hs ?_ ?_<;>intro hs h
 ·refine rg [4] hs ?_
  exact rt h hs c d
 refine sk [0,1] hs i ?_
 clear i
 refine AB (fun e st=>Ck e st B Rw L [] [] [] (HY n  = some r)) ?_ ?_
 ·intro K8 j
  refine rg [0,1,12,13] hs ?_
  apply Ar
  refine Ax (fun m e st=>∃ (b:Int),Ck e st B Rw L [(0,true,.list (a0.map AU) .none),(1,true,.list (a1.map AU) .none),(12,true,Ak (a0.length:Int)),(13,true,Ak b)] [] [] (CG n a0 a1 m b=some r)) n ⟨0,([]),Rw,ef hs,ef hs,d,h⟩ ?_
  rintro ml10 e st ⟨b,Xl10,Rl10,rfl,rfl,d,h⟩ Ul10 Vl10
  cases ml10 with
  | zero=>cases h
  | succ ml10 =>
  rw [CG] at h
  exact go (tg (a:=([0,1,12,13,14],([0,1,12,13],[0,1,5,12,13],[9,0,1,12,13,24],([4],()),[0,1,12,13],[0,1,12,13],()),[],()))) h hs k f g c d trivial (q2 j (fun e s=>Vl10 ml10 e s (Nat.lt_succ_self _)))
 ·clear h;rintro e st ⟨Xk7,Rk7,rfl,rfl,d,h⟩
  rw [HY] at h
  refine td k f g c d ?_
  refine rg [4] hs ?_
  exact rt h hs c d
def BE (n:Nat) (h:Msg) (b:Msg):Option Bool :=
 (B5 n h.stamp b.stamp).bind fun y3 =>
 if y3&&(decide (h.mass=b.mass)) then
  (Fp n h.origins b.origins).bind fun q =>
  if q then
   (Ep n h.body b.body).bind fun y =>
   some (y)
  else
   some (false)
 else
  some (false)
theorem F5 (w0:World) (n:Nat) (B:Ao) (Rw:Au) (L:As) (a0:Msg) (a1:Msg) (r:Bool) (h:BE n a0 a1=some r) :
  ACalls Tryz.prog w0 39 [.agg ((Ak a0.stamp.1::([.list (a0.stamp.2.map AU) .none]))++(Ak a0.mass::(.list (a0.origins.map AU) .none::(a0.body.cs)))),.agg ((Ak a1.stamp.1::([.list (a1.stamp.2.map AU) .none]))++(Ak a1.mass::(.list (a1.origins.map AU) .none::(a1.body.cs))))] ⟨B,Rw,L⟩ fun x st=>x = .val (.bool r)∧st=⟨B,Rw,L⟩:=by
 rw [BE] at h
 refine hd [.tmp 4] Tryz.func39 Tryz.ntmps39 fun M0 W0 e c d b g f hs=>?_
 simp only [Az]
 exact go (tg (a:=([2,3],(([4],()),[4],()),[4],()))) h hs e c d b f (q3 (Eg w0 n) (PH w0 n) (HE w0 n)) trivial
def F7 (n:Nat)  : Option Bool :=
 some (true)
def DZ (n:Nat) (h:List Msg) (a1:List Msg):Nat→Int→Option Bool
 | 0,_=>none
 | m+1,b =>
  if decide (b<(h.length:Int)) then
   (EA h b).bind fun x16 =>
   (EA a1 b).bind fun q =>
   (BE n x16 q).bind fun y =>
   if !y then
    some (false)
   else
    if Ba (b+1) then
     (DZ n h a1 m) (b+1)
    else none
  else
   F7 n 
def GB (n:Nat) (h:List Msg) (b:List Msg):Option Bool :=
 if !(decide ((h.length:Int)=(b.length:Int))) then
  some (false)
 else
  DZ n h b n 0
theorem MD (w0:World) (n:Nat) (B:Ao) (Rw:Au) (L:As) (a0:List Msg) (a1:List Msg) (r:Bool) (h:GB n a0 a1=some r) :
  ACalls Tryz.prog w0 42 [.list (a0.map A9) .none,.list (a1.map A9) .none] ⟨B,Rw,L⟩ fun x st=>x = .val (.bool r)∧st=⟨B,Rw,L⟩:=by
 rw [GB] at h
 refine hd [.tmp 4] Tryz.func42 Tryz.ntmps42 fun M0 W0 k f g b l d hs=>?_
 simp only [Az]
 refine rg [0,1] hs ?_
 apply Am;intro K2 i
 refine rg [0,1,10] hs ?_
 refine F6 h hs ?_ ?_<;>intro hs h
 ·refine rg [4] hs ?_
  exact rt h hs b d
 refine sk [0,1] hs i ?_
 clear i
 refine AB (fun e st=>Ck e st B Rw L [] [] [] (F7 n  = some r)) ?_ ?_
 ·intro K8 j
  refine rg [0,1,5] hs ?_
  apply Ar
  refine Ax (fun m e st=>∃ (c:Int),Ck e st B Rw L [(0,true,.list (a0.map A9) .none),(1,true,.list (a1.map A9) .none),(5,true,Ak c)] [] [] (DZ n a0 a1 m c=some r)) n ⟨0,([]),Rw,ef hs,ef hs,d,h⟩ ?_
  rintro ml10 e st ⟨c,Xl10,Rl10,rfl,rfl,d,h⟩ Ul10 Vl10
  cases ml10 with
  | zero=>cases h
  | succ ml10 =>
  rw [DZ] at h
  exact go (tg (a:=([0,1,5,14],([0,1,5],[10,0,1,5,26],([4],()),[0,1,5],[0,1,5],()),[],()))) h hs k f g b d (q1 (F5 w0 n)) (q2 j (fun e s=>Vl10 ml10 e s (Nat.lt_succ_self _)))
 ·clear h;rintro e st ⟨Xk7,Rk7,rfl,rfl,d,h⟩
  rw [F7] at h
  refine td k f g b d ?_
  refine rg [4] hs ?_
  exact rt h hs b d
def F8 (n:Nat)  : Option Bool :=
 some (true)
def D5 (n:Nat) (a0:List Rqs) (a1:List Rqs):Nat→Int→Option Bool
 | 0,_=>none
 | m+1,b =>
  if decide (b<(a0.length:Int)) then
   (EA a0 b).bind fun q =>
   (EA a1 b).bind fun h =>
   (B5 n q.stamp h.stamp).bind fun y19 =>
   if (((!y19)||(!(NB q.service h.service)))||(!(decide (q.call=h.call))))||(q.undo != h.undo) then
    some (false)
   else
    (Ep n q.body h.body).bind fun y =>
    if !y then
     some (false)
    else
     if Ba (b+1) then
      (D5 n a0 a1 m) (b+1)
     else none
  else
   F8 n 
def GL (n:Nat) (h:List Rqs) (b:List Rqs):Option Bool :=
 if !(decide ((h.length:Int)=(b.length:Int))) then
  some (false)
 else
  D5 n h b n 0
theorem Me (w0:World) (n:Nat) (B:Ao) (Rw:Au) (L:As) (a0:List Rqs) (a1:List Rqs) (r:Bool) (h:GL n a0 a1=some r) :
  ACalls Tryz.prog w0 40 [.list (a0.map IZ) .none,.list (a1.map IZ) .none] ⟨B,Rw,L⟩ fun x st=>x = .val (.bool r)∧st=⟨B,Rw,L⟩:=by
 rw [GL] at h
 refine hd [.tmp 4] Tryz.func40 Tryz.ntmps40 fun M0 W0 D p q g G k hs=>?_
 simp only [Az]
 refine rg [0,1] hs ?_
 apply Am;intro K2 u
 refine rg [0,1,12] hs ?_
 refine F6 h hs ?_ ?_<;>intro hs h
 ·have f:=hs.1
  refine rg [4] hs ?_
  exact rt h hs g k
 have f:=hs.1
 refine sk [0,1] hs u ?_
 clear u
 refine AB (fun e st=>Ck e st B Rw L [] [] [] (F8 n  = some r)) ?_ ?_
 ·intro K8 C
  refine rg [0,1,5] hs ?_
  apply Ar
  refine Ax (fun m e st=>∃ (j:Int),Ck e st B Rw L [(0,true,.list (a0.map IZ) .none),(1,true,.list (a1.map IZ) .none),(5,true,Ak j)] [] [] (D5 n a0 a1 m j=some r)) n ⟨0,([]),Rw,ef hs,ef hs,k,h⟩ ?_
  rintro ml10 e st ⟨j,Xl10,Rl10,rfl,rfl,k,h⟩ Ul10 Vl10
  cases ml10 with
  | zero=>cases h
  | succ ml10 =>
  rw [D5] at h
  refine td D p q g k ?_
  apply Am;intro K11 o
  refine rg [0,1,5,16] hs ?_
  refine F6 h hs ?_ ?_<;>intro hs h
  rotate_left
  ·have d:=hs.1
   refine sx [] hs C ?_
   exact ⟨([]),Rl10,ef hs,ef hs,k,h⟩
  have d:=hs.1
  refine sk [0,1,5] hs o ?_
  clear o
  apply Am;intro K14 t
  apply Ar
  apply Am;intro K15 l
  obtain ⟨F,w,v,c,h⟩:=ix IZ h
  obtain ⟨E,z,y,b,h⟩:=ix IZ h
  apply UM PQ [8,9,10,11] [0,1,5,6,7] kr (fun s=>∃ (X:Ao) (rows:Au),s=⟨B++([]++X),rows,L⟩) 5 (B.length+0)
  ·simp +decide only [go_sem,Nat.reduceAdd]
  ·rintro s ⟨X,rows,rfl⟩
   refine ⟨1,?_⟩
   rw [Ap];simp +decide only [go_sem,Nat.reduceAdd,Bj,f,d,c,b]
   (repeat' apply Ad)<;>first | rfl | exact cl
  ·refine Good.mk [8,9] kr ⟨[],_,by first | rfl | (simp only [List.append_nil,List.nil_append];done) | (simp only [List.append_nil,List.nil_append];rfl)⟩ ?_ ?_
   ·intro h;exact absurd h (by decide)
   ·intro i hi;simp only [List.mem_cons,List.not_mem_nil,or_false] at hi
    rcases hi with rfl | rfl
    ·apply CP rfl rfl ev
     ·simp +decide only [go_sem,Nat.reduceAdd,CJ,f,d,c,b]
      (repeat' apply Ad)<;>first | rfl | exact cl
     ·simp +decide only [go_sem,Nat.reduceAdd,f,d,c,b]
      refine Good.mk [9] kr ⟨_,_,by first | rfl | (simp only [List.append_nil,List.nil_append];done) | (simp only [List.append_nil,List.nil_append];rfl)⟩ ?_ ?_
      ·intro h;exact absurd h (by decide)
      ·intro i hi;simp only [List.mem_cons,List.not_mem_nil,or_false] at hi
       subst hi
       ·apply CP rfl rfl ev
        ·simp +decide only [go_sem,Nat.reduceAdd,CJ,f,d,c,b]
         (repeat' apply Ad)<;>first | rfl | exact cl
        ·simp +decide only [go_sem,Nat.reduceAdd,f,d,c,b]
         refine Good.mk [10] kr ⟨_,_,by first | rfl | (simp only [List.append_nil,List.nil_append];done) | (simp only [List.append_nil,List.nil_append];rfl)⟩ ?_ ?_
         ·intro h;exact absurd h (by decide)
         ·intro i hi;simp only [List.mem_cons,List.not_mem_nil,or_false] at hi
          subst hi
          ·apply CP rfl rfl ev
           ·simp +decide only [go_sem,Nat.reduceAdd,CJ,f,d,c,b]
            (repeat' apply Ad)<;>first | rfl | exact cl
           ·simp +decide only [go_sem,Nat.reduceAdd,f,d,c,b]
            refine Good.mk [11] kr ⟨_,_,by first | rfl | (simp only [List.append_nil,List.nil_append];done) | (simp only [List.append_nil,List.nil_append];rfl)⟩ ?_ ?_
            ·intro h;exact absurd h (by decide)
            ·intro i hi;simp only [List.mem_cons,List.not_mem_nil,or_false] at hi
             subst hi
             ·apply CP rfl rfl ev
              ·simp +decide only [go_sem,Nat.reduceAdd,CJ,f,d,c,b]
               (repeat' apply Ad)<;>first | rfl | exact cl
              ·simp +decide only [go_sem,Nat.reduceAdd,f,d,c,b]
               refine Good.mk [] kr ⟨_,_,by first | rfl | (simp only [List.append_nil,List.nil_append];done) | (simp only [List.append_nil,List.nil_append];rfl)⟩ ?_ ?_
               ·intro _;apply JL [0,1,5,6,7];first | (simp +decide only [go_sem,Nat.reduceAdd,f,d,c,b];done) | (simp +decide only [go_sem,Nat.reduceAdd,f,d,c,b];rfl)
               ·intro i hi;cases hi
    ·apply CP rfl rfl ev
     ·simp +decide only [go_sem,Nat.reduceAdd,CJ,f,d,c,b]
      (repeat' apply Ad)<;>first | rfl | exact cl
     ·simp +decide only [go_sem,Nat.reduceAdd,f,d,c,b]
      refine Good.mk [8] kr ⟨_,_,by first | rfl | (simp only [List.append_nil,List.nil_append];done) | (simp only [List.append_nil,List.nil_append];rfl)⟩ ?_ ?_
      ·intro h;exact absurd h (by decide)
      ·intro i hi;simp only [List.mem_cons,List.not_mem_nil,or_false] at hi
       subst hi
       ·apply CP rfl rfl ev
        ·simp +decide only [go_sem,Nat.reduceAdd,CJ,f,d,c,b]
         (repeat' apply Ad)<;>first | rfl | exact cl
        ·simp +decide only [go_sem,Nat.reduceAdd,f,d,c,b]
         refine Good.mk [10] kr ⟨_,_,by first | rfl | (simp only [List.append_nil,List.nil_append];done) | (simp only [List.append_nil,List.nil_append];rfl)⟩ ?_ ?_
         ·intro h;exact absurd h (by decide)
         ·intro i hi;simp only [List.mem_cons,List.not_mem_nil,or_false] at hi
          subst hi
          ·apply CP rfl rfl ev
           ·simp +decide only [go_sem,Nat.reduceAdd,CJ,f,d,c,b]
            (repeat' apply Ad)<;>first | rfl | exact cl
           ·simp +decide only [go_sem,Nat.reduceAdd,f,d,c,b]
            refine Good.mk [11] kr ⟨_,_,by first | rfl | (simp only [List.append_nil,List.nil_append];done) | (simp only [List.append_nil,List.nil_append];rfl)⟩ ?_ ?_
            ·intro h;exact absurd h (by decide)
            ·intro i hi;simp only [List.mem_cons,List.not_mem_nil,or_false] at hi
             subst hi
             ·apply CP rfl rfl ev
              ·simp +decide only [go_sem,Nat.reduceAdd,CJ,f,d,c,b]
               (repeat' apply Ad)<;>first | rfl | exact cl
              ·simp +decide only [go_sem,Nat.reduceAdd,f,d,c,b]
               refine Good.mk [] kr ⟨_,_,by first | rfl | (simp only [List.append_nil,List.nil_append];done) | (simp only [List.append_nil,List.nil_append];rfl)⟩ ?_ ?_
               ·intro _;refine X7 (own:=[]) rfl (VC rfl g k ow) ow ow ?_
                refine HQ (by first | exact .inl ⟨rfl,rfl,rfl⟩ | exact .inr (.inl ⟨rfl,rfl,rfl⟩) | (refine .inr (.inr ⟨rfl,?_⟩);(simp +decide only [go_sem,Nat.reduceAdd])<;>(try (repeat' apply Ad))<;>first | omega | assumption)) ?_
                refine HQ (by first | exact .inl ⟨rfl,rfl,rfl⟩ | exact .inr (.inl ⟨rfl,rfl,rfl⟩) | (refine .inr (.inr ⟨rfl,?_⟩);(simp +decide only [go_sem,Nat.reduceAdd])<;>(try (repeat' apply Ad))<;>first | omega | assumption)) ?_
                refine HQ (by first | exact .inl ⟨rfl,rfl,rfl⟩ | exact .inr (.inl ⟨rfl,rfl,rfl⟩) | (refine .inr (.inr ⟨rfl,?_⟩);(simp +decide only [go_sem,Nat.reduceAdd])<;>(try (repeat' apply Ad))<;>first | omega | assumption)) ?_
                refine HQ (by first | exact .inl ⟨rfl,rfl,rfl⟩ | exact .inr (.inl ⟨rfl,rfl,rfl⟩) | (refine .inr (.inr ⟨rfl,?_⟩);(simp +decide only [go_sem,Nat.reduceAdd])<;>(try (repeat' apply Ad))<;>first | omega | assumption)) ?_
                refine HQ (by first | exact .inl ⟨rfl,rfl,rfl⟩ | exact .inr (.inl ⟨rfl,rfl,rfl⟩) | (refine .inr (.inr ⟨rfl,?_⟩);(simp +decide only [go_sem,Nat.reduceAdd])<;>(try (repeat' apply Ad))<;>first | omega | assumption)) ?_
                exact trivial
               ·intro i hi;cases hi
  simp +decide only [go_sem,Nat.reduceAdd,f,d,c,b]
  (repeat' apply Ad)<;>first | refine l _ _ ?_ | exact cl
  clear l
  exact go (tg (a:=(([0,1,5,61],[4],()),[0,1,5,61],([4],()),[0,1,5],[0,1,5],()))) h (al (Ad b (Ad c hs))) D p q g k (q2 (Eg w0 n) (HE w0 n)) (q2 t (fun e s=>Vl10 ml10 e s (Nat.lt_succ_self _)))
 ·clear h;rintro e st ⟨Xk7,Rk7,rfl,rfl,k,h⟩
  rw [F8] at h
  refine td D p q g k ?_
  refine rg [4] hs ?_
  exact rt h hs g k
def FH (n:Nat)  : Option Bool :=
 some (true)
def Bz (n:Nat) (h:List Slt) (a1:List Slt) (a2:Slt→Slt→Option Bool):Nat→Int→Option Bool
 | 0,_=>none
 | m+1,b =>
  if decide (b<(h.length:Int)) then
   (EA h b).bind fun x16 =>
   (EA a1 b).bind fun y =>
   (a2 x16 y).bind fun q =>
   if !q then
    some (false)
   else
    if Ba (b+1) then
     (Bz n h a1 a2 m) (b+1)
    else none
  else
   FH n 
def C5 (n:Nat) (h:List Slt) (b:List Slt) (q:Slt→Slt→Option Bool):Option Bool :=
 if !(decide ((h.length:Int)=(b.length:Int))) then
  some (false)
 else
  Bz n h b q n 0
theorem Lx (w0:World) (n:Nat) (B:Ao) (Rw:Au) (L:As) (a0:List Slt) (a1:List Slt) (fa2:FuncId) (ca2:List AV) (a2:Slt→Slt→Option Bool) (ha2:∀ (x0:Slt) (x1:Slt) r,a2 x0 x1=some r→∀ B' rows,B <+: B'→Rw <+: rows→ACalls Tryz.prog w0 fa2 ([.agg ((x0.key.cs)++(Ak x0.number::(Ak x0.time::(.list (x0.items.map A9) .none::([.list (x0.values.map B1) .none]))))),.agg ((x1.key.cs)++(Ak x1.number::(Ak x1.time::(.list (x1.items.map A9) .none::([.list (x1.values.map B1) .none])))))]++ca2) ⟨B',rows,L⟩ fun v s=>v = .val (.bool r)∧s=⟨B',rows,L⟩) (r:Bool) (h:C5 n a0 a1 a2=some r) :
  ACalls Tryz.prog w0 66 [.list (a0.map A3) .none,.list (a1.map A3) .none,.clo fa2 ca2] ⟨B,Rw,L⟩ fun x st=>x = .val (.bool r)∧st=⟨B,Rw,L⟩:=by
 rw [C5] at h
 refine hd [.tmp 6] Tryz.func66 Tryz.ntmps66 fun M0 W0 l g i b o f hs=>?_
 simp only [Az]
 have d:=Dw (o (.clo fa2 ca2) (by simp))
 refine rg [0,1,2] hs ?_
 apply Am;intro K2 j
 refine rg [0,1,2,14] hs ?_
 refine F6 h hs ?_ ?_<;>intro hs h
 ·refine rg [6] hs ?_
  exact rt h hs b f
 refine sk [0,1,2] hs j ?_
 clear j
 refine AB (fun e st=>Ck e st B Rw L [] [] [] (FH n  = some r)) ?_ ?_
 ·intro K8 k
  refine rg [1,2,15,16,17] hs ?_
  apply Ar
  refine Ax (fun m e st=>∃ (c:Int),Ck e st B Rw L [(1,true,.list (a1.map A3) .none),(2,true,.clo fa2 ca2),(15,true,.list (a0.map A3) .none),(16,true,Ak (a0.length:Int)),(17,true,Ak c)] [] [] (Bz n a0 a1 a2 m c=some r)) n ⟨0,([]),Rw,ef hs,ef hs,f,h⟩ ?_
  rintro ml10 e st ⟨c,Xl10,Rl10,rfl,rfl,f,h⟩ Ul10 Vl10
  cases ml10 with
  | zero=>cases h
  | succ ml10 =>
  rw [Bz] at h
  refine BW l g i rfl b f (KU d f) (KU d f) ?_
  exact go (tg (a:=([1,2,15,16,17,18],([1,2,15,16,17],[1,2,7,8,15,16,17],[1,2,8,9,15,16,17],[1,2,15,16,17,30],([6],()),[1,2,15,16,17],[1,2,15,16,17],()),[],()))) h hs l g i b f (q1 ha2) (q2 k (fun e s=>Vl10 ml10 e s (Nat.lt_succ_self _)))
 ·clear h;rintro e st ⟨Xk7,Rk7,rfl,rfl,f,h⟩
  rw [FH] at h
  refine BW l g i rfl b f (KU d f) (KU d f) ?_
  refine rg [6] hs ?_
  exact rt h hs b f
def En (n:Nat)  : Option Bool :=
 some (true)
def A8 (n:Nat) (h:List Msg) (a1:List Msg) (a2:Msg→Msg→Option Bool):Nat→Int→Option Bool
 | 0,_=>none
 | m+1,b =>
  if decide (b<(h.length:Int)) then
   (EA h b).bind fun x16 =>
   (EA a1 b).bind fun y =>
   (a2 x16 y).bind fun q =>
   if !q then
    some (false)
   else
    if Ba (b+1) then
     (A8 n h a1 a2 m) (b+1)
    else none
  else
   En n 
def Cb (n:Nat) (h:List Msg) (b:List Msg) (q:Msg→Msg→Option Bool):Option Bool :=
 if !(decide ((h.length:Int)=(b.length:Int))) then
  some (false)
 else
  A8 n h b q n 0
theorem GM (w0:World) (n:Nat) (B:Ao) (Rw:Au) (L:As) (a0:List Msg) (a1:List Msg) (fa2:FuncId) (ca2:List AV) (a2:Msg→Msg→Option Bool) (ha2:∀ (x0:Msg) (x1:Msg) r,a2 x0 x1=some r→∀ B' rows,B <+: B'→Rw <+: rows→ACalls Tryz.prog w0 fa2 ([.agg ((Ak x0.stamp.1::([.list (x0.stamp.2.map AU) .none]))++(Ak x0.mass::(.list (x0.origins.map AU) .none::(x0.body.cs)))),.agg ((Ak x1.stamp.1::([.list (x1.stamp.2.map AU) .none]))++(Ak x1.mass::(.list (x1.origins.map AU) .none::(x1.body.cs))))]++ca2) ⟨B',rows,L⟩ fun v s=>v = .val (.bool r)∧s=⟨B',rows,L⟩) (r:Bool) (h:Cb n a0 a1 a2=some r) :
  ACalls Tryz.prog w0 104 [.list (a0.map A9) .none,.list (a1.map A9) .none,.clo fa2 ca2] ⟨B,Rw,L⟩ fun x st=>x = .val (.bool r)∧st=⟨B,Rw,L⟩:=by
 rw [Cb] at h
 refine hd [.tmp 6] Tryz.func104 Tryz.ntmps104 fun M0 W0 l g i b o f hs=>?_
 simp only [Az]
 have d:=Dw (o (.clo fa2 ca2) (by simp))
 refine rg [0,1,2] hs ?_
 apply Am;intro K2 j
 refine rg [0,1,2,14] hs ?_
 refine F6 h hs ?_ ?_<;>intro hs h
 ·refine rg [6] hs ?_
  exact rt h hs b f
 refine sk [0,1,2] hs j ?_
 clear j
 refine AB (fun e st=>Ck e st B Rw L [] [] [] (En n  = some r)) ?_ ?_
 ·intro K8 k
  refine rg [1,2,15,16,17] hs ?_
  apply Ar
  refine Ax (fun m e st=>∃ (c:Int),Ck e st B Rw L [(1,true,.list (a1.map A9) .none),(2,true,.clo fa2 ca2),(15,true,.list (a0.map A9) .none),(16,true,Ak (a0.length:Int)),(17,true,Ak c)] [] [] (A8 n a0 a1 a2 m c=some r)) n ⟨0,([]),Rw,ef hs,ef hs,f,h⟩ ?_
  rintro ml10 e st ⟨c,Xl10,Rl10,rfl,rfl,f,h⟩ Ul10 Vl10
  cases ml10 with
  | zero=>cases h
  | succ ml10 =>
  rw [A8] at h
  refine BW l g i rfl b f (KU d f) (KU d f) ?_
  exact go (tg (a:=([1,2,15,16,17,18],([1,2,15,16,17],[1,2,7,8,15,16,17],[1,2,8,9,15,16,17],[1,2,15,16,17,30],([6],()),[1,2,15,16,17],[1,2,15,16,17],()),[],()))) h hs l g i b f (q1 ha2) (q2 k (fun e s=>Vl10 ml10 e s (Nat.lt_succ_self _)))
 ·clear h;rintro e st ⟨Xk7,Rk7,rfl,rfl,f,h⟩
  rw [En] at h
  refine BW l g i rfl b f (KU d f) (KU d f) ?_
  refine rg [6] hs ?_
  exact rt h hs b f
def B8 (n:Nat) (h:Slt) (b:Slt):Option Bool :=
 (Ep n h.key b.key).bind fun y3 =>
 if (y3&&(decide (h.number=b.number)))&&(decide (h.time=b.time)) then
  (Cb n h.items b.items (fun (q:Msg) (y:Msg)=>BE n q y)).bind fun y5 =>
  if y5 then
   (CH n h.values b.values (fun (q:Vl) (y:Vl)=>Ep n q y)).bind fun y7 =>
   some (y7)
  else
   some (false)
 else
  some (false)
theorem MU (w0:World) (n:Nat) (B:Ao) (Rw:Au) (L:As) (a0:Slt) (a1:Slt) (r:Bool) (h:B8 n a0 a1=some r) :
  ACalls Tryz.prog w0 67 [.agg ((a0.key.cs)++(Ak a0.number::(Ak a0.time::(.list (a0.items.map A9) .none::([.list (a0.values.map B1) .none]))))),.agg ((a1.key.cs)++(Ak a1.number::(Ak a1.time::(.list (a1.items.map A9) .none::([.list (a1.values.map B1) .none])))))] ⟨B,Rw,L⟩ fun x st=>x = .val (.bool r)∧st=⟨B,Rw,L⟩:=by
 rw [B8] at h
 refine hd [.tmp 4] Tryz.func67 Tryz.ntmps67 fun M0 W0 u l o b w p hs=>?_
 simp only [Az]
 refine rg [2,3] hs ?_
 apply Am;intro K2 c
 obtain ⟨t,k,h⟩:=bind_some h
 rcases Bool.eq_false_or_eq_true ((t&&(decide (a0.number=a1.number)))&&(decide (a0.time=a1.time))) with hf4 | hf4
 ·replace h:=DK h hf4
  obtain ⟨s,f,h⟩:=bind_some h
  rcases Bool.eq_false_or_eq_true (s) with hf6 | hf6
  ·replace h:=DK h hf6
   obtain ⟨v,m,h⟩:=bind_some h
   have hs:=Ad hf4 hs
   have hs:=Ad hf6 hs
   refine rk 4 [4] (al hs) ?_
   refine Aw _ (HE w0 n _ _ _ a0.key a1.key _ k) (hv (al hs)) ?_
   refine nc (al hs) ?_
   refine Aw _ (GM w0 n _ _ _ a0.items a1.items 39 [] (fun (e:Msg) (d:Msg)=>BE n e d) (fun e d r g q rows' j i=>by exact F5 w0 n _ _ _ e d _ g) _ f) (hv (al hs)) ?_
   refine nc (al hs) ?_
   refine Aw _ (KT w0 n _ _ _ a0.values a1.values 69 [] (fun (e:Vl) (d:Vl)=>Ep n e d) (fun e d r g q rows' j i=>by exact HE w0 n _ _ _ e d _ g) _ m) (hv (al hs)) ?_
   refine ne (al hs) c ?_
   clear c
   exact rt h hs b p
  ·replace h:=DI h hf6
   have hs:=Ad hf4 hs
   have hs:=Ad hf6 hs
   refine rk 4 [4] (al hs) ?_
   refine Aw _ (HE w0 n _ _ _ a0.key a1.key _ k) (hv (al hs)) ?_
   refine nc (al hs) ?_
   refine Aw _ (GM w0 n _ _ _ a0.items a1.items 39 [] (fun (e:Msg) (d:Msg)=>BE n e d) (fun e d r g q rows' j i=>by exact F5 w0 n _ _ _ e d _ g) _ f) (hv (al hs)) ?_
   refine nc (al hs) ?_
   refine IG ?_
   refine ne (al hs) c ?_
   clear c
   exact rt h hs b p
 ·replace h:=DI h hf4
  exact go (tg (a:=([4],()))) h (al (Ad hf4 hs)) u l o b p (q1 (HE w0 n)) (q1 c)
def Gq (n:Nat) (h:Stt) (b:Stt):Option Bool :=
 if (decide (h.number=b.number))&&(decide (h.time=b.time)) then
  (C5 n h.slots b.slots (fun (y:Slt) (x1:Slt)=>B8 n y x1)).bind fun q =>
  some (q)
 else
  some (false)
theorem QE (w0:World) (n:Nat) (B:Ao) (Rw:Au) (L:As) (a0:Stt) (a1:Stt) (r:Bool) (h:Gq n a0 a1=some r) :
  ACalls Tryz.prog w0 38 [.agg (Ak a0.number::(Ak a0.time::([.list (a0.slots.map A3) .none]))),.agg (Ak a1.number::(Ak a1.time::([.list (a1.slots.map A3) .none])))] ⟨B,Rw,L⟩ fun x st=>x = .val (.bool r)∧st=⟨B,Rw,L⟩:=by
 rw [Gq] at h
 refine hd [.tmp 4] Tryz.func38 Tryz.ntmps38 fun M0 W0 l e f b s j hs=>?_
 simp only [Az]
 refine rg [2,3] hs ?_
 apply Am;intro K2 c
 rcases Bool.eq_false_or_eq_true ((decide (a0.number=a1.number))&&(decide (a0.time=a1.time))) with hf3 | hf3
 ·replace h:=DK h hf3
  obtain ⟨q,g,h⟩:=bind_some h
  have hs:=Ad hf3 hs
  refine rk 2 [4] hs ?_
  refine Aw _ (Lx w0 n _ _ _ a0.slots a1.slots 67 [] (fun (d:Slt) (i:Slt)=>B8 n d i) (fun d i r o p rows' k m=>by exact MU w0 n _ _ _ d i _ o) _ g) (hv hs) ?_
  refine ne hs c ?_
  clear c
  exact rt h hs b j
 ·replace h:=DI h hf3
  exact go (tg (a:=([4],()))) h (Ad hf3 hs) l e f b j trivial (q1 c)
def GE (n:Nat) (q:Otc) (h:Otc):Option Bool :=
 (GL n q.requests h.requests).bind fun y =>
 if y then
  (H3 n q.fates h.fates).bind fun y29 =>
  if y29 then
   (GB n q.letters h.letters).bind fun b =>
   some (b)
  else
   some (false)
 else
  some (false)
def Eb (n:Nat) (y:Otc) (a1:Otc):Nat→Int→Option Bool
 | 0,_=>none
 | m+1,b =>
  if decide (b<(y.outputs.length:Int)) then
   (EA y.outputs b).bind fun h =>
   (EA a1.outputs b).bind fun q =>
   if !(decide (h.1=q.1)) then
    some (false)
   else
    (BE n h.2 q.2).bind fun y22 =>
    if !y22 then
     some (false)
    else
     if Ba (b+1) then
      (Eb n y a1 m) (b+1)
     else none
  else
   GE n y a1 
def DV (n:Nat) (h:Otc) (b:Otc):Option Bool :=
 (Gq n h.state b.state).bind fun q =>
 if (!q)||(!(decide ((h.outputs.length:Int)=(b.outputs.length:Int)))) then
  some (false)
 else
  Eb n h b n 0
theorem Nx (w0:World) (n:Nat) (B:Ao) (Rw:Au) (L:As) (a0:Otc) (a1:Otc) (r:Bool) (h:DV n a0 a1=some r) :
  ACalls Tryz.prog w0 18 [.agg ((Ak a0.state.number::(Ak a0.state.time::([.list (a0.state.slots.map A3) .none])))++(.list (a0.outputs.map ME) .none::(.list (a0.requests.map IZ) .none::(.list (a0.fates.map Jt) .none::([.list (a0.letters.map A9) .none]))))),.agg ((Ak a1.state.number::(Ak a1.state.time::([.list (a1.state.slots.map A3) .none])))++(.list (a1.outputs.map ME) .none::(.list (a1.requests.map IZ) .none::(.list (a1.fates.map Jt) .none::([.list (a1.letters.map A9) .none])))))] ⟨B,Rw,L⟩ fun x st=>x = .val (.bool r)∧st=⟨B,Rw,L⟩:=by
 rw [DV] at h
 refine hd [.tmp 4] Tryz.func18 Tryz.ntmps18 fun M0 W0 o g i c p d hs=>?_
 simp only [Az]
 refine rg [2,3] hs ?_
 apply Am;intro K2 j
 obtain ⟨q,k,h⟩:=bind_some h
 refine rc 2 [2,3,20] hs ?_;intro K3 f
 refine Aw _ (QE w0 n _ _ _ a0.state a1.state _ k) (hv hs) ?_
 refine ne hs f ?_
 clear f
 refine F6 h hs ?_ ?_<;>intro hs h
 ·refine rg [4] hs ?_
  exact rt h hs c d
 refine sk [2,3] hs j ?_
 clear j
 refine AB (fun e st=>Ck e st B Rw L [(2,true,.box B.length 0),(3,true,.box (B.length+1) 0)] [(Ak a0.state.number::(Ak a0.state.time::([.list (a0.state.slots.map A3) .none])))++(.list (a0.outputs.map ME) .none::(.list (a0.requests.map IZ) .none::(.list (a0.fates.map Jt) .none::([.list (a0.letters.map A9) .none])))),(Ak a1.state.number::(Ak a1.state.time::([.list (a1.state.slots.map A3) .none])))++(.list (a1.outputs.map ME) .none::(.list (a1.requests.map IZ) .none::(.list (a1.fates.map Jt) .none::([.list (a1.letters.map A9) .none]))))] [] (GE n a0 a1  = some r)) ?_ ?_
 ·intro K9 l
  refine rg [2,3,5] hs ?_
  apply Ar
  refine Ax (fun m e st=>∃ (b:Int),Ck e st B Rw L [(2,true,.box B.length 0),(3,true,.box (B.length+1) 0),(5,true,Ak b)] [(Ak a0.state.number::(Ak a0.state.time::([.list (a0.state.slots.map A3) .none])))++(.list (a0.outputs.map ME) .none::(.list (a0.requests.map IZ) .none::(.list (a0.fates.map Jt) .none::([.list (a0.letters.map A9) .none])))),(Ak a1.state.number::(Ak a1.state.time::([.list (a1.state.slots.map A3) .none])))++(.list (a1.outputs.map ME) .none::(.list (a1.requests.map IZ) .none::(.list (a1.fates.map Jt) .none::([.list (a1.letters.map A9) .none]))))] [] (Eb n a0 a1 m b=some r)) n ⟨0,([]),Rw,ef hs,ef hs,d,h⟩ ?_
  rintro ml11 e st ⟨b,Xl11,Rl11,rfl,rfl,d,h⟩ Ul11 Vl11
  cases ml11 with
  | zero=>cases h
  | succ ml11 =>
  rw [Eb] at h
  exact go (tg (a:=([2,3,5,25],([2,3,5],([29,2,3,5,56],[4],()),[29,2,3,5,56],([4],()),[2,3,5],[2,3,5],()),[2,3],()))) h hs o g i c d (q1 (F5 w0 n)) (q2 l (fun e s=>Vl11 ml11 e s (Nat.lt_succ_self _)))
 ·clear h;rintro e st ⟨Xk8,Rk8,rfl,rfl,d,h⟩
  rw [GE] at h
  exact go (tg (a:=((([4],()),[4],()),[4],()))) h hs o g i c d (q3 (Me w0 n) (Ot w0 n) (MD w0 n)) trivial
def Ec (b:Int × List Int):Option ((Int × List Int)) :=
 if b.2.length*8≤140737488355328 then
  some (b)
 else none
theorem KW (w0:World) (B:Ao) (Rw:Au) (L:As) (a0:Int × List Int) (r:(Int × List Int)) (h:Ec a0=some r) :
  ACalls Tryz.prog w0 87 [.agg (Ak a0.1::([.list (a0.2.map AU) .none]))] ⟨B,Rw,L⟩ fun x st=>x = .agg (Ak r.1::([.list (r.2.map AU) .none]))∧st=⟨B,Rw,L⟩:=by
 rw [Ec] at h
 refine hd [.cell 2 45] Tryz.func87 Tryz.ntmps87 fun M0 W0 e c d b g f hs=>?_
 simp only [Az]
 exact go (tg (a:=([1,2],[6,2],()))) h hs e c d b f (q1 (KI w0)) trivial
def EO (n:Nat) (b:Msg):Option Msg :=
 (Ec b.stamp).bind fun q =>
 if b.origins.length*8≤140737488355328 then
  (EZ n b.body).bind fun h =>
  some (Msg.mk q b.mass b.origins h)
 else none
theorem On (w0:World) (n:Nat) (B:Ao) (Rw:Au) (L:As) (a0:Msg) (r:Msg) (h:EO n a0=some r) :
  ACalls Tryz.prog w0 53 [.agg ((Ak a0.stamp.1::([.list (a0.stamp.2.map AU) .none]))++(Ak a0.mass::(.list (a0.origins.map AU) .none::(a0.body.cs))))] ⟨B,Rw,L⟩ fun x st=>x = .agg ((Ak r.stamp.1::([.list (r.stamp.2.map AU) .none]))++(Ak r.mass::(.list (r.origins.map AU) .none::(r.body.cs))))∧st=⟨B,Rw,L⟩:=by
 rw [EO] at h
 refine hd [.cell 2 51] Tryz.func53 Tryz.ntmps53 fun M0 W0 e c d b g f hs=>?_
 simp only [Az]
 exact go (tg (a:=([1,2],[12,2],()))) h hs e c d b f (q3 (KW w0) (KI w0) (Kp w0 n)) trivial
def Ed (n:Nat) (y:Slt) (b:List Msg) (h:List Vl):Option Slt :=
 (EZ n y.key).bind fun q =>
 some (Slt.mk q y.number y.time b h)
def BO (n:Nat) (y:Slt):Nat→(List Msg)→(List Vl)→Int→Option Slt
 | 0,_,_,_=>none
 | m+1,q,h,b =>
  if decide (b<(y.values.length:Int)) then
   (EA y.values b).bind fun x35 =>
   (EZ n x35).bind fun y36 =>
   if (h.length+1)*88≤140737488355328∧h.length+1≤4611686018427387904 then
    if Ba (b+1) then
     (BO n y m) q (h++([y36])) (b+1)
    else none
   else none
  else
   Ed n y q h
def EG (n:Nat) (h:Slt) (b:List Msg):Option Slt :=
 if 0≤(h.values.length:Int)∧(h.values.length:Int)*88≤140737488355328∧(h.values.length:Int)≤4611686018427387904 then
  BO n h n b ([]) 0
 else none
def BS (n:Nat) (q:Slt):Nat→(List Msg)→Int→Option Slt
 | 0,_,_=>none
 | m+1,h,b =>
  if decide (b<(q.items.length:Int)) then
   (EA q.items b).bind fun y =>
   (EO n y).bind fun y16 =>
   if (h.length+1)*152≤140737488355328∧h.length+1≤4611686018427387904 then
    if Ba (b+1) then
     (BS n q m) (h++([y16])) (b+1)
    else none
   else none
  else
   EG n q h
def D1 (n:Nat) (b:Slt):Option Slt :=
 if 0≤(b.items.length:Int)∧(b.items.length:Int)*152≤140737488355328∧(b.items.length:Int)≤4611686018427387904 then
  BS n b n ([]) 0
 else none
theorem MR (w0:World) (n:Nat) (B:Ao) (Rw:Au) (L:As) (a0:Slt) (r:Slt) (h:D1 n a0=some r) :
  ACalls Tryz.prog w0 84 [.agg ((a0.key.cs)++(Ak a0.number::(Ak a0.time::(.list (a0.items.map A9) .none::([.list (a0.values.map B1) .none])))))] ⟨B,Rw,L⟩ fun x st=>x = .agg ((r.key.cs)++(Ak r.number::(Ak r.time::(.list (r.items.map A9) .none::([.list (r.values.map B1) .none])))))∧st=⟨B,Rw,L⟩:=by
 rw [D1] at h
 refine hd [.cell 2 60] Tryz.func84 Tryz.ntmps84 fun M0 W0 D y z g U t hs=>?_
 simp only [Az]
 refine rg [1,2] hs ?_
 obtain ⟨Q,h⟩:=An h
 have t:=t.make 10 0
 refine rg [1,2,3] hs ?_
 refine AB (fun e st=>∃ (p:List Msg) (k:Ev.Own),Ck e st B Rw L [(1,true,.box B.length 0),(2,true,.box (B.length+1) 0),(3,true,.list (p.map A9) k)] [(a0.key.cs)++(Ak a0.number::(Ak a0.time::(.list (a0.items.map A9) .none::([.list (a0.values.map B1) .none])))),[Ak 0,Ak 0,Ak 0,.val (.string (⟨#[]⟩:ByteArray)),.list ([]) .full,.list ([]) .full,Ak 0,Ak 0,.list ([]) .full,.list ([]) .full]] [(10,p.length,k)] (EG n a0 p=some r)) ?_ ?_
 ·intro K7 G
  refine rg [1,2,3,14,15,16] hs ?_
  apply Ar
  refine Ax (fun m e st=>∃ (v:List Msg) (u:Int) (w:Ev.Own),Ck e st B Rw L [(1,true,.box B.length 0),(2,true,.box (B.length+1) 0),(3,true,.list (v.map A9) w),(14,true,.list (a0.items.map A9) .none),(15,true,Ak (a0.items.length:Int)),(16,true,Ak u)] [(a0.key.cs)++(Ak a0.number::(Ak a0.time::(.list (a0.items.map A9) .none::([.list (a0.values.map B1) .none])))),[Ak 0,Ak 0,Ak 0,.val (.string (⟨#[]⟩:ByteArray)),.list ([]) .full,.list ([]) .full,Ak 0,Ak 0,.list ([]) .full,.list ([]) .full]] [(10,v.length,w)] (BS n a0 m v u=some r)) n ⟨([]),0,((.row Rw.length)),([]),((Rw++[.grow 0 10])),ef hs,ef hs,Owns.of_eq (t) Ey,h⟩ ?_
  rintro ml9 e st ⟨v,u,w,Xl9,Rl9,rfl,rfl,t,h⟩ Ul9 Vl9
  cases ml9 with
  | zero=>cases h
  | succ ml9 =>
  rw [BS] at h
  exact go (tg (a:=([1,2,3,14,15,16,17],([1,2,3,14,15,16],[1,2,3,5,14,15,16],[1,2,3,14,15,16],[1,2,3,14,15,16],()),[1,2,3],()))) h hs D y z g t (q2 (ae Yc Qd) (On w0 n)) (q2 G (fun e s=>Vl9 ml9 e s (Nat.lt_succ_self _)))
 ·clear h;rintro e st ⟨p,k,Xk6,Rk6,rfl,rfl,t,h⟩
  rw [EG] at h
  have C:=t.unders
  simp only [List.mem_cons,List.not_mem_nil,or_false,forall_eq_or_imp,forall_eq] at C
  refine td D y z g t ?_
  obtain ⟨O,h⟩:=An h
  have t:=t.make 6 0
  refine rg [1,2,3,6] hs ?_
  refine AB (fun e st=>∃ (j:List Msg) (i:List Vl) (l:Ev.Own) (q:Ev.Own),Ck e st B Rw L [(1,true,.box B.length 0),(2,true,.box (B.length+1) 0),(3,true,.list (j.map A9) l),(6,true,.list (i.map B1) q)] [(a0.key.cs)++(Ak a0.number::(Ak a0.time::(.list (a0.items.map A9) .none::([.list (a0.values.map B1) .none])))),[Ak 0,Ak 0,Ak 0,.val (.string (⟨#[]⟩:ByteArray)),.list ([]) .full,.list ([]) .full,Ak 0,Ak 0,.list ([]) .full,.list ([]) .full]] [(10,j.length,l),(6,i.length,q)] (Ed n a0 j i=some r)) ?_ ?_
  ·intro K27 F
   refine rg [1,2,3,6,31,32,33] hs ?_
   apply Ar
   refine Ax (fun m e st=>∃ (f:List Msg) (b:List Vl) (o:Int) (d:Ev.Own) (c:Ev.Own),Ck e st B Rw L [(1,true,.box B.length 0),(2,true,.box (B.length+1) 0),(3,true,.list (f.map A9) d),(6,true,.list (b.map B1) c),(31,true,.list (a0.values.map B1) .none),(32,true,Ak (a0.values.length:Int)),(33,true,Ak o)] [(a0.key.cs)++(Ak a0.number::(Ak a0.time::(.list (a0.items.map A9) .none::([.list (a0.values.map B1) .none])))),[Ak 0,Ak 0,Ak 0,.val (.string (⟨#[]⟩:ByteArray)),.list ([]) .full,.list ([]) .full,Ak 0,Ak 0,.list ([]) .full,.list ([]) .full]] [(10,f.length,d),(6,b.length,c)] (BO n a0 m f b o=some r)) n ⟨p,([]),0,k,((.row Rk6.length)),([]),((Rk6++[.grow 0 6])),ef hs,ef hs,Owns.of_eq ((t).swap (List.Perm.swap _ _ _)) Ey,h⟩ ?_
   rintro ml29 e st ⟨f,b,o,d,c,Xl29,Rl29,rfl,rfl,t,h⟩ Ul29 Vl29
   cases ml29 with
   | zero=>cases h
   | succ ml29 =>
   rw [BO] at h
   have C:=t.unders
   simp only [List.mem_cons,List.not_mem_nil,or_false,forall_eq_or_imp,forall_eq] at C
   obtain ⟨K,H⟩:=C
   refine td D y z g t ?_
   refine rg [1,2,3,6,31,32,33,34] hs ?_
   apply Am;intro K31 E
   refine F6 h hs ?_ ?_<;>intro hs h
   rotate_left
   ·refine sx [1,2,3,6] hs F ?_
    exact ⟨f,b,d,c,([]),Rl29,ef hs,ef hs,Owns.of_eq (((t).swap (List.Perm.swap _ _ _)).swap (List.Perm.swap _ _ _)) Ey,h⟩
   exact go (tg (a:=([1,2,3,6,31,32,33],[1,2,3,6,8,31,32,33],[1,2,3,6,31,32,33],[1,2,3,6,31,32,33],()))) h hs D y z g t (q2 (ae Ny IJ) (Kp w0 n)) (q2 E (fun e s=>Vl29 ml29 e s (Nat.lt_succ_self _)))
  ·clear h;rintro e st ⟨j,i,l,q,Xk26,Rk26,rfl,rfl,t,h⟩
   rw [Ed] at h
   have C:=t.unders
   simp only [List.mem_cons,List.not_mem_nil,or_false,forall_eq_or_imp,forall_eq] at C
   obtain ⟨K,H⟩:=C
   refine td D y z g t ?_
   obtain ⟨J,N,h⟩:=bind_some h
   have hs:=Ad (Vl.cs_eqs a0.key) hs
   have hs:=Ad (Vl.cs_eqs J) hs
   exact go (tg (a:=([1,2],[2],()))) h hs D y z g t (q1 (Kp w0 n)) trivial
def Hi (n:Nat) (h:Stt) (b:List Slt):Option Stt :=
 some (Stt.mk h.number h.time b)
def Dy (n:Nat) (q:Stt):Nat→(List Slt)→Int→Option Stt
 | 0,_,_=>none
 | m+1,h,b =>
  if decide (b<(q.slots.length:Int)) then
   (EA q.slots b).bind fun y =>
   (D1 n y).bind fun y16 =>
   if (h.length+1)*152≤140737488355328∧h.length+1≤4611686018427387904 then
    if Ba (b+1) then
     (Dy n q m) (h++([y16])) (b+1)
    else none
   else none
  else
   Hi n q h
def Gi (n:Nat) (b:Stt):Option Stt :=
 if 0≤(b.slots.length:Int)∧(b.slots.length:Int)*152≤140737488355328∧(b.slots.length:Int)≤4611686018427387904 then
  Dy n b n ([]) 0
 else none
theorem QP (w0:World) (n:Nat) (B:Ao) (Rw:Au) (L:As) (a0:Stt) (r:Stt) (h:Gi n a0=some r) :
  ACalls Tryz.prog w0 50 [.agg (Ak a0.number::(Ak a0.time::([.list (a0.slots.map A3) .none])))] ⟨B,Rw,L⟩ fun x st=>x = .agg (Ak r.number::(Ak r.time::([.list (r.slots.map A3) .none])))∧st=⟨B,Rw,L⟩:=by
 rw [Gi] at h
 refine hd [.cell 2 37] Tryz.func50 Tryz.ntmps50 fun M0 W0 p k l i t j hs=>?_
 simp only [Az]
 refine rg [1,2] hs ?_
 obtain ⟨q,h⟩:=An h
 have j:=j.make 10 0
 refine rg [1,2,3] hs ?_
 refine AB (fun e st=>∃ (f:List Slt) (d:Ev.Own),Ck e st B Rw L [(1,true,.box B.length 0),(2,true,.box (B.length+1) 0),(3,true,.list (f.map A3) d)] [Ak a0.number::(Ak a0.time::([.list (a0.slots.map A3) .none])),[Ak 0,Ak 0,.list ([]) .full]] [(10,f.length,d)] (Hi n a0 f=some r)) ?_ ?_
 ·intro K7 o
  refine rg [1,2,3,11,12,13] hs ?_
  apply Ar
  refine Ax (fun m e st=>∃ (c:List Slt) (g:Int) (b:Ev.Own),Ck e st B Rw L [(1,true,.box B.length 0),(2,true,.box (B.length+1) 0),(3,true,.list (c.map A3) b),(11,true,.list (a0.slots.map A3) .none),(12,true,Ak (a0.slots.length:Int)),(13,true,Ak g)] [Ak a0.number::(Ak a0.time::([.list (a0.slots.map A3) .none])),[Ak 0,Ak 0,.list ([]) .full]] [(10,c.length,b)] (Dy n a0 m c g=some r)) n ⟨([]),0,((.row Rw.length)),([]),((Rw++[.grow 0 10])),ef hs,ef hs,Owns.of_eq (j) Ey,h⟩ ?_
  rintro ml9 e st ⟨c,g,b,Xl9,Rl9,rfl,rfl,j,h⟩ Ul9 Vl9
  cases ml9 with
  | zero=>cases h
  | succ ml9 =>
  rw [Dy] at h
  exact go (tg (a:=([1,2,3,11,12,13,14],([1,2,3,11,12,13],[1,2,3,5,11,12,13],[1,2,3,11,12,13],[1,2,3,11,12,13],()),[1,2,3],()))) h hs p k l i j (q2 (ae Zcj VX) (MR w0 n)) (q2 o (fun e s=>Vl9 ml9 e s (Nat.lt_succ_self _)))
 ·clear h;rintro e st ⟨f,d,Xk6,Rk6,rfl,rfl,j,h⟩
  rw [Hi] at h
  exact go (tg (a:=([1,2],[2],()))) h hs p k l i j trivial trivial
def Gk (n:Nat) (y:Nod) (q:Stt) (h:Inp) (b3_k4_21:Int) (b3_k4_22:List Int):Option Bld :=
 (Gi n q).bind fun b =>
 some (Bld.mk y h.time ((b3_k4_21,b3_k4_22)) 0 (Otc.mk b ([]) ([]) ([]) ([])))
def GY (n:Nat) (q:Nod) (h:Stt) (b:Inp):Option Bld :=
 if decide (b.kind=1) then
  Gk n q h b b.message.stamp.1 b.message.stamp.2
 else
  Gk n q h b b.stamp.1 b.stamp.2
theorem RN (w0:World) (n:Nat) (B:Ao) (Rw:Au) (L:As) (a0:Nod) (a1:Stt) (a2:Inp) (r:Bld) (h:GY n a0 a1 a2=some r) :
  ACalls Tryz.prog w0 32 [.agg (.val (.string a0.name)::(Ak a0.kind::(Ak a0.schema::(Ak a0.result::(Ak a0.number::(Ak a0.time::(Ak a0.limit::(.val (.string a0.text)::((a0.type.cs)++(.list (a0.types.map Ef) .none::(.list (a0.exprs.map Gy) .none::(.list (a0.mapping.map Bq) .none::(.list (a0.calls.map B2) .none::([.list (a0.next.map AU) .none])))))))))))))),.agg (Ak a1.number::(Ak a1.time::([.list (a1.slots.map A3) .none]))),.agg (Ak a2.kind::(Ak a2.time::((Ak a2.stamp.1::([.list (a2.stamp.2.map AU) .none]))++(((Ak a2.message.stamp.1::([.list (a2.message.stamp.2.map AU) .none]))++(Ak a2.message.mass::(.list (a2.message.origins.map AU) .none::(a2.message.body.cs))))++(Ak a2.call::(.val (.bool a2.undo)::(.val (.bool a2.done)::(a2.body.cs))))))))] ⟨B,Rw,L⟩ fun x st=>x = .box (B.length+3) 0∧st=⟨B++[.val (.string a0.name)::(Ak a0.kind::(Ak a0.schema::(Ak a0.result::(Ak a0.number::(Ak a0.time::(Ak a0.limit::(.val (.string a0.text)::((a0.type.cs)++(.list (a0.types.map Ef) .none::(.list (a0.exprs.map Gy) .none::(.list (a0.mapping.map Bq) .none::(.list (a0.calls.map B2) .none::([.list (a0.next.map AU) .none]))))))))))))),Ak a1.number::(Ak a1.time::([.list (a1.slots.map A3) .none])),Ak a2.kind::(Ak a2.time::((Ak a2.stamp.1::([.list (a2.stamp.2.map AU) .none]))++(((Ak a2.message.stamp.1::([.list (a2.message.stamp.2.map AU) .none]))++(Ak a2.message.mass::(.list (a2.message.origins.map AU) .none::(a2.message.body.cs))))++(Ak a2.call::(.val (.bool a2.undo)::(.val (.bool a2.done)::(a2.body.cs))))))),(.val (.string r.n.name)::(Ak r.n.kind::(Ak r.n.schema::(Ak r.n.result::(Ak r.n.number::(Ak r.n.time::(Ak r.n.limit::(.val (.string r.n.text)::((r.n.type.cs)++(.list (r.n.types.map Ef) .none::(.list (r.n.exprs.map Gy) .none::(.list (r.n.mapping.map Bq) .none::(.list (r.n.calls.map B2) .none::([.list (r.n.next.map AU) .none]))))))))))))))++(Ak r.now::((Ak r.under.1::([.list (r.under.2.map AU) .none]))++(Ak r.sent::((Ak r.out.state.number::(Ak r.out.state.time::([.list (r.out.state.slots.map A3) .none])))++(.list (r.out.outputs.map ME) .none::(.list (r.out.requests.map IZ) .none::(.list (r.out.fates.map Jt) .none::([.list (r.out.letters.map A9) .none]))))))))],Rw,L⟩:=by
 rw [GY] at h
 refine ACalls.finN 4 (DO (rs:=[.tmp 6]) Tryz.func32 rfl rfl Tryz.ntmps32 (A0 Tryz.func32 rfl (by decide)) (Nat.le_of_ble_eq_true rfl) ?_)
 intro M0 W0 o f g d p
 dsimp only at o f g d p
 simp only [Az]
 have k:=Owns.none Rw
 have hs:=Zh5
 refine rg [3,4,5] hs ?_
 have hs:=Ad (Ty.cs_eqs a0.type) hs
 refine rg [4,5,7] hs ?_
 refine AB (fun e st=>∃ (b:Int) (a:List Int) (c:AV),Ck e st B Rw L [(4,true,.box (B.length+1) 0),(7,true,.box (B.length+3) 0)] [.val (.string a0.name)::(Ak a0.kind::(Ak a0.schema::(Ak a0.result::(Ak a0.number::(Ak a0.time::(Ak a0.limit::(.val (.string a0.text)::((a0.type.cs)++(.list (a0.types.map Ef) .none::(.list (a0.exprs.map Gy) .none::(.list (a0.mapping.map Bq) .none::(.list (a0.calls.map B2) .none::([.list (a0.next.map AU) .none]))))))))))))),Ak a1.number::(Ak a1.time::([.list (a1.slots.map A3) .none])),Ak a2.kind::(Ak a2.time::((Ak a2.stamp.1::([.list (a2.stamp.2.map AU) .none]))++(((Ak a2.message.stamp.1::([.list (a2.message.stamp.2.map AU) .none]))++(Ak a2.message.mass::(.list (a2.message.origins.map AU) .none::(a2.message.body.cs))))++(Ak a2.call::(.val (.bool a2.undo)::(.val (.bool a2.done)::(a2.body.cs))))))),[.val (.string a0.name),Ak a0.kind,Ak a0.schema,Ak a0.result,Ak a0.number,Ak a0.time,Ak a0.limit,.val (.string a0.text),Ak a0.type.kind,Ak a0.type.min,Ak a0.type.max,Ak a0.type.scale,.list (a0.type.words.map JR) .none,.list (a0.type.elem.map Ef) .none,.list (a0.type.fields.map Gn) .none,.list (a0.types.map Ef) .none,.list (a0.exprs.map Gy) .none,.list (a0.mapping.map Bq) .none,.list (a0.calls.map B2) .none,.list (a0.next.map AU) .none,Ak a2.time,Ak b,c,Ak 0,Ak 0,Ak 0,.list ([]) .full,.list ([]) .full,.list ([]) .full,.list ([]) .full,.list ([]) .full]] [] (c.pub = .list (a.map AU) .none∧Gk n a0 a1 a2 b a=some r)) ?_ ?_
 ·intro K5 j
  refine rg [4,5,7,17] hs ?_
  refine F6 h hs ?_ ?_<;>intro hs h
  ·refine rl [4,7] hs j ?_
   exact ⟨a2.message.stamp.1,a2.message.stamp.2,(.list (a2.message.stamp.2.map AU) .none),([]),Rw,ef hs,ef hs,k,ef hs,h⟩
  refine sk [4,7] hs j ?_
  exact ⟨a2.stamp.1,a2.stamp.2,(.list (a2.stamp.2.map AU) .none),([]),Rw,ef hs,ef hs,k,ef hs,h⟩
 ·clear h;rintro e st ⟨b,a,c,Xk4,Rk4,rfl,rfl,k,m,h⟩
  rw [Gk] at h
  refine G9 (B.length+3) 22 (by first | rfl | (simp only [NF,Ln,LQ,Jz];rfl)) rfl m ?_;simp +decide only [go_sem,Nat.reduceAdd]
  show Da _ _ _ _ _ _ _ _ [(4,true,.box (B.length+1) 0),(7,true,.box (B.length+3) 0)] ⟨B++([.val (.string a0.name)::(Ak a0.kind::(Ak a0.schema::(Ak a0.result::(Ak a0.number::(Ak a0.time::(Ak a0.limit::(.val (.string a0.text)::((a0.type.cs)++(.list (a0.types.map Ef) .none::(.list (a0.exprs.map Gy) .none::(.list (a0.mapping.map Bq) .none::(.list (a0.calls.map B2) .none::([.list (a0.next.map AU) .none]))))))))))))),Ak a1.number::(Ak a1.time::([.list (a1.slots.map A3) .none])),Ak a2.kind::(Ak a2.time::((Ak a2.stamp.1::([.list (a2.stamp.2.map AU) .none]))++(((Ak a2.message.stamp.1::([.list (a2.message.stamp.2.map AU) .none]))++(Ak a2.message.mass::(.list (a2.message.origins.map AU) .none::(a2.message.body.cs))))++(Ak a2.call::(.val (.bool a2.undo)::(.val (.bool a2.done)::(a2.body.cs))))))),[.val (.string a0.name),Ak a0.kind,Ak a0.schema,Ak a0.result,Ak a0.number,Ak a0.time,Ak a0.limit,.val (.string a0.text),Ak a0.type.kind,Ak a0.type.min,Ak a0.type.max,Ak a0.type.scale,.list (a0.type.words.map JR) .none,.list (a0.type.elem.map Ef) .none,.list (a0.type.fields.map Gn) .none,.list (a0.types.map Ef) .none,.list (a0.exprs.map Gy) .none,.list (a0.mapping.map Bq) .none,.list (a0.calls.map B2) .none,.list (a0.next.map AU) .none,Ak a2.time,Ak b,.list (a.map AU) .none,Ak 0,Ak 0,Ak 0,.list ([]) .full,.list ([]) .full,.list ([]) .full,.list ([]) .full,.list ([]) .full]]++Xk4),Rk4,L⟩
  refine td o f g d k ?_
  obtain ⟨q,l,h⟩:=bind_some h
  refine rc 2 [7] hs ?_;intro K8 i
  refine Aw _ (QP w0 n _ _ _ a1 _ l) (hv hs) ?_
  refine ne hs i ?_
  clear i
  refine rg [6] hs ?_
  refine G9 (B.length+3) 27 (by first | rfl | (simp only [NF,Ln,LQ,Jz];rfl)) rfl rfl ?_;simp +decide only [go_sem,Nat.reduceAdd]
  refine G9 (B.length+3) 28 (by first | rfl | (simp only [NF,Ln,LQ,Jz];rfl)) rfl rfl ?_;simp +decide only [go_sem,Nat.reduceAdd]
  refine G9 (B.length+3) 29 (by first | rfl | (simp only [NF,Ln,LQ,Jz];rfl)) rfl rfl ?_;simp +decide only [go_sem,Nat.reduceAdd]
  refine G9 (B.length+3) 30 (by first | rfl | (simp only [NF,Ln,LQ,Jz];rfl)) rfl rfl ?_;simp +decide only [go_sem,Nat.reduceAdd]
  apply BB;simp +decide only [go_sem,Nat.reduceAdd,Ty.cs_eqs a0.type]
  have hgt:=Option.some.inj h;subst hgt
  refine Zlr (by rfl) d k ?_ ?_ ?_
  ·(simp +decide only [go_sem,Nat.reduceAdd,Ty.cs_eqs a0.type])<;>(try (repeat' apply Ad))<;>first | omega | assumption
  ·simp +decide only [go_sem,Nat.reduceAdd];omega
  refine ⟨rfl,?_⟩
  first | rfl | (simp +decide only [go_sem,Nat.reduceAdd,Ty.cs_eqs a0.type];done) | (simp +decide only [go_sem,Nat.reduceAdd,Vl.cs,Ty.cs,Ty.cs_eqs a0.type];done)
def Dc (n:Nat)  : Option Unit :=
 some (())
def Bv (n:Nat) (y:Bld) (q:Inp):Nat→Int→Option Unit
 | 0,_=>none
 | m+1,b =>
  if decide (b<(y.out.state.slots.length:Int)) then
   (EA y.out.state.slots b).bind fun h =>
   if (decide ((JW q.call h.key.int)<0))||(decide ((y.n.calls.length:Int)≤(JW q.call h.key.int))) then
    if Ba (b+1) then
     (Bv n y q m) (b+1)
    else none
   else
    if (!q.undo)&&(decide (h.number=(JW q.call h.key.int))) then
     none
    else
     if q.undo then
      if Ba ((y.n.calls.length:Int)+(JW q.call h.key.int)) then
       if decide (h.number=((y.n.calls.length:Int)+(JW q.call h.key.int))) then
        none
       else
        Dc n 
      else none
     else
      Dc n 
  else
   some (())
def D3 (n:Nat) (h:Bld) (b:Inp):Option Unit :=
 Bv n h b n 0
theorem KN (w0:World) (n:Nat) (B:Ao) (Rw:Au) (L:As) (la0:Nat) (a0:Bld) (hla0:B[la0]? = some ((.val (.string a0.n.name)::(Ak a0.n.kind::(Ak a0.n.schema::(Ak a0.n.result::(Ak a0.n.number::(Ak a0.n.time::(Ak a0.n.limit::(.val (.string a0.n.text)::((a0.n.type.cs)++(.list (a0.n.types.map Ef) .none::(.list (a0.n.exprs.map Gy) .none::(.list (a0.n.mapping.map Bq) .none::(.list (a0.n.calls.map B2) .none::([.list (a0.n.next.map AU) .none]))))))))))))))++(Ak a0.now::((Ak a0.under.1::([.list (a0.under.2.map AU) .none]))++(Ak a0.sent::((Ak a0.out.state.number::(Ak a0.out.state.time::([.list (a0.out.state.slots.map A3) .none])))++(.list (a0.out.outputs.map ME) .none::(.list (a0.out.requests.map IZ) .none::(.list (a0.out.fates.map Jt) .none::([.list (a0.out.letters.map A9) .none])))))))))) (a1:Inp) (r:Unit) (h:D3 n a0 a1=some r) :
  ACalls Tryz.prog w0 34 [.box la0 0,.agg (Ak a1.kind::(Ak a1.time::((Ak a1.stamp.1::([.list (a1.stamp.2.map AU) .none]))++(((Ak a1.message.stamp.1::([.list (a1.message.stamp.2.map AU) .none]))++(Ak a1.message.mass::(.list (a1.message.origins.map AU) .none::(a1.message.body.cs))))++(Ak a1.call::(.val (.bool a1.undo)::(.val (.bool a1.done)::(a1.body.cs))))))))] ⟨B,Rw,L⟩ fun x st=>x = .tup []∧st=⟨B,Rw,L⟩:=by
 rw [D3] at h
 refine hd [] Tryz.func34 Tryz.ntmps34 fun M0 W0 y i j b E g hs=>?_
 simp only [Az]
 have w:=(Aj.1 hla0).1
 have hs:=Ad (BZ hla0) hs
 refine rg [0,3] hs ?_
 refine rg [0,3,4] hs ?_
 refine rg [0,3,4,19,20,21] hs ?_
 apply Ar
 refine Ax (fun m e st=>∃ (c:Int),Ck e st B Rw L [(0,true,.box la0 0),(3,true,.box B.length 0),(4,true,Ak (a0.n.calls.length:Int)),(19,true,.list (a0.out.state.slots.map A3) .none),(20,true,Ak (a0.out.state.slots.length:Int)),(21,true,Ak c)] [Ak a1.kind::(Ak a1.time::((Ak a1.stamp.1::([.list (a1.stamp.2.map AU) .none]))++(((Ak a1.message.stamp.1::([.list (a1.message.stamp.2.map AU) .none]))++(Ak a1.message.mass::(.list (a1.message.origins.map AU) .none::(a1.message.body.cs))))++(Ak a1.call::(.val (.bool a1.undo)::(.val (.bool a1.done)::(a1.body.cs)))))))] [] (Bv n a0 a1 m c=some r)) n ⟨0,([]),Rw,ef hs,ef hs,g,h⟩ ?_
 rintro ml4 e st ⟨c,Xl4,Rl4,rfl,rfl,g,h⟩ Ul4 Vl4
 cases ml4 with
 | zero=>cases h
 | succ ml4 =>
 rw [Bv] at h
 refine td y i j b g ?_
 refine rg [0,3,4,19,20,21,22] hs ?_
 apply Am;intro K6 v
 refine F6 h hs ?_ ?_<;>intro hs h
 rotate_left
 ·have q:=hs.1
  refine Zl (DD [] _) ?_ (EW _ _)
  apply Iy;simp +decide only [go_sem,Nat.reduceAdd]
  (repeat' with_reducible apply Ad)<;>first | exact cl | skip
  have hgt:=Option.some.inj h;subst hgt
  first | refine Rz b rfl g.pre ev ⟨?_,rfl⟩ | refine Tq b rfl g.pre ev ⟨?_,rfl⟩
  first | rfl | (simp +decide only [go_sem,Nat.reduceAdd,BZ hla0,q];done) | (simp +decide only [go_sem,Nat.reduceAdd,Vl.cs,Ty.cs,BZ hla0,q];done)
 have q:=hs.1
 refine sk [0,3,4,19,20,21] hs v ?_
 clear v
 apply Am;intro K8 C
 apply Ar
 obtain ⟨d,u,h⟩:=bind_some h
 obtain ⟨z,D,o⟩:=Fq u
 have p:=Fe (f:=A3) o
 have hs:=Ad p hs
 refine rg [0,3,4,6,19,20,21] hs ?_
 apply Am;intro K11 l
 refine QD 900000 (by decide) ?_
 refine rl [0,3,4,6,7,19,20,21] hs l ?_
 clear l
 apply Am;intro K12 k
 refine rg [0,3,4,6,7,19,20,21,37] hs ?_
 refine F6 h hs ?_ ?_<;>intro hs h
 ·exact go (tg (a:=([0,3,4,19,20,21],[0,3,4,19,20,21],()))) h hs y i j b g trivial (q2 C (fun e s=>Vl4 ml4 e s (Nat.lt_succ_self _)))
 refine sk [0,3,4,6,7] hs k ?_
 clear k
 refine AB (fun e st=>Ck e st B Rw L [] [Ak a1.kind::(Ak a1.time::((Ak a1.stamp.1::([.list (a1.stamp.2.map AU) .none]))++(((Ak a1.message.stamp.1::([.list (a1.message.stamp.2.map AU) .none]))++(Ak a1.message.mass::(.list (a1.message.origins.map AU) .none::(a1.message.body.cs))))++(Ak a1.call::(.val (.bool a1.undo)::(.val (.bool a1.done)::(a1.body.cs))))))),(d.key.cs)++(Ak d.number::(Ak d.time::(.list (d.items.map A9) .none::([.list (d.values.map B1) .none]))))] [] (Dc n  = some r)) ?_ ?_
 ·intro K18 t
  exact go (tg (a:=([0,3,4,6,7,38],((),()),([0,6,52],((),()),[],()),[0,6,52],[],()))) h hs y i j b g trivial (q1 t)
 ·clear h;rintro e st ⟨Xk17,Rk17,rfl,rfl,g,h⟩
  rw [Dc] at h
  refine td y i j b g ?_
  exact rt h hs b g
def Jq (n:Nat) (b:Bld):Option Otc :=
 some (b.out)
def Hh (n:Nat) (y:Nod) (q:Stt) (b:Inp):Option Otc :=
 if b.kind=3 then
  (GY n y q b).bind fun h =>
  (D3 n h b).bind fun y15 =>
  Jq n h 
 else none
theorem RL (w0:World) (n:Nat) (B:Ao) (Rw:Au) (L:As) (a0:Nod) (a1:Stt) (a2:Inp) (r:Otc) (h:Hh n a0 a1 a2=some r) :
  ACalls Tryz.prog w0 15 [.agg (.val (.string a0.name)::(Ak a0.kind::(Ak a0.schema::(Ak a0.result::(Ak a0.number::(Ak a0.time::(Ak a0.limit::(.val (.string a0.text)::((a0.type.cs)++(.list (a0.types.map Ef) .none::(.list (a0.exprs.map Gy) .none::(.list (a0.mapping.map Bq) .none::(.list (a0.calls.map B2) .none::([.list (a0.next.map AU) .none])))))))))))))),.agg (Ak a1.number::(Ak a1.time::([.list (a1.slots.map A3) .none]))),.agg (Ak a2.kind::(Ak a2.time::((Ak a2.stamp.1::([.list (a2.stamp.2.map AU) .none]))++(((Ak a2.message.stamp.1::([.list (a2.message.stamp.2.map AU) .none]))++(Ak a2.message.mass::(.list (a2.message.origins.map AU) .none::(a2.message.body.cs))))++(Ak a2.call::(.val (.bool a2.undo)::(.val (.bool a2.done)::(a2.body.cs))))))))] ⟨B,Rw,L⟩ fun x st=>x = .agg ((Ak r.state.number::(Ak r.state.time::([.list (r.state.slots.map A3) .none])))++(.list (r.outputs.map ME) .none::(.list (r.requests.map IZ) .none::(.list (r.fates.map Jt) .none::([.list (r.letters.map A9) .none])))))∧st=⟨B,Rw,L⟩:=by
 rw [Hh] at h
 refine hd [.cell 6 70] Tryz.func15 Tryz.ntmps15 fun M0 W0 p i l b s f hs=>?_
 simp only [Az]
 obtain ⟨k,h⟩:=An h
 have m:(decide (a2.kind=1))=false:=Af (by omega)
 have j:(decide (a2.kind=3))=true:=Ag k
 have hs:=Ad m hs
 have hs:=Ad j hs
 refine rg [3,4,5,6] hs ?_
 obtain ⟨a,g,h⟩:=bind_some h
 refine rc 2 [5,6,7] hs ?_;intro K5 c
 refine RA _ (RN w0 n _ _ _ a0 a1 a2 _ g) (hv hs) ?_;rintro _ _ ⟨rfl,rfl⟩
 refine ne hs c ?_
 clear c
 refine AB (fun e st=>Ck e st B Rw L [(6,true,.box (B.length+3) 0),(7,true,.box (B.length+7) 0)] [.val (.string a0.name)::(Ak a0.kind::(Ak a0.schema::(Ak a0.result::(Ak a0.number::(Ak a0.time::(Ak a0.limit::(.val (.string a0.text)::((a0.type.cs)++(.list (a0.types.map Ef) .none::(.list (a0.exprs.map Gy) .none::(.list (a0.mapping.map Bq) .none::(.list (a0.calls.map B2) .none::([.list (a0.next.map AU) .none]))))))))))))),Ak a1.number::(Ak a1.time::([.list (a1.slots.map A3) .none])),Ak a2.kind::(Ak a2.time::((Ak a2.stamp.1::([.list (a2.stamp.2.map AU) .none]))++(((Ak a2.message.stamp.1::([.list (a2.message.stamp.2.map AU) .none]))++(Ak a2.message.mass::(.list (a2.message.origins.map AU) .none::(a2.message.body.cs))))++(Ak a2.call::(.val (.bool a2.undo)::(.val (.bool a2.done)::(a2.body.cs))))))),[Ak 0,Ak 0,.list ([]) .full,.list ([]) .full,.list ([]) .full,.list ([]) .full,.list ([]) .full],.val (.string a0.name)::(Ak a0.kind::(Ak a0.schema::(Ak a0.result::(Ak a0.number::(Ak a0.time::(Ak a0.limit::(.val (.string a0.text)::((a0.type.cs)++(.list (a0.types.map Ef) .none::(.list (a0.exprs.map Gy) .none::(.list (a0.mapping.map Bq) .none::(.list (a0.calls.map B2) .none::([.list (a0.next.map AU) .none]))))))))))))),Ak a1.number::(Ak a1.time::([.list (a1.slots.map A3) .none])),Ak a2.kind::(Ak a2.time::((Ak a2.stamp.1::([.list (a2.stamp.2.map AU) .none]))++(((Ak a2.message.stamp.1::([.list (a2.message.stamp.2.map AU) .none]))++(Ak a2.message.mass::(.list (a2.message.origins.map AU) .none::(a2.message.body.cs))))++(Ak a2.call::(.val (.bool a2.undo)::(.val (.bool a2.done)::(a2.body.cs))))))),(.val (.string a.n.name)::(Ak a.n.kind::(Ak a.n.schema::(Ak a.n.result::(Ak a.n.number::(Ak a.n.time::(Ak a.n.limit::(.val (.string a.n.text)::((a.n.type.cs)++(.list (a.n.types.map Ef) .none::(.list (a.n.exprs.map Gy) .none::(.list (a.n.mapping.map Bq) .none::(.list (a.n.calls.map B2) .none::([.list (a.n.next.map AU) .none]))))))))))))))++(Ak a.now::((Ak a.under.1::([.list (a.under.2.map AU) .none]))++(Ak a.sent::((Ak a.out.state.number::(Ak a.out.state.time::([.list (a.out.state.slots.map A3) .none])))++(.list (a.out.outputs.map ME) .none::(.list (a.out.requests.map IZ) .none::(.list (a.out.fates.map Jt) .none::([.list (a.out.letters.map A9) .none]))))))))] [] (Jq n a  = some r)) ?_ ?_
 ·intro K9 o
  refine rg [5,6,7,13] hs ?_
  apply Ar
  refine rg [5,6,7,13,14] hs ?_
  refine BN false ev (ef hs) (fun hb12=>by cases hb12) (fun hb12=>?_)
  refine rg [5,6,7,13,20] hs ?_
  refine BN true ev (ef hs) (fun hb14=>?_) (fun hb14=>by cases hb14)
  obtain ⟨q,d,h⟩:=bind_some h
  refine rk 2 [6,7] hs ?_
  refine Aw _ (KN w0 n _ _ _ (B.length+7) a (ef hs) a2 _ d) (hv hs) ?_
  refine ne hs o ?_
  exact ⟨([]),Rw,ef hs,ef hs,f,h⟩
 ·clear h;rintro e st ⟨Xk8,Rk8,rfl,rfl,f,h⟩
  rw [Jq] at h
  refine td p i l b f ?_
  refine rg [6] hs ?_
  exact rt h hs b f
def Eo (n:Nat) (b:(Nod × Stt × Inp)):Option Bool :=
 (Hh n b.1 b.2.1 (Inp.mk 3 b.2.2.time b.2.2.stamp b.2.2.message b.2.2.call b.2.2.undo b.2.2.done b.2.2.body)).bind fun h =>
 (DV n h (Otc.mk b.2.1 ([]) ([]) ([]) ([]))).bind fun q =>
 some (q)
def BH (n:Nat) (y:(Nod × Stt × Inp)) (h:(List (Int × ByteArray × Bool))):Nat→Int→Option Bool
 | 0,_=>none
 | m+1,b =>
  if decide (b<(h.length:Int)) then
   (EA h b).bind fun q =>
   if decide (q.1=y.2.2.call) then
    if q.2.2 == y.2.2.undo then
     some (true)
    else
     if Ba (b+1) then
      (BH n y h m) (b+1)
     else none
   else
    if Ba (b+1) then
     (BH n y h m) (b+1)
    else none
  else
   Eo n y 
def G2 (n:Nat) (y:Nod) (q:Stt) (a2:Inp):Option Bool :=
 (Gj n y q a2).bind fun b =>
 (HW n b.1 b.2.1).bind fun y7 =>
 if !(decide (y7=0)) then
  some (true)
 else
  (Je n b.1 b.2.1).bind fun h =>
  BH n b h n 0
theorem PP (w0:World) (hE:Zjs w0) (hM:YB w0) (hP:Pow10 w0) (hT:Lib.Utf8Tabs 1 2 w0) (n:Nat) (B:Ao) (Rw:Au) (L:As) (a0:Nod) (a1:Stt) (a2:Inp) (r:Bool) (h:G2 n a0 a1 a2=some r) :
  ACalls Tryz.prog w0 6 [.agg (.val (.string a0.name)::(Ak a0.kind::(Ak a0.schema::(Ak a0.result::(Ak a0.number::(Ak a0.time::(Ak a0.limit::(.val (.string a0.text)::((a0.type.cs)++(.list (a0.types.map Ef) .none::(.list (a0.exprs.map Gy) .none::(.list (a0.mapping.map Bq) .none::(.list (a0.calls.map B2) .none::([.list (a0.next.map AU) .none])))))))))))))),.agg (Ak a1.number::(Ak a1.time::([.list (a1.slots.map A3) .none]))),.agg (Ak a2.kind::(Ak a2.time::((Ak a2.stamp.1::([.list (a2.stamp.2.map AU) .none]))++(((Ak a2.message.stamp.1::([.list (a2.message.stamp.2.map AU) .none]))++(Ak a2.message.mass::(.list (a2.message.origins.map AU) .none::(a2.message.body.cs))))++(Ak a2.call::(.val (.bool a2.undo)::(.val (.bool a2.done)::(a2.body.cs))))))))] ⟨B,Rw,L⟩ fun x st=>x = .val (.bool r)∧st=⟨B,Rw,L⟩:=by
 rw [G2] at h
 refine hd [.tmp 6] Tryz.func6 Tryz.ntmps6 fun M0 W0 v g i d z j hs=>?_
 simp only [Az]
 refine rg [3,4,5] hs ?_
 obtain ⟨b,w,h⟩:=bind_some h
 refine rc 2 [3,4,5] hs ?_;intro K2 p
 refine Aw _ (Rk w0 n _ _ _ a0 a1 a2 _ w) (hv hs) ?_
 refine ne hs p ?_
 clear p
 have hs:=Ad (Vl.cs_eqs b.2.2.message.body) hs
 have hs:=Ad (Vl.cs_eqs b.2.2.body) hs
 refine rg [3,4,5] hs ?_
 apply Am;intro K5 t
 obtain ⟨y,u,h⟩:=bind_some h
 refine rc 3 [3,4,5,25] hs ?_;intro K6 q
 refine Aw _ (WV w0 _ _ _ hE hM hP hT) (hv hs) ?_
 refine nc hs ?_
 refine Aw _ (Us w0 hT n _ _ _ b.1 b.2.1 _ u) (hv hs) ?_
 refine ne hs q ?_
 clear q
 refine F6 h hs ?_ ?_<;>intro hs h
 ·exact go (tg (a:=([6],()))) h hs v g i d j (q1 (WV w0)) trivial
 refine sk [3,4,5] hs t ?_
 clear t
 obtain ⟨l,k,h⟩:=bind_some h
 refine rc 2 [3,4,5,7] hs ?_;intro K10 f
 refine Aw _ (U3 w0 hT n _ _ _ b.1 b.2.1 _ k) (hv hs) ?_
 refine ne hs f ?_
 clear f
 refine AB (fun e st=>Ck e st B Rw L [(3,true,.box B.length 0),(4,true,.box (B.length+1) 0),(5,true,.box (B.length+2) 0)] [.val (.string b.1.name)::(Ak b.1.kind::(Ak b.1.schema::(Ak b.1.result::(Ak b.1.number::(Ak b.1.time::(Ak b.1.limit::(.val (.string b.1.text)::((b.1.type.cs)++(.list (b.1.types.map Ef) .none::(.list (b.1.exprs.map Gy) .none::(.list (b.1.mapping.map Bq) .none::(.list (b.1.calls.map B2) .none::([.list (b.1.next.map AU) .none]))))))))))))),Ak b.2.1.number::(Ak b.2.1.time::([.list (b.2.1.slots.map A3) .none])),[Ak 3,Ak b.2.2.time,Ak b.2.2.stamp.1,.list (b.2.2.stamp.2.map AU) .none,Ak b.2.2.message.stamp.1,.list (b.2.2.message.stamp.2.map AU) .none,Ak b.2.2.message.mass,.list (b.2.2.message.origins.map AU) .none,Ak b.2.2.message.body.kind,Ak b.2.2.message.body.int,Ak b.2.2.message.body.scale,.val (.string b.2.2.message.body.text),.list (b.2.2.message.body.list.map B1) .none,.list (b.2.2.message.body.fields.map IC) .none,Ak b.2.2.call,.val (.bool b.2.2.undo),.val (.bool b.2.2.done),Ak b.2.2.body.kind,Ak b.2.2.body.int,Ak b.2.2.body.scale,.val (.string b.2.2.body.text),.list (b.2.2.body.list.map B1) .none,.list (b.2.2.body.fields.map IC) .none]] [] (Eo n b  = some r)) ?_ ?_
 ·intro K14 o
  refine rg [3,4,5,7,8] hs ?_
  apply Ar
  refine Ax (fun m e st=>∃ (c:Int),Ck e st B Rw L [(3,true,.box B.length 0),(4,true,.box (B.length+1) 0),(5,true,.box (B.length+2) 0),(7,true,.list (l.map R9) .none),(8,true,Ak c)] [.val (.string b.1.name)::(Ak b.1.kind::(Ak b.1.schema::(Ak b.1.result::(Ak b.1.number::(Ak b.1.time::(Ak b.1.limit::(.val (.string b.1.text)::((b.1.type.cs)++(.list (b.1.types.map Ef) .none::(.list (b.1.exprs.map Gy) .none::(.list (b.1.mapping.map Bq) .none::(.list (b.1.calls.map B2) .none::([.list (b.1.next.map AU) .none]))))))))))))),Ak b.2.1.number::(Ak b.2.1.time::([.list (b.2.1.slots.map A3) .none])),[Ak 3,Ak b.2.2.time,Ak b.2.2.stamp.1,.list (b.2.2.stamp.2.map AU) .none,Ak b.2.2.message.stamp.1,.list (b.2.2.message.stamp.2.map AU) .none,Ak b.2.2.message.mass,.list (b.2.2.message.origins.map AU) .none,Ak b.2.2.message.body.kind,Ak b.2.2.message.body.int,Ak b.2.2.message.body.scale,.val (.string b.2.2.message.body.text),.list (b.2.2.message.body.list.map B1) .none,.list (b.2.2.message.body.fields.map IC) .none,Ak b.2.2.call,.val (.bool b.2.2.undo),.val (.bool b.2.2.done),Ak b.2.2.body.kind,Ak b.2.2.body.int,Ak b.2.2.body.scale,.val (.string b.2.2.body.text),.list (b.2.2.body.list.map B1) .none,.list (b.2.2.body.fields.map IC) .none]] [] (BH n b l m c=some r)) n ⟨0,([]),Rw,ef hs,ef hs,j,h⟩ ?_
  rintro ml16 e st ⟨c,Xl16,Rl16,rfl,rfl,j,h⟩ Ul16 Vl16
  cases ml16 with
  | zero=>cases h
  | succ ml16 =>
  rw [BH] at h
  exact go (tg (a:=([3,4,5,7,8,33],([3,4,5,7,8],([18,3,4,5,7,8,53],([6],()),[3,4,5,7,8],[3,4,5,7,8],()),[18,3,4,5,7,8,53],[3,4,5,7,8],[3,4,5,7,8],()),[3,4,5],()))) h hs v g i d j trivial (q2 o (fun e s=>Vl16 ml16 e s (Nat.lt_succ_self _)))
 ·clear h;rintro e st ⟨Xk13,Rk13,rfl,rfl,j,h⟩
  rw [Eo] at h
  exact go (tg (a:=([8,6],()))) h hs v g i d j (q2 (RL w0 n) (Nx w0 n)) trivial
theorem YK (n:Nat) (a:List Int) (hl:a.length≤1000):∀ (k m i:Nat),i+k=a.length→k<m→CG n a a m i=some true
 | k,0,i,_,h=>absurd h (Nat.not_lt_zero _)
 | 0,m+1,i,hi,_=>by rw [CG,AX,Ac];rfl
 | k+1,m+1,i,hi,hm=>by
  have b:i<a.length:=by omega
  rw [CG,AX,Ag b,Ah rfl,AH b,Ae,Ae,Ag rfl,Ai (by decide),Ah (AG (by omega))]
  exact YK n a hl k m (i+1) (by omega) (by omega)
theorem ZbB (n:Nat) (hn:10000≤n) (a:List Int) (hl:a.length≤1000):Fp n a a=some true:=by
 rw [Fp,Ag rfl,Ai (by decide)]
 exact YK n a hl a.length n 0 (by omega) (by omega)
theorem Qz (n:Nat) (hn:1000000≤n) (v:Vl) (h:v.size≤22621):Ep n v v=some true:=by
 obtain ⟨c,e,q⟩:=ZaB n v v (by omega) (by omega)
 rw [e,q.2 rfl]
theorem X1 (n:Nat) (hn:1000000≤n) (m:Msg) (h:DJ m):BE n m m=some true:=by
 rw [BE,Zm n (by omega) _ _ (by have:=h.1;omega),Ae,Ag rfl,Ag rfl,Bool.and_self,Ah rfl,ZbB n (by omega) _ (by have:=h.2.1;omega),Ae,Ah rfl,Qz n hn _ h.2.2.1]
 rfl
theorem YZ (n:Nat) (a:List Vl) (f:Vl→Vl→Option Bool) (hf:∀ x∈a,f x x=some true) (hl:a.length≤1000):∀ (k m i:Nat),i+k=a.length→k<m→Bm n a a f m i=some true
 | k,0,i,_,h=>absurd h (Nat.not_lt_zero _)
 | 0,m+1,i,hi,_=>by rw [Bm,AX,Ac];rfl
 | k+1,m+1,i,hi,hm=>by
  have b:i<a.length:=by omega
  rw [Bm,AX,Ag b,Ah rfl,AH b,Ae,Ae,hf _ (List.getElem_mem b),Ae,Ai (by decide),Ah (AG (by omega))]
  exact YZ n a f hf hl k m (i+1) (by omega) (by omega)
theorem YX (n:Nat) (a:List Msg) (f:Msg→Msg→Option Bool) (hf:∀ x∈a,f x x=some true) (hl:a.length≤1000):∀ (k m i:Nat),i+k=a.length→k<m→A8 n a a f m i=some true
 | k,0,i,_,h=>absurd h (Nat.not_lt_zero _)
 | 0,m+1,i,hi,_=>by rw [A8,AX,Ac];rfl
 | k+1,m+1,i,hi,hm=>by
  have b:i<a.length:=by omega
  rw [A8,AX,Ag b,Ah rfl,AH b,Ae,Ae,hf _ (List.getElem_mem b),Ae,Ai (by decide),Ah (AG (by omega))]
  exact YX n a f hf hl k m (i+1) (by omega) (by omega)
theorem Y9 (n:Nat) (a:List Slt) (f:Slt→Slt→Option Bool) (hf:∀ x∈a,f x x=some true) (hl:a.length≤1000):∀ (k m i:Nat),i+k=a.length→k<m→Bz n a a f m i=some true
 | k,0,i,_,h=>absurd h (Nat.not_lt_zero _)
 | 0,m+1,i,hi,_=>by rw [Bz,AX,Ac];rfl
 | k+1,m+1,i,hi,hm=>by
  have b:i<a.length:=by omega
  rw [Bz,AX,Ag b,Ah rfl,AH b,Ae,Ae,hf _ (List.getElem_mem b),Ae,Ai (by decide),Ah (AG (by omega))]
  exact Y9 n a f hf hl k m (i+1) (by omega) (by omega)
theorem Wg (n:Nat) (hn:1000000≤n) (x:Slt) (h:HA x):B8 n x x=some true:=by
 obtain ⟨b,⟨f,e⟩,g,d⟩:=h
 have e1:Cb n x.items x.items (fun (x0:Msg) (x1:Msg)=>BE n x0 x1)=some true:=by
  rw [Cb,Ag rfl,Ai (by decide)]
  exact YX n _ _ (fun m a=>X1 n hn m (e m a)) (by omega) x.items.length n 0 (by omega) (by omega)
 have c:CH n x.values x.values (fun (x0:Vl) (x1:Vl)=>Ep n x0 x1)=some true:=by
  rw [CH,Ag rfl,Ai (by decide)]
  exact YZ n _ _ (fun m a=>Qz n hn m (d m a).1) (by omega) x.values.length n 0 (by omega) (by omega)
 rw [B8,Qz n hn _ b.1,Ae,Ag rfl,Ag rfl,Bool.and_self,Bool.and_self,Ah rfl,e1,Ae,Ah rfl,c]
 rfl
theorem UA (n:Nat) (hn:1000000≤n) (s:Stt) (h:GK s):Gq n s s=some true:=by
 have b:=h.1
 have e1:C5 n s.slots s.slots (fun (x0:Slt) (x1:Slt)=>B8 n x0 x1)=some true:=by
  rw [C5,Ag rfl,Ai (by decide)]
  exact Y9 n _ _ (fun m a=>Wg n hn m (h.2 m a)) (by omega) s.slots.length n 0 (by omega) (by omega)
 rw [Gq,Ag rfl,Ag rfl,Bool.and_self,Ah rfl,e1]
 rfl
theorem Zat (n:Nat) (hn:1000000≤n) (s:Stt) (h:GK s):DV n (Otc.mk s [] [] [] []) (Otc.mk s [] [] [] [])=some true:=by
 obtain ⟨n,rfl⟩:∃ q,n=q+1:=⟨n-1,by omega⟩
 rw [DV,UA _ hn s h]
 rfl
theorem Za4 (n:Nat) (hn:1000000≤n) (m:Msg) (h:DJ m):EO n m=some m:=by
 have a:=h.1
 have b:=h.2.1
 have c:=h.2.2.1
 rw [EO,Ec,Ab,Ae,Ab,ON n _ (by omega) (by omega)]
 rfl
theorem ZcG (n:Nat) (hn:1000000≤n) (a:Slt) (ha:HA a) (x:List Msg):∀ (k m i:Nat),i+k=a.values.length→k<m→BO n a m x (a.values.take i) i=some (Slt.mk a.key a.number a.time x a.values)
 | k,0,i,_,h=>absurd h (Nat.not_lt_zero _)
 | 0,m+1,i,hi,_=>by
  rw [BO,AX,Ac,Ai (by decide),Ed,ON n _ (by have:=ha.1.1;omega) (by have:=ha.1.1;omega),Ae,List.take_of_length_le (by omega)]
 | k+1,m+1,i,hi,hm=>by
  have b:i<a.values.length:=by omega
  have d:=ha.2.2.1
  obtain ⟨c,e⟩:=ha.2.2.2 _ (List.getElem_mem b)
  rw [BO,AX,Ag b,Ah rfl,AH b,Ae,ON n _ (by omega) (by omega),Ae,Ah (by rw [List.length_take];omega),Ah (AG (by omega)),List.take_append_getElem b]
  exact ZcG n hn a ha x k m (i+1) (by omega) (by omega)
theorem ZhL (n:Nat) (hn:1000000≤n) (a:Slt) (ha:HA a):∀ (k m i:Nat),i+k=a.items.length→k<m→BS n a m (a.items.take i) i=some a
 | k,0,i,_,h=>absurd h (Nat.not_lt_zero _)
 | 0,m+1,i,hi,_=>by
  have c:=ha.2.2.1
  rw [BS,AX,Ac,Ai (by decide),EG,Ab,List.take_of_length_le (by omega)]
  have:=ZcG n hn a ha a.items a.values.length n 0 (by omega) (by omega)
  exact this
 | k+1,m+1,i,hi,hm=>by
  have b:i<a.items.length:=by omega
  have c:=ha.2.1.1
  rw [BS,AX,Ag b,Ah rfl,AH b,Ae,Za4 n hn _ (ha.2.1.2 _ (List.getElem_mem b)),Ae,Ah (by rw [List.length_take];omega),Ah (AG (by omega)),List.take_append_getElem b]
  exact ZhL n hn a ha k m (i+1) (by omega) (by omega)
theorem ZW (n:Nat) (hn:1000000≤n) (a:Slt) (ha:HA a):D1 n a=some a:=by
 have b:=ha.2.1.1
 rw [D1,Ab]
 exact ZhL n hn a ha a.items.length n 0 (by omega) (by omega)
theorem Zhi (n:Nat) (hn:1000000≤n) (a:Stt) (ha:GK a):∀ (k m i:Nat),i+k=a.slots.length→k<m→Dy n a m (a.slots.take i) i=some a
 | k,0,i,_,h=>absurd h (Nat.not_lt_zero _)
 | 0,m+1,i,hi,_=>by
  rw [Dy,AX,Ac,Ai (by decide),Hi,List.take_of_length_le (by omega)]
 | k+1,m+1,i,hi,hm=>by
  have b:i<a.slots.length:=by omega
  have c:=ha.1
  rw [Dy,AX,Ag b,Ah rfl,AH b,Ae,ZW n hn _ (ha.2 _ (List.getElem_mem b)),Ae,Ah (by rw [List.length_take];omega),Ah (AG (by omega)),List.take_append_getElem b]
  exact Zhi n hn a ha k m (i+1) (by omega) (by omega)
theorem Yu (n:Nat) (hn:1000000≤n) (a:Stt) (ha:GK a):Gi n a=some a:=by
 have b:=ha.1
 rw [Gi,Ab]
 exact Zhi n hn a ha a.slots.length n 0 (by omega) (by omega)
theorem Zge {a b:Int} (ha:Ba a) (hb:1≤b∧Oo b) {k:Int} (hk:k≤16) (h1:0≤JW a b) (h2:JW a b<k):a=b+JW a b:=by
 unfold Oo at hb
 unfold Ba at ha
 unfold JW IntKind.wrap at *
 simp only [IntKind.signed,IntKind.bits] at *
 simp at *
 omega
theorem Xn {a k:Int} (h1:0≤a) (h2:a<k):a.tmod k=a:=Int.tmod_eq_of_lt h1 h2
theorem ZaJ {a k:Int} (h1:0≤a) (h2:a<k):(k+a).tmod k=a:=by
 rw [Int.tmod_eq_emod_of_nonneg (by omega),Int.add_emod_left,Int.emod_eq_of_lt h1 h2]
theorem VH (n:Nat) (y:Bld) (j:Inp) (hj:Ba j.call) (hk:1≤(y.n.calls.length:Int)∧(y.n.calls.length:Int)≤16) (hl:y.out.state.slots.length≤1000) (hs:∀ x∈y.out.state.slots,Zaq (y.n.calls.length:Int) x)
  (hno:∀ x∈y.out.state.slots,¬ (x.key.int+(x.number.tmod (y.n.calls.length:Int))=j.call∧decide ((y.n.calls.length:Int)≤x.number)=j.undo)) :
  ∀ (k m i:Nat),i+k=y.out.state.slots.length→k<m→Bv n y j m (i:Int)=some ()
 | k,0,i,_,h=>absurd h (Nat.not_lt_zero _)
 | 0,m+1,i,hi,_=>by rw [Bv,AX,Ac];rfl
 | k+1,m+1,i,hi,hm=>by
  have a:i<y.out.state.slots.length:=by omega
  obtain ⟨_,⟨d,e⟩,_,⟨n1,n2⟩,_⟩:=hs _ (List.getElem_mem a)
  have b:=hno _ (List.getElem_mem a)
  have f := @Zge j.call y.out.state.slots[i].key.int hj ⟨d,e⟩ (y.n.calls.length:Int) hk.2
  rw [Bv,AX,Ag a,Ah rfl,AH a,Ae]
  generalize hwe:JW j.call y.out.state.slots[i].key.int=w at *
  by_cases c:((decide (w<0))||(decide ((y.n.calls.length:Int)≤w)))=true
  ·rw [Ah c,Ah (AG (by omega))]
   exact VH n y j hj hk hl hs hno k m (i+1) (by omega) (by omega)
  ·rw [Ai c]
   simp only [Bool.or_eq_true,decide_eq_true_eq,not_or,Int.not_lt,Int.not_le] at c
   have g:=f c.1 c.2
   by_cases c1:((!j.undo)&&(decide (y.out.state.slots[i].number=w)))=true
   ·exfalso
    simp only [Bool.and_eq_true,Bool.not_eq_true',decide_eq_true_eq] at c1
    apply b
    rw [c1.2,Xn c.1 c.2,c1.1]
    exact ⟨by omega,Af (by omega)⟩
   ·rw [Ai c1]
    cases hu:j.undo with
    | false=>rw [Ai (by decide)];rfl
    | true =>
     rw [Ah rfl,Ah (by unfold Ba;omega)]
     by_cases c2:y.out.state.slots[i].number=(y.n.calls.length:Int)+w
     ·exfalso
      apply b
      rw [c2,ZaJ c.1 c.2,hu]
      exact ⟨by omega,Ag (by omega)⟩
     ·rw [Af c2,Ai (by decide)];rfl
theorem ZaF (n:Nat) (hn:1000000≤n) (a:Nod) (s:Stt) (j:Inp) (hk3:j.kind=3) (hj:Ba j.call) (hk:1≤(a.calls.length:Int)∧(a.calls.length:Int)≤16) (h:GK s) (hs:∀ x∈s.slots,Zaq (a.calls.length:Int) x)
  (hno:∀ x∈s.slots,¬ (x.key.int+(x.number.tmod (a.calls.length:Int))=j.call∧decide ((a.calls.length:Int)≤x.number)=j.undo)):Hh n a s j=some (Otc.mk s [] [] [] []):=by
 have c:=h.1
 have e:GY n a s j=some (Bld.mk a j.time (j.stamp.1,j.stamp.2) 0 (Otc.mk s [] [] [] [])):=by
  rw [GY,Ac,Ai (by decide),Gk,Yu n hn s h]
  rfl
 have b:D3 n (Bld.mk a j.time (j.stamp.1,j.stamp.2) 0 (Otc.mk s [] [] [] [])) j=some () :=
  VH n (Bld.mk a j.time (j.stamp.1,j.stamp.2) 0 (Otc.mk s [] [] [] [])) j hj hk (by simp only;omega) hs hno s.slots.length n 0 (by simp) (by omega)
 rw [Hh,Ah hk3,e,Ae,b]
 rfl
theorem V4 (n:Nat) (y:Nod × Stt × Inp) (l:List (Int × ByteArray × Bool)) (hl:l.length≤1000) (hK:(∀ x∈l,¬ (x.1=y.2.2.call∧x.2.2=y.2.2.undo))→Eo n y=some true) :
  ∀ (k m i:Nat),i+k=l.length→k<m→(∀ x∈l.take i,¬ (x.1=y.2.2.call∧x.2.2=y.2.2.undo))→BH n y l m (i:Int)=some true
 | k,0,i,_,h,_=>absurd h (Nat.not_lt_zero _)
 | 0,m+1,i,hi,_,hno=>by
  rw [BH,AX,Ac,Ai (by decide)]
  rw [List.take_of_length_le (by omega)] at hno
  exact hK hno
 | k+1,m+1,i,hi,hm,hno=>by
  have a:i<l.length:=by omega
  have go:¬ (l[i].1=y.2.2.call∧l[i].2.2=y.2.2.undo)→BH n y l m ((i:Int)+1)=some true:=fun q =>
   V4 n y l hl hK k m (i+1) (by omega) (by omega) (fun x hx=>by
    rw [←List.take_append_getElem a] at hx
    rcases List.mem_append.1 hx with hx | hx
    ·exact hno x hx
    ·rw [List.mem_singleton.1 hx];exact q)
  rw [BH,AX,Ag a,Ah rfl,AH a,Ae]
  by_cases c:l[i].1=y.2.2.call
  ·rw [Ag c,Ah rfl]
   by_cases c2:(l[i].2.2 == y.2.2.undo)=true
   ·rw [Ah c2]
   ·rw [Ai c2,Ah (AG (by omega))]
    exact go fun q=>c2 (by rw [q.2];exact beq_self_eq_true _)
  ·rw [Af c,Ai (by decide),Ah (AG (by omega))]
   exact go fun q=>c q.1
theorem Xi (n:Nat) (hn:1000000≤n) (a:Nod) (s:Stt) (i:Inp) (hi:Ba i.call):G2 n a s i=some true:=by
 obtain ⟨y,t,j,e,h,b,⟨_,_,_,k⟩,_⟩:=Xr n (by omega) a s i
 obtain ⟨c,o,r,m⟩:=WU n hn y (by have:=h.1;omega) t b
 have G:=b.1
 rw [G2,e,Ae,r]
 simp only [Ae]
 by_cases q:c=0
 ·obtain ⟨⟨_,g,_⟩,_,_,_,hs⟩:=m q
  obtain ⟨l,p,F,C⟩:=ZfC n hn y t g (by omega) hs
  rw [Ag q]
  simp only [Bool.not_true,Bool.false_eq_true,if_false]
  rw [Je,o,Ae,q,Ag rfl,Ai (by decide),p,Ae]
  refine V4 n (y,t,j) l (by omega) (fun f=>?_) l.length n 0 (by omega) (by omega) (by simp)
  have d:=ZaF n hn y t (Inp.mk 3 j.time j.stamp j.message j.call j.undo j.done j.body) rfl (by simp only;rw [k];exact hi) g b hs (fun x v w=>by
   obtain ⟨z,u,rfl⟩:=List.mem_iff_getElem.1 v
   obtain ⟨E,_,D⟩:=C z (by omega) u
   refine f l[z] (List.getElem_mem (by omega)) ?_
   rw [D]
   exact w)
  rw [Eo,d,Ae,Zat n hn t b]
  rfl
 ·rw [Af q]
  simp only [Bool.not_false,if_true]
end Go.Proofs.YtcdnijfbfdnjlaaGreatDoor
namespace Go.Proofs.YtcdnijfbfdnjlaaGreatDoor
open Go Go.Shelf Go.ChangeShapes Go.WideShapes Go.ChangeAt Go.RowKit Go.Lib Go.Ev
set_option maxRecDepth 100000
mutual
def Ex.wf:Ex→Prop
 | .mk o i t v a=>Ba o∧Ba i∧t.size≤maxLen∧v.length≤maxLen∧a.length≤maxLen∧(∀ x∈v,x.wf)∧Zbp a
def Zbp:List Ex→Prop
 | []=>True
 | v::r=>v.wf∧Zbp r
end
theorem Vy:∀ l,Zbp l↔∀ v∈l,v.wf
 | []=>by simp [Zbp]
 | v::r=>by simp [Zbp,Vy r]
theorem Ex.ones (v:Ex):∀ x∈v.cs,x.one=true:=by
 cases v;intro x hx
 simp only [Ex.cs,List.mem_cons,List.not_mem_nil,or_false] at hx
 rcases hx with rfl | rfl | rfl | rfl | rfl<;>rfl
section
variable {H:Type} {enc:TypeId × Value→H} {W:World}
theorem UT:∀ (n:Nat) (cs:List Value) (x:DataW H × List MemPlace),Td enc W n 83 cs=some x→∃ v:Ex,v.wf∧RC W cs v.cs
 | 0,cs,x,h=>by simp [Td,DataW.trod] at h
 | n+1,cs,x,h=>by
  obtain ⟨xs,U,hn,rfl,E,y,a⟩:=DataW.trod_struct Tryz.underlying83 h
  cases hn
  have g:cs.length=5:=E.trans (by kernel_rfl)
  have j:xs.length=5:=y
  match cs,g,xs,j,a with
  | [c0,c1,c2,c3,c4],_,[y0,y1,y2,y3,y4],_,a =>
  have z:_=some y0:=a 0 _ rfl;have F:_=some y1:=a 1 _ rfl;have C:_=some y2:=a 2 _ rfl;have u:_=some y3:=a 3 _ rfl;have G:_=some y4:=a 4 _ rfl
  obtain ⟨o,ho,eo⟩:=CE z
  obtain ⟨i,D,ei⟩:=CE F
  obtain ⟨t,w,et,N⟩:=J7 C
  cases n with
  | zero=>simp [DataW.trod] at u
  | succ n =>
  obtain ⟨l,O,e,m,el,b,J⟩:=FI B1 Vl.wf (fun _=>0) Tryz.underlying46 (sz:=6) (by kernel_rfl) (by omega) (fun cs x h=>by
   obtain ⟨v,hv,c,Q⟩:=Lc n cs x h
   exact ⟨v,.agg cs.toArray,hv,by simp [Value.cells],c.agg v.ones,Nat.zero_le _⟩) u
  obtain ⟨fl,K,r,f,ef,k,V⟩:=FI Gy Ex.wf (fun _=>0) Tryz.underlying27 (sz:=5) (by kernel_rfl) (by omega) (fun cs x h=>by
   obtain ⟨v,hv,c⟩:=UT n cs x h
   exact ⟨v,.agg cs.toArray,hv,by simp [Value.cells],c.agg v.ones,Nat.zero_le _⟩) G
  have p:Tryz.prog.cellsOf 3=1:=by kernel_rfl
  have s:Tryz.prog.cellsOf 9=1:=by kernel_rfl
  have d:Tryz.prog.cellsOf 46=1:=by kernel_rfl
  have q:Tryz.prog.cellsOf 27=1:=by kernel_rfl
  simp only [List.getElem_toArray,List.getElem_cons_zero,List.getElem_cons_succ,p,s,d,q,List.drop_zero,List.take_succ_cons,List.take_zero,List.cons.injEq,and_true,List.drop_succ_cons] at eo ei et el ef
  subst eo ei et el ef
  refine ⟨.mk o i t l fl,?_,?_⟩
  ·unfold Ex.wf
   exact ⟨ho,D,w,m,f,e,(Vy fl).2 r⟩
  ·rw [Ex.cs,Oa,ZbK]
   exact .cons (.flat rfl) (.cons (.flat rfl) (.cons (.flat (Ag w)) (.cons b (.cons k .nil))))
end
section
variable {H:Type} {enc:TypeId × Value→H} {W:World} {base:Nat} {v:Value} {d:DataW H} {p:List MemPlace}
abbrev Mp:=List (ByteArray × Ex)
def Mp.wf (m:Mp):Prop:=m.length≤maxLen∧∀ p∈m,p.1.size≤maxLen∧p.2.wf
theorem ZdL (n:Nat) (cs:List Value) (x:DataW H × List MemPlace) (hn:Td enc W n 30 cs=some x):∃ (t:Mp) (c:Value),t.wf∧cs=[c]∧R W Mem.start W c (.list (t.map Bq) .none):=by
 cases n with
 | zero=>simp [Td,DataW.trod] at hn
 | succ n =>
 obtain ⟨xs,u,hn',rfl,j,hx,a⟩:=DataW.trod_struct Tryz.underlying30 hn
 cases hn'
 have g:cs.length=1:=j.trans (by kernel_rfl)
 have k:xs.length=1:=hx
 match cs,g,xs,k,a with
 | [c0],_,[w0],_,a =>
 have e:_=some w0:=a 0 _ rfl
 cases n with
 | zero=>simp [DataW.trod] at e
 | succ n =>
 obtain ⟨l,w,q,s,e1,b,_⟩:=FI Bq (fun p=>p.1.size≤maxLen∧p.2.wf) (fun _=>0) Tryz.underlying28 (sz:=6) (by kernel_rfl) (by omega) (fun cs x h=>by
  cases n with
  | zero=>simp [DataW.trod] at h
  | succ n =>
  obtain ⟨o,u,hn,rfl,j,hx,a⟩:=DataW.trod_struct Tryz.underlying85 h
  cases hn
  have f:cs.length=6:=j.trans (by kernel_rfl)
  have m:o.length=2:=hx
  match o,m,a with
  | [w0,w1],_,a =>
  have e:_=some w0:=a 0 _ rfl;have q1:_=some w1:=a 1 _ rfl
  obtain ⟨nm,d,en,y⟩:=J7 e
  obtain ⟨v,hv,b⟩:=UT n _ _ q1
  have r:Tryz.prog.cellsOf 83=5:=by kernel_rfl
  have i:Tryz.prog.cellsOf 9=1:=by kernel_rfl
  simp only [List.getElem_toArray,List.getElem_cons_zero,List.getElem_cons_succ,r,i] at en b
  match cs,f with
  | [c0,c1,c2,c3,c4,c5],_ =>
  simp only [List.drop_zero,List.take_succ_cons,List.take_zero,List.cons.injEq,and_true,List.drop_succ_cons] at en b
  subst en
  refine ⟨(nm,v),.agg #[.string nm,c1,c2,c3,c4,c5],⟨d,hv⟩,rfl,?_,Nat.zero_le _⟩
  exact RC.agg (cs:=[.string nm,c1,c2,c3,c4,c5]) (.cons (.flat (Ag d)) b) (fun x hx=>by
   rcases List.mem_cons.1 hx with rfl | hx
   ·rfl
   ·exact v.ones x hx)) e
 have i:Tryz.prog.cellsOf 28=1:=by kernel_rfl
 simp only [List.getElem_toArray,List.getElem_cons_zero,List.getElem_cons_succ,i,List.drop_zero,List.take_succ_cons,List.take_zero,List.cons.injEq,and_true] at e1
 subst e1
 exact ⟨l,_,⟨s,q⟩,rfl,b⟩
end
set_option maxRecDepth 100000
def Ones (l:List AV):Prop:=∀ x∈l,x.one=true
theorem Ones.nil:Ones []:=fun _ h=>nomatch h
theorem Ones.cons {x:AV} {l:List AV} (h:x.one=true) (k:Ones l):Ones (x::l):=fun y hy=>by
 rcases List.mem_cons.1 hy with rfl | hy
 ·exact h
 ·exact k y hy
theorem Ones.app {l m:List AV} (h:Ones l) (k:Ones m):Ones (l++m):=fun y hy=>by
 rcases List.mem_append.1 hy with hy | hy
 ·exact h y hy
 ·exact k y hy
section
variable {H:Type} {enc:TypeId × Value→H} {W:World}
theorem Zu {n:Nat} {cs:List Value} {x:DataW H × List MemPlace} (h:Td enc W n 4 cs=some x):∃ b:Bool,cs=[.bool b]:=by
 obtain ⟨b,rfl,_⟩:=DataW.trod_bool Tryz.underlying4 h
 exact ⟨b,rfl⟩
theorem LU {α:Type} (f:α→AV) (g:α→List AV) (hfg:∀ y,f y = .agg (g y)) (h1:∀ y,Ones (g y)) {t e:TypeId} {sz:Nat} (ht:Tryz.prog.underlying t=some (.slice e)) (hc:Tryz.prog.cellsOf e=sz) (hsz:0<sz)
  (H0:∀ n cs x,Td enc W n e cs=some x→∃ y,RC W cs (g y)) {n:Nat} {cs:List Value} {x:DataW H × List MemPlace} (h:Td enc W n t cs=some x):∃ (l:List α) (v:Value),cs=[v]∧R W Mem.start W v (.list (l.map f) .none):=by
 cases n with
 | zero=>simp [Td,DataW.trod] at h
 | succ n =>
  obtain ⟨l,v,_,_,e,a,_⟩:=FI f (fun _=>True) (fun _=>0) ht hc hsz (fun cs x h=>by
   obtain ⟨y,a⟩:=H0 n cs x h
   exact ⟨y,.agg cs.toArray,trivial,by simp [Value.cells],by rw [hfg];exact a.agg (h1 y),Nat.zero_le _⟩) h
  exact ⟨l,v,e,a⟩
theorem TW {n:Nat} {cs:List Value} {x:DataW H × List MemPlace} (h:Td enc W n 32 cs=some x):∃ (l:List Int) (v:Value),cs=[v]∧R W Mem.start W v (.list (l.map AU) .none):=by
 cases n with
 | zero=>simp [Td,DataW.trod] at h
 | succ n =>
  obtain ⟨l,v,_,_,e,a,_⟩:=FI AU (fun _=>True) (fun _=>0) Tryz.underlying32 (sz:=1) (by kernel_rfl) (by omega) (fun cs x h=>by
   obtain ⟨z,_,rfl⟩:=CE h
   exact ⟨z,.int .i64 z,trivial,rfl,.flat rfl,Nat.zero_le _⟩) h
  exact ⟨l,v,e,a⟩
theorem Zgy {n:Nat} {cs:List Value} {x:DataW H × List MemPlace} (h:Td enc W n 46 cs=some x):∃ (l:List Vl) (v:Value),cs=[v]∧R W Mem.start W v (.list (l.map B1) .none) :=
 LU B1 Vl.cs (fun _=>rfl) Vl.ones Tryz.underlying46 (sz:=6) (by kernel_rfl) (by omega) (fun n cs x h=>by obtain ⟨v,_,a,_⟩:=Lc n cs x h;exact ⟨v,a⟩) h
theorem Zf3 {n:Nat} {cs:List Value} {x:DataW H × List MemPlace} (h:Td enc W n 23 cs=some x):∃ (l:List Ty) (v:Value),cs=[v]∧R W Mem.start W v (.list (l.map Ef) .none) :=
 LU Ef Ty.cs (fun _=>rfl) Ty.ones Tryz.underlying23 (sz:=7) (by kernel_rfl) (by omega) (fun n cs x h=>by obtain ⟨v,_,a,_⟩:=Um n cs x h;exact ⟨v,a⟩) h
theorem ZbU {n:Nat} {cs:List Value} {x:DataW H × List MemPlace} (h:Td enc W n 27 cs=some x):∃ (l:List Ex) (v:Value),cs=[v]∧R W Mem.start W v (.list (l.map Gy) .none) :=
 LU Gy Ex.cs (fun _=>rfl) Ex.ones Tryz.underlying27 (sz:=5) (by kernel_rfl) (by omega) (fun n cs x h=>by obtain ⟨v,_,a⟩:=UT n cs x h;exact ⟨v,a⟩) h
theorem VD:∀ (n:Nat) (cs:List Value) (x:DataW H × List MemPlace),Td enc W n 45 cs=some x→∃ v:Int × List Int,RC W cs ([Ak v.1,.list (v.2.map AU) .none])
 | 0,cs,x,h=>by simp [Td,DataW.trod] at h
 | n+1,cs,x,h=>by
  obtain ⟨xs,p,hn,rfl,i,k,a⟩:=DataW.trod_struct Tryz.underlying45 h
  cases hn
  have c:cs.length=2:=i.trans (by kernel_rfl)
  have b:xs.length=2:=k
  match cs,c,xs,b,a with
  | [c0,c1],_,[y0,y1],_,a =>
  have l:_=some y0:=a 0 _ rfl;have j:_=some y1:=a 1 _ rfl
  obtain ⟨f,_,e0⟩:=CE l
  obtain ⟨m,o,e1,g⟩:=TW j
  have e:Tryz.prog.cellsOf 3=1:=by kernel_rfl
  have d:Tryz.prog.cellsOf 32=1:=by kernel_rfl
  simp only [List.getElem_toArray,List.getElem_cons_zero,List.getElem_cons_succ,e,d,List.drop_zero,List.take_succ_cons,List.take_zero,List.cons.injEq,and_true,List.drop_succ_cons] at e0 e1
  subst e0
  subst e1
  exact ⟨(f,m),(.cons (.flat rfl) (.cons g .nil))⟩
theorem Za2:∀ (n:Nat) (cs:List Value) (x:DataW H × List MemPlace),Td enc W n 51 cs=some x→∃ v:Msg,RC W cs (Ak v.stamp.1 :: .list (v.stamp.2.map AU) .none::Ak v.mass :: .list (v.origins.map AU) .none::v.body.cs)
 | 0,cs,x,h=>by simp [Td,DataW.trod] at h
 | n+1,cs,x,h=>by
  obtain ⟨xs,z,hn,rfl,r,i,a⟩:=DataW.trod_struct Tryz.underlying51 h
  cases hn
  have b:cs.length=10:=r.trans (by kernel_rfl)
  have c:xs.length=4:=i
  match cs,b,xs,c,a with
  | [c0,c1,c2,c3,c4,c5,c6,c7,c8,c9],_,[y0,y1,y2,y3],_,a =>
  have j:_=some y0:=a 0 _ rfl;have s:_=some y1:=a 1 _ rfl;have o:_=some y2:=a 2 _ rfl;have g:_=some y3:=a 3 _ rfl
  obtain ⟨f,d⟩:=VD _ _ _ j
  obtain ⟨m,_,e1⟩:=CE s
  obtain ⟨l,y,e2,k⟩:=TW o
  obtain ⟨w,_,e,_⟩:=Lc _ _ _ g
  have q:Tryz.prog.cellsOf 45=2:=by kernel_rfl
  have p:Tryz.prog.cellsOf 3=1:=by kernel_rfl
  have t:Tryz.prog.cellsOf 32=1:=by kernel_rfl
  have u:Tryz.prog.cellsOf 49=6:=by kernel_rfl
  simp only [List.getElem_toArray,List.getElem_cons_zero,List.getElem_cons_succ,q,p,t,u,List.drop_zero,List.take_succ_cons,List.take_zero,List.cons.injEq,and_true,List.drop_succ_cons] at d e1 e2 e
  subst e1
  subst e2
  exact ⟨Msg.mk f m l w,(RC.app d (.cons (.flat rfl) (.cons k e)))⟩
theorem Zfm {n:Nat} {cs:List Value} {x:DataW H × List MemPlace} (h:Td enc W n 58 cs=some x):∃ (l:List Msg) (v:Value),cs=[v]∧R W Mem.start W v (.list (l.map A9) .none) :=
 LU A9 (fun v=>Ak v.stamp.1 :: .list (v.stamp.2.map AU) .none::Ak v.mass :: .list (v.origins.map AU) .none::v.body.cs) (fun _=>rfl) (fun v => .cons rfl (.cons rfl (.cons rfl (.cons rfl v.body.ones)))) Tryz.underlying58 (sz:=10) (by kernel_rfl) (by omega) Za2 h
theorem ZgL:∀ (n:Nat) (cs:List Value) (x:DataW H × List MemPlace),Td enc W n 60 cs=some x→∃ v:Slt,RC W cs (v.key.cs++[Ak v.number,Ak v.time,.list (v.items.map A9) .none,.list (v.values.map B1) .none])
 | 0,cs,x,h=>by simp [Td,DataW.trod] at h
 | n+1,cs,x,h=>by
  obtain ⟨xs,E,hn,rfl,q,g,a⟩:=DataW.trod_struct Tryz.underlying60 h
  cases hn
  have b:cs.length=10:=q.trans (by kernel_rfl)
  have c:xs.length=5:=g
  match cs,b,xs,c,a with
  | [c0,c1,c2,c3,c4,c5,c6,c7,c8,c9],_,[y0,y1,y2,y3,y4],_,a =>
  have i:_=some y0:=a 0 _ rfl;have s:_=some y1:=a 1 _ rfl;have m:_=some y2:=a 2 _ rfl;have f:_=some y3:=a 3 _ rfl;have w:_=some y4:=a 4 _ rfl
  obtain ⟨e,_,d,_⟩:=Lc _ _ _ i
  obtain ⟨l,_,e1⟩:=CE s
  obtain ⟨k,_,e2⟩:=CE m
  obtain ⟨y,C,e3,j⟩:=Zfm f
  obtain ⟨r,D,e4,z⟩:=Zgy w
  have p:Tryz.prog.cellsOf 49=6:=by kernel_rfl
  have o:Tryz.prog.cellsOf 3=1:=by kernel_rfl
  have t:Tryz.prog.cellsOf 58=1:=by kernel_rfl
  have u:Tryz.prog.cellsOf 46=1:=by kernel_rfl
  simp only [List.getElem_toArray,List.getElem_cons_zero,List.getElem_cons_succ,p,o,t,u,List.drop_zero,List.take_succ_cons,List.take_zero,List.cons.injEq,and_true,List.drop_succ_cons] at d e1 e2 e3 e4
  subst e1
  subst e2
  subst e3
  subst e4
  exact ⟨Slt.mk e l k y r,(RC.app d (.cons (.flat rfl) (.cons (.flat rfl) (.cons j (.cons z .nil)))))⟩
theorem ZcM {n:Nat} {cs:List Value} {x:DataW H × List MemPlace} (h:Td enc W n 35 cs=some x):∃ (l:List Slt) (v:Value),cs=[v]∧R W Mem.start W v (.list (l.map A3) .none) :=
 LU A3 (fun v=>v.key.cs++[Ak v.number,Ak v.time,.list (v.items.map A9) .none,.list (v.values.map B1) .none]) (fun _=>rfl) (fun v => .app v.key.ones (.cons rfl (.cons rfl (.cons rfl (.cons rfl .nil))))) Tryz.underlying35 (sz:=10) (by kernel_rfl) (by omega) ZgL h
theorem Zdq:∀ (n:Nat) (cs:List Value) (x:DataW H × List MemPlace),Td enc W n 37 cs=some x→∃ v:Stt,RC W cs ([Ak v.number,Ak v.time,.list (v.slots.map A3) .none])
 | 0,cs,x,h=>by simp [Td,DataW.trod] at h
 | n+1,cs,x,h=>by
  obtain ⟨xs,r,hn,rfl,k,m,a⟩:=DataW.trod_struct Tryz.underlying37 h
  cases hn
  have c:cs.length=3:=k.trans (by kernel_rfl)
  have b:xs.length=3:=m
  match cs,c,xs,b,a with
  | [c0,c1,c2],_,[y0,y1,y2],_,a =>
  have o:_=some y0:=a 0 _ rfl;have l:_=some y1:=a 1 _ rfl;have d:_=some y2:=a 2 _ rfl
  obtain ⟨j,_,e0⟩:=CE o
  obtain ⟨e,_,e1⟩:=CE l
  obtain ⟨i,q,e2,p⟩:=ZcM d
  have g:Tryz.prog.cellsOf 3=1:=by kernel_rfl
  have f:Tryz.prog.cellsOf 35=1:=by kernel_rfl
  simp only [List.getElem_toArray,List.getElem_cons_zero,List.getElem_cons_succ,g,f,List.drop_zero,List.take_succ_cons,List.take_zero,List.cons.injEq,and_true,List.drop_succ_cons] at e0 e1 e2
  subst e0
  subst e1
  subst e2
  exact ⟨Stt.mk j e i,(.cons (.flat rfl) (.cons (.flat rfl) (.cons p .nil)))⟩
theorem Zfs:∀ (n:Nat) (cs:List Value) (x:DataW H × List MemPlace),Td enc W n 64 cs=some x→∃ v:ByteArray × List (ByteArray × Ex),RC W cs ([.val (.string v.1),.list (v.2.map Bq) .none])
 | 0,cs,x,h=>by simp [Td,DataW.trod] at h
 | n+1,cs,x,h=>by
  obtain ⟨xs,q,hn,rfl,j,l,a⟩:=DataW.trod_struct Tryz.underlying64 h
  cases hn
  have c:cs.length=2:=j.trans (by kernel_rfl)
  have b:xs.length=2:=l
  match cs,c,xs,b,a with
  | [c0,c1],_,[y0,y1],_,a =>
  have m:_=some y0:=a 0 _ rfl;have k:_=some y1:=a 1 _ rfl
  obtain ⟨g,d,e0,_⟩:=J7 m
  obtain ⟨o,p,_,e1,i⟩:=ZdL _ _ _ k
  have f:Tryz.prog.cellsOf 9=1:=by kernel_rfl
  have e:Tryz.prog.cellsOf 30=1:=by kernel_rfl
  simp only [List.getElem_toArray,List.getElem_cons_zero,List.getElem_cons_succ,f,e,List.drop_zero,List.take_succ_cons,List.take_zero,List.cons.injEq,and_true,List.drop_succ_cons] at e0 e1
  subst e0
  subst e1
  exact ⟨(g,o),(.cons (.flat (Ag d)) (.cons i .nil))⟩
theorem ZbM {n:Nat} {cs:List Value} {x:DataW H × List MemPlace} (h:Td enc W n 31 cs=some x):∃ (l:List (ByteArray × List (ByteArray × Ex))) (v:Value),cs=[v]∧R W Mem.start W v (.list (l.map B2) .none) :=
 LU B2 (fun v=>[.val (.string v.1),.list (v.2.map Bq) .none]) (fun _=>rfl) (fun v => .cons rfl (.cons rfl .nil)) Tryz.underlying31 (sz:=2) (by kernel_rfl) (by omega) Zfs h
theorem ZfR:∀ (n:Nat) (cs:List Value) (x:DataW H × List MemPlace),Td enc W n 34 cs=some x→∃ v:Nod,RC W cs (.val (.string v.name)::Ak v.kind::Ak v.schema::Ak v.result::Ak v.number::Ak v.time::Ak v.limit :: .val (.string v.text)::(v.type.cs++[.list (v.types.map Ef) .none,.list (v.exprs.map Gy) .none,.list (v.mapping.map Bq) .none,.list (v.calls.map B2) .none,.list (v.next.map AU) .none]))
 | 0,cs,x,h=>by simp [Td,DataW.trod] at h
 | n+1,cs,x,h=>by
  obtain ⟨xs,n',hn,rfl,hl,D,a⟩:=DataW.trod_struct Tryz.underlying34 h
  cases hn
  have e:cs.length=20:=hl.trans (by kernel_rfl)
  have p:xs.length=14:=D
  match cs,e,xs,p,a with
  | [c0,c1,c2,c3,c4,c5,c6,c7,c8,c9,c10,c11,c12,c13,c14,c15,c16,c17,c18,c19],_,[y0,y1,y2,y3,y4,y5,y6,y7,y8,y9,y10,y11,y12,y13],_,a =>
  have G:_=some y0:=a 0 _ rfl;have f1:_=some y1:=a 1 _ rfl;have f2:_=some y2:=a 2 _ rfl;have y:_=some y3:=a 3 _ rfl;have f4:_=some y4:=a 4 _ rfl;have O:_=some y5:=a 5 _ rfl;have U:_=some y6:=a 6 _ rfl;have f7:_=some y7:=a 7 _ rfl;have Z:_=some y8:=a 8 _ rfl;have z:_=some y9:=a 9 _ rfl;have i:_=some y10:=a 10 _ rfl;have q:_=some y11:=a 11 _ rfl;have f:_=some y12:=a 12 _ rfl;have g:_=some y13:=a 13 _ rfl
  obtain ⟨u,Q,e0,_⟩:=J7 G
  obtain ⟨v1,_,e1⟩:=CE f1
  obtain ⟨V,_,e2⟩:=CE f2
  obtain ⟨v3,_,e3⟩:=CE y
  obtain ⟨v4,_,e4⟩:=CE f4
  obtain ⟨K,_,e5⟩:=CE O
  obtain ⟨F,_,e6⟩:=CE U
  obtain ⟨Y,w,e7,_⟩:=J7 f7
  obtain ⟨v8,_,r,_⟩:=Um _ _ _ Z
  obtain ⟨E,u9,e9,r9⟩:=Zf3 z
  obtain ⟨c,J,e10,k⟩:=ZbU i
  obtain ⟨j,N,_,e11,o⟩:=ZdL _ _ _ q
  obtain ⟨b,aa,e12,l⟩:=ZbM f
  obtain ⟨m,s,e13,d⟩:=TW g
  have z0:Tryz.prog.cellsOf 9=1:=by kernel_rfl
  have z1:Tryz.prog.cellsOf 3=1:=by kernel_rfl
  have z2:Tryz.prog.cellsOf 26=7:=by kernel_rfl
  have z3:Tryz.prog.cellsOf 23=1:=by kernel_rfl
  have t:Tryz.prog.cellsOf 27=1:=by kernel_rfl
  have z5:Tryz.prog.cellsOf 30=1:=by kernel_rfl
  have C:Tryz.prog.cellsOf 31=1:=by kernel_rfl
  have z7:Tryz.prog.cellsOf 32=1:=by kernel_rfl
  simp only [List.getElem_toArray,List.getElem_cons_zero,List.getElem_cons_succ,z0,z1,z2,z3,t,z5,C,z7,List.drop_zero,List.take_succ_cons,List.take_zero,List.cons.injEq,and_true,List.drop_succ_cons] at e0 e1 e2 e3 e4 e5 e6 e7 r e9 e10 e11 e12 e13
  subst e0
  subst e1
  subst e2
  subst e3
  subst e4
  subst e5
  subst e6
  subst e7
  subst e9
  subst e10
  subst e11
  subst e12
  subst e13
  exact ⟨Nod.mk u v1 V v3 v4 K F Y v8 E c j b m,(.cons (.flat (Ag Q)) (.cons (.flat rfl) (.cons (.flat rfl) (.cons (.flat rfl) (.cons (.flat rfl) (.cons (.flat rfl) (.cons (.flat rfl) (.cons (.flat (Ag w)) (RC.app r (.cons r9 (.cons k (.cons o (.cons l (.cons d .nil))))))))))))))⟩
theorem ZbS:∀ (n:Nat) (cs:List Value) (x:DataW H × List MemPlace),Td enc W n 53 cs=some x→∃ v:Inp,Ba v.call∧RC W cs (Ak v.kind::Ak v.time::Ak v.stamp.1 :: .list (v.stamp.2.map AU) .none::((Ak v.message.stamp.1 :: .list (v.message.stamp.2.map AU) .none::Ak v.message.mass :: .list (v.message.origins.map AU) .none::v.message.body.cs)++(Ak v.call :: .val (.bool v.undo) :: .val (.bool v.done)::v.body.cs)))
 | 0,cs,x,h=>by simp [Td,DataW.trod] at h
 | n+1,cs,x,h=>by
  obtain ⟨xs,O,hn,rfl,C,k,a⟩:=DataW.trod_struct Tryz.underlying53 h
  cases hn
  have b:cs.length=23:=C.trans (by kernel_rfl)
  have c:xs.length=8:=k
  match cs,b,xs,c,a with
  | [c0,c1,c2,c3,c4,c5,c6,c7,c8,c9,c10,c11,c12,c13,c14,c15,c16,c17,c18,c19,c20,c21,c22],_,[y0,y1,y2,y3,y4,y5,y6,y7],_,a =>
  have m:_=some y0:=a 0 _ rfl;have E:_=some y1:=a 1 _ rfl;have u:_=some y2:=a 2 _ rfl;have j:_=some y3:=a 3 _ rfl;have K:_=some y4:=a 4 _ rfl;have o:_=some y5:=a 5 _ rfl;have q:_=some y6:=a 6 _ rfl;have z:_=some y7:=a 7 _ rfl
  obtain ⟨i,_,e0⟩:=CE m
  obtain ⟨t,_,e1⟩:=CE E
  obtain ⟨s,e⟩:=VD _ _ _ u
  obtain ⟨N,f⟩:=Za2 _ _ _ j
  obtain ⟨D,G,e4⟩:=CE K
  obtain ⟨p,e5⟩:=Zu o
  obtain ⟨l,e6⟩:=Zu q
  obtain ⟨r,_,d,_⟩:=Lc _ _ _ z
  have y:Tryz.prog.cellsOf 3=1:=by kernel_rfl
  have w:Tryz.prog.cellsOf 45=2:=by kernel_rfl
  have F:Tryz.prog.cellsOf 51=10:=by kernel_rfl
  have J:Tryz.prog.cellsOf 4=1:=by kernel_rfl
  have g:Tryz.prog.cellsOf 49=6:=by kernel_rfl
  simp only [List.getElem_toArray,List.getElem_cons_zero,List.getElem_cons_succ,y,w,F,J,g,List.drop_zero,List.take_succ_cons,List.take_zero,List.cons.injEq,and_true,List.drop_succ_cons] at e0 e1 e f e4 e5 e6 d
  subst e0
  subst e1
  subst e4
  subst e5
  subst e6
  exact ⟨Inp.mk i t s N D p l r,G,(.cons (.flat rfl) (.cons (.flat rfl) (RC.app e (RC.app f (.cons (.flat rfl) (.cons (.flat rfl) (.cons (.flat rfl) d)))))))⟩
end
section
variable {H:Type} {enc:TypeId × Value→H} {W:World} {base:Nat} {v:Value} {d:DataW H} {p:List MemPlace}
theorem Zi3 (hv:Value.okWide Tryz.prog W .any base 34 v) (h:DataW.Trod enc Tryz.prog W 0 (fun _=>true) true 34 v d p):∃ t:Nod,True∧R W Mem.start W v (Xe t):=by
 obtain ⟨cs,rfl⟩:=Xc Tryz.underlying34 hv
 obtain ⟨n,b⟩:=h
 obtain ⟨t,a⟩:=ZfR n _ _ b
 have a:RC W cs.toList _:=a
 exact ⟨t,trivial,by rw [Zb];simpa using a.agg (show Ones _ from .cons rfl (.cons rfl (.cons rfl (.cons rfl (.cons rfl (.cons rfl (.cons rfl (.cons rfl (.app t.type.ones (.cons rfl (.cons rfl (.cons rfl (.cons rfl (.cons rfl .nil))))))))))))))⟩
theorem ZiZ (hv:Value.okWide Tryz.prog W .any base 37 v) (h:DataW.Trod enc Tryz.prog W 0 (fun _=>true) true 37 v d p):∃ t:Stt,True∧R W Mem.start W v (Xg t):=by
 obtain ⟨cs,rfl⟩:=Xc Tryz.underlying37 hv
 obtain ⟨n,b⟩:=h
 obtain ⟨t,a⟩:=Zdq n _ _ b
 have a:RC W cs.toList _:=a
 exact ⟨t,trivial,by rw [Zq];simpa using a.agg (show Ones _ from .cons rfl (.cons rfl (.cons rfl .nil)))⟩
theorem ZiA (hv:Value.okWide Tryz.prog W .any base 53 v) (h:DataW.Trod enc Tryz.prog W 0 (fun _=>true) true 53 v d p):∃ t:Inp,Ba t.call∧R W Mem.start W v (Yk t):=by
 obtain ⟨cs,rfl⟩:=Xc Tryz.underlying53 hv
 obtain ⟨n,c⟩:=h
 obtain ⟨t,b,a⟩:=ZbS n _ _ c
 have a:RC W cs.toList _:=a
 exact ⟨t,b,by rw [Zx];simpa using a.agg (show Ones _ from .cons rfl (.cons rfl (.cons rfl (.cons rfl (.app (.cons rfl (.cons rfl (.cons rfl (.cons rfl t.message.body.ones)))) (.cons rfl (.cons rfl (.cons rfl t.body.ones))))))))⟩
end
set_option maxRecDepth 100000
noncomputable def YL:Nat:=(World.holding Tryz.prog default ⟨#[],#[],[]⟩).heap.size
noncomputable def P4 (os:Os):World :=
 let w0:=World.holding Tryz.prog os ⟨#[.cells #[.string ⟨#[118,97,108,117,101,32,111,117,116,32,111,102,32,114,97,110,103,101]⟩] 430,.cells #[.string ⟨#[105,110,118,97,108,105,100,32,115,121,110,116,97,120]⟩] 430],#[],[]⟩
 let put (h:Array Obj) (g:Nat) (d:DataW Unit):Array Obj:=h.modify g fun
  | .cells _ t frozen => .cells (ZlN d).toArray t frozen
  | o=>o
 let one (h:Array Obj) (g:Nat) (v:Value):Array Obj:=h.modify g fun
  | .cells _ t frozen => .cells #[v] t frozen
  | o=>o
 { w0 with heap:=one (one (put (put (put (put (put w0.heap 1 Rows.laid_unicode_utf8_first) 2 Rows.laid_unicode_utf8_acceptRanges) 3 Rows.laid_internal_strconv_uint64pow10) 4 Rows.laid_math_bits_deBruijn32tab) 5 Rows.laid_math_bits_deBruijn64tab)
   7 (.iface 428 (.pointer (some ⟨YL,0,none⟩)))) 6 (.iface 428 (.pointer (some ⟨YL+1,0,none⟩))) }
theorem W7 (os:Os) (args:Array Value):laidMet Tryz.prog Rows.sagaChecksRow.laid ((P4 os).forCall (fun _ _=>0) ⟨#[],args,[]⟩).memory :=
 (LaidIn.of_run (l:=Rows.sagaChecksRow.laid) [4,5,3,2,7,6,1,YL,YL+1] 8 (by kernel_rfl) (by kernel_rfl) (by kernel_rfl) (by kernel_rfl)).met
theorem Zfb {W:World} (hL:laidMet Tryz.prog Rows.sagaChecksRow.laid W):Lib.Utf8Tabs 1 2 W∧Pow10 W :=
 ⟨utf8Tabs_of_readsT (U8Types.of196 Tryz.laysValid) ⟨by kernel_rfl,by kernel_rfl,by kernel_rfl,by kernel_rfl,by kernel_rfl,by kernel_rfl,by kernel_rfl⟩ (Lib.laidMet.reads hL (.tail _ (.tail _ (.tail _ (.tail _ (.tail _ (.tail _ (.head _)))))))) (Lib.laidMet.reads hL (.tail _ (.tail _ (.tail _ (.head _))))),
  RF (Lib.laidMet.reads hL (.tail _ (.tail _ (.head _))))⟩
theorem N7 {W:World} {name:String} {d:DataW Unit} {g:Nat} {t:TypeId} {ms:Array (String × TypeId)} (h:Lib.VarReads Tryz.prog W name d) (hg:Tryz.prog.globalNamed name=some g) (ht:(Tryz.prog.globals[g]?).map (·.type)=some t) (hu:Tryz.prog.underlying t=some (.interface ms)) :
  ∃ ev,W.cell? ⟨g,0,none⟩=some ev∧(ev = .nilIface∨∃ te pe,ev = .iface te pe):=by
 obtain ⟨j,i,cs,fuel,p,b,e,f,a⟩:=h
 obtain rfl:=Option.some.inj (hg.symm.trans b)
 obtain rfl:=Option.some.inj (ht.symm.trans e)
 have c:=World.var?_cell b f 0
 obtain ⟨l⟩:=cs
 cases fuel with
 | zero=>simp [DataW.trod] at a
 | succ n =>
  unfold DataW.trod at a
  simp only [hu] at a
  split at a
  all_goals first
   | (rename_i q _;simp at q;done)
   | exact ⟨_,by simpa using c,.inl rfl⟩
   | exact ⟨_,by simpa using c,.inr ⟨_,_,rfl⟩⟩
   | simp_all
theorem Zf7 {W:World} (hL:laidMet Tryz.prog Rows.sagaChecksRow.laid W):Zjs W :=
 ⟨N7 (Lib.laidMet.reads hL (.tail _ (.tail _ (.tail _ (.tail _ (.tail _ (.head _))))))) (by kernel_rfl) (by kernel_rfl) (t:=312) Tryz.underlying312,
  N7 (Lib.laidMet.reads hL (.tail _ (.tail _ (.tail _ (.tail _ (.head _)))))) (by kernel_rfl) (by kernel_rfl) (t:=312) Tryz.underlying312⟩
theorem ZfW {W:World} (hS:W.ShapedOpen Tryz.prog):YB W :=
 cell_of_shapedOpen_int (zero := #[.int .i64 0]) (t:=3) hS (of_decide_eq_true (by kernel_rfl)) (by kernel_rfl) rfl (by kernel_rfl) (by kernel_rfl) Tryz.underlying3
end Go.Proofs.YtcdnijfbfdnjlaaGreatDoor
