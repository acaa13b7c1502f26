/-
  Part 14 of the proof: rules and walks that the claim's last text uses.
-/
import Derived.Test.YtbfenpeblbonlaaGreatDoorCb1
import Derived.Test.YtbfenpeblbonlaaGreatDoorCb2
import Derived.Test.YtbfenpeblbonlaaGreatDoorCb3
import Derived.Test.YtbfenpeblbonlaaGreatDoorCb4
import Derived.Test.YtbfenpeblbonlaaGreatDoorCb5
import Derived.Test.YtbfenpeblbonlaaGreatDoorCb6
import Derived.Test.YtbfenpeblbonlaaGreatDoorCb7
import Derived.Test.YtbfenpeblbonlaaGreatDoorCb8
import Derived.Test.YtbfenpeblbonlaaGreatDoorCb9
import Derived.Test.YtbfenpeblbonlaaGreatDoorCb10
import Derived.Test.YtbfenpeblbonlaaGreatDoorCb11
import Derived.Test.YtbfenpeblbonlaaGreatDoorCa1
import Derived.Test.YtbfenpeblbonlaaGreatDoorCa2
set_option linter.unusedSimpArgs false
set_option linter.unusedVariables false
set_option maxRecDepth 100000
set_option maxHeartbeats 4000000
namespace Go.Proofs.YtbfenpeblbonlaaGreatDoor
open Go Go.RowKit Go.Ev
theorem Zbl {p : CP} {s : CS} (h : s.es.length ≤ 900) (j : CI) : (Du p s j).rej.length ≤ 900 := by
  cases j with
  | msg m now => simp only [Du]; split; · simp
                 split <;> simp
  | rep i now c d u w => simp only [Du]; split; · simp
                         split; · simp
                         split <;> simp
  | clk i now =>
    have := List.length_filter_le (Hn now) s.es
    simp only [Du, List.length_map]; omega
def GX (n:Nat)  : Option Bool :=
 some (true)
def B1 (n:Nat) (q:List (Int × List Int)) (a1:List (Int × List Int)) (a2:(Int × List Int)->(Int × List Int)->Option Bool):Nat->Int->Option Bool
 | 0,_=>none
 | m+1,b =>
  if decide (b<(q.length:Int)) then
   (Dw q b).bind fun g =>
   (Dw a1 b).bind fun h =>
   (a2 g h).bind fun y =>
   if !y then
    some (false)
   else
    if BN (b+1) then
     (B1 n q a1 a2 m) (b+1)
    else none
  else
   GX n 
def Ee (n:Nat) (g:List (Int × List Int)) (b:List (Int × List Int)) (h:(Int × List Int)->(Int × List Int)->Option Bool):Option Bool :=
 if !(decide ((g.length:Int)=(b.length:Int))) then
  some (false)
 else
  B1 n g b h n 0
theorem N9 (w0:World) (n:Nat) (B:Ao) (Rw:Ap) (L:Aq) (a0:List (Int × List Int)) (a1:List (Int × List Int)) (fa2:FuncId) (ca2:List AV) (a2:(Int × List Int)->(Int × List Int)->Option Bool) (ha2:∀ (x0:Int × List Int) (x1:Int × List Int) r,a2 x0 x1=some r->∀ B' rows,B <+: B'->Rw <+: rows->ACalls Tryz.prog w0 fa2 ([.agg (Ak x0.1::([.list (x0.2.map Ci) .none])),.agg (Ak x1.1::([.list (x1.2.map Ci) .none]))]++ca2) ⟨B',rows,L⟩ fun v s=>v = .val (.bool r)/\s=⟨B',rows,L⟩) (r:Bool) (h:Ee n a0 a1 a2=some r) :
  ACalls Tryz.prog w0 82 [.list (a0.map J7) .none,.list (a1.map J7) .none,.clo fa2 ca2] ⟨B,Rw,L⟩ fun x st=>x = .val (.bool r)/\st=⟨B,Rw,L⟩:=by
 rw [Ee] at h
 refine hd [.tmp 6] Tryz.func82 Tryz.ntmps82 fun M0 W0 k g i c o f hs=>?_
 simp only [Ax]
 have d:=Cc (o (.clo fa2 ca2) (by simp))
 refine rg [0,1,2] hs ?_
 apply Am;intro K2 j
 refine rg [0,1,2,14] hs ?_
 refine B6 h hs ?_ ?_<;>intro hs h
 ·refine rg [6] hs ?_
  exact rt h hs c f
 refine sk [0,1,2] hs j ?_
 clear j
 refine AD (fun e st=>Ck e st B Rw L [] [] [] (GX n  = some r)) ?_ ?_
 ·intro K8 l
  refine rg [1,2,15,16,17] hs ?_
  apply Ar
  refine AA (fun m e st=>∃ (b:Int),Ck e st B Rw L [(1,true,.list (a1.map J7) .none),(2,true,.clo fa2 ca2),(15,true,.list (a0.map J7) .none),(16,true,Ak (a0.length:Int)),(17,true,Ak b)] [] [] (B1 n a0 a1 a2 m b=some r)) n ⟨0,([]),Rw,ef hs,ef hs,f,h⟩ ?_
  rintro ml10 e st ⟨b,Xl10,Rl10,rfl,rfl,f,h⟩ Ul10 Vl10
  cases ml10 with
  | zero=>cases h
  | succ ml10 =>
  rw [B1] at h
  refine AO k g i rfl c f (H8 d f) (H8 d f) ?_
  exact go (tg (a:=([1,2,15,16,17,18],([1,2,15,16,17],[1,2,7,8,15,16,17],[1,2,8,9,15,16,17],[1,2,15,16,17,30],([6],()),[1,2,15,16,17],[1,2,15,16,17],()),[],()))) h hs k g i c f (q1 ha2) (q2 l (fun e s=>Vl10 ml10 e s (Nat.lt_succ_self _)))
 ·clear h;rintro e st ⟨Xk7,Rk7,rfl,rfl,f,h⟩
  rw [GX] at h
  refine AO k g i rfl c f (H8 d f) (H8 d f) ?_
  refine rg [6] hs ?_
  exact rt h hs c f
def DO (n:Nat) (g:Fte) (b:Fte):Option Bool :=
 (Ed n g.stamp b.stamp).bind fun q =>
 if ((q&&(decide (g.kind=b.kind)))&&(MY g.node b.node))&&(MY g.text b.text) then
  (Ee n g.into b.into (fun (x0:Int × List Int) (h:Int × List Int)=>Ed n x0 h)).bind fun y =>
  some (y)
 else
  AM
theorem JI (w0:World) (n:Nat) (B:Ao) (Rw:Ap) (L:Aq) (a0:Fte) (a1:Fte) (r:Bool) (h:DO n a0 a1=some r) :
  ACalls Tryz.prog w0 50 [.agg (ftL a0),.agg (ftL a1)] ⟨B,Rw,L⟩ fun x st=>x = .val (.bool r)/\st=⟨B,Rw,L⟩:=by
 rw [DO] at h
 refine hd [.tmp 4] Tryz.func50 Tryz.ntmps50 fun M0 W0 p m o a s l hs=>?_
 simp only [Ax]
 refine rg [2,3] hs ?_
 apply Am;intro K2 b
 obtain ⟨g,e,h⟩:=bind_some h
 rcases Bool.eq_false_or_eq_true (((g&&(decide (a0.kind=a1.kind)))&&(MY a0.node a1.node))&&(MY a0.text a1.text)) with hf4 | hf4
 ·replace h:=Cj h hf4
  obtain ⟨t,f,h⟩:=bind_some h
  have hs:=Ad hf4 hs
  refine rk 3 [4] (al hs) ?_
  refine Av _ (KH w0 n _ _ _ a0.stamp a1.stamp _ e) (hv (al hs)) ?_
  refine nc (al hs) ?_
  refine Av _ (N9 w0 n _ _ _ a0.into a1.into 14 [] (fun (d:Int × List Int) (c:Int × List Int)=>Ed n d c) (fun d c r k q rows' i j=>by exact KH w0 n _ _ _ d c _ k) _ f) (hv (al hs)) ?_
  refine ne (al hs) b ?_
  clear b
  exact rt h hs a l
 ·replace h:=Cm h hf4
  exact nS h
def FO (n:Nat) (g:Rqs) (b:Rqs):Option Bool :=
 (DO n (Fte.mk g.stamp 0 (⟨#[]⟩:ByteArray) ([]) (⟨#[]⟩:ByteArray)) (Fte.mk b.stamp 0 (⟨#[]⟩:ByteArray) ([]) (⟨#[]⟩:ByteArray))).bind fun q =>
 if ((q&&(MY g.service b.service))&&(decide (g.call=b.call)))&&(g.undo == b.undo) then
  (DT n g.body b.body).bind fun h =>
  some (h)
 else
  AM
theorem P5 (w0:World) (n:Nat) (B:Ao) (Rw:Ap) (L:Aq) (a0:Rqs) (a1:Rqs) (r:Bool) (h:FO n a0 a1=some r) :
  ACalls Tryz.prog w0 49 [.agg (rqL a0),.agg (rqL a1)] ⟨B,Rw,L⟩ fun x st=>x = .val (.bool r)/\st=⟨B,Rw,L⟩:=by
 rw [FO] at h
 refine hd [.tmp 4] Tryz.func49 Tryz.ntmps49 fun M0 W0 e c d b g f hs=>?_
 simp only [Ax]
 exact go (tg (a:=([2,3],([4],()),((),())))) h (al hs) e c d b f (q2 (JI w0 n) (KB w0 n)) trivial
def HT (n:Nat)  : Option Bool :=
 some (true)
def C6 (n:Nat) (y:Otc) (a1:Otc):Nat->Int->Option Bool
 | 0,_=>none
 | m+1,b =>
  if decide (b<(y.letters.length:Int)) then
   (Dw y.letters b).bind fun h =>
   (Dw a1.letters b).bind fun g =>
   (Dj n h g).bind fun q =>
   if !q then
    some (false)
   else
    if BN (b+1) then
     (C6 n y a1 m) (b+1)
    else none
  else
   HT n 
def F7 (n:Nat) (g:Otc) (b:Otc):Option Bool :=
 C6 n g b n 0
def C0 (n:Nat) (g:Otc) (q:Otc):Nat->Int->Option Bool
 | 0,_=>none
 | m+1,b =>
  if decide (b<(g.fates.length:Int)) then
   (Dw g.fates b).bind fun y =>
   (Dw q.fates b).bind fun h =>
   (DO n y h).bind fun y54 =>
   if !y54 then
    some (false)
   else
    if BN (b+1) then
     (C0 n g q m) (b+1)
    else none
  else
   F7 n g q 
def F6 (n:Nat) (g:Otc) (b:Otc):Option Bool :=
 C0 n g b n 0
def CY (n:Nat) (g:Otc) (h:Otc):Nat->Int->Option Bool
 | 0,_=>none
 | m+1,b =>
  if decide (b<(g.requests.length:Int)) then
   (Dw g.requests b).bind fun x36 =>
   (Dw h.requests b).bind fun q =>
   (FO n x36 q).bind fun y =>
   if !y then
    some (false)
   else
    if BN (b+1) then
     (CY n g h m) (b+1)
    else none
  else
   F6 n g h 
def GF (n:Nat) (g:Otc) (b:Otc):Option Bool :=
 CY n g b n 0
def CX (n:Nat) (q:Otc) (y:Otc):Nat->Int->Option Bool
 | 0,_=>none
 | m+1,b =>
  if decide (b<(q.outputs.length:Int)) then
   (Dw q.outputs b).bind fun h =>
   (Dw y.outputs b).bind fun g =>
   if !(decide (h.1=g.1)) then
    some (false)
   else
    (Dj n h.2 g.2).bind fun y22 =>
    if !y22 then
     some (false)
    else
     if BN (b+1) then
      (CX n q y m) (b+1)
     else none
  else
   GF n q y 
def Eu (n:Nat) (g:Otc) (b:Otc):Option Bool :=
 (HZ n g.state b.state).bind fun h =>
 if ((((!h)||(!(decide ((g.outputs.length:Int)=(b.outputs.length:Int)))))||(!(decide ((g.requests.length:Int)=(b.requests.length:Int)))))||(!(decide ((g.fates.length:Int)=(b.fates.length:Int)))))||(!(decide ((g.letters.length:Int)=(b.letters.length:Int)))) then
  some (false)
 else
  CX n g b n 0
theorem Qc (w0:World) (n:Nat) (B:Ao) (Rw:Ap) (L:Aq) (a0:Otc) (a1:Otc) (r:Bool) (h:Eu n a0 a1=some r) :
  ACalls Tryz.prog w0 23 [.agg (TE a0),.agg (TE a1)] ⟨B,Rw,L⟩ fun x st=>x = .val (.bool r)/\st=⟨B,Rw,L⟩:=by
 rw [Eu] at h
 refine hd [.tmp 4] Tryz.func23 Tryz.ntmps23 fun M0 W0 l k j b z c hs=>?_
 simp only [Ax]
 refine rg [2,3] hs ?_
 apply Am;intro K2 p
 obtain ⟨y,v,h⟩:=bind_some h
 refine rc 2 [2,3,50] (al hs) ?_;intro K3 q
 refine Av _ (Uh w0 n _ _ _ a0.state a1.state _ v) (hv (al hs)) ?_
 refine ne (al hs) q ?_
 clear q
 refine B6 h hs ?_ ?_<;>intro hs h
 ·refine rg [4] hs ?_
  exact rt h hs b c
 refine sk [2,3] hs p ?_
 clear p
 refine AD (fun e st=>Ck e st B Rw L [(2,true,.box B.length 0),(3,true,.box (B.length+1) 0)] [TE a0,TE a1] [] (GF n a0 a1  = some r)) ?_ ?_
 ·intro K9 w
  refine rg [2,3,5] hs ?_
  apply Ar
  refine AA (fun m e st=>∃ (f:Int),Ck e st B Rw L [(2,true,.box B.length 0),(3,true,.box (B.length+1) 0),(5,true,Ak f)] [TE a0,TE a1] [] (CX n a0 a1 m f=some r)) n ⟨0,([]),Rw,ef hs,ef hs,c,h⟩ ?_
  rintro ml11 e st ⟨f,Xl11,Rl11,rfl,rfl,c,h⟩ Ul11 Vl11
  cases ml11 with
  | zero=>cases h
  | succ ml11 =>
  rw [CX] at h
  exact go (tg (a:=([2,3,5,55],([2,3,5],([29,2,3,5,86],[4],()),[29,2,3,5,86],([4],()),[2,3,5],[2,3,5],()),[2,3],()))) h hs l k j b c (q1 (Jm w0 n)) (q2 w (fun e s=>Vl11 ml11 e s (Nat.lt_succ_self _)))
 ·clear h;rintro e st ⟨Xk8,Rk8,rfl,rfl,c,h⟩
  rw [GF] at h
  refine Go.Ev.td l k j b c ?_
  refine AD (fun e st=>Ck e st B Rw L [(2,true,.box B.length 0),(3,true,.box (B.length+1) 0)] [TE a0,TE a1] [] (F6 n a0 a1  = some r)) ?_ ?_
  ·intro K28 o
   refine rg [2,3,6] hs ?_
   apply Ar
   refine AA (fun m e st=>∃ (g:Int),Ck e st B Rw L [(2,true,.box B.length 0),(3,true,.box (B.length+1) 0),(6,true,Ak g)] [TE a0,TE a1] [] (CY n a0 a1 m g=some r)) n ⟨0,([]),Rk8,ef hs,ef hs,c,h⟩ ?_
   rintro ml30 e st ⟨g,Xl30,Rl30,rfl,rfl,c,h⟩ Ul30 Vl30
   cases ml30 with
   | zero=>cases h
   | succ ml30 =>
   rw [CY] at h
   exact go (tg (a:=([2,3,6,91],([2,3,6],[12,2,3,6,105],([4],()),[2,3,6],[2,3,6],()),[2,3],()))) h hs l k j b c (q1 (P5 w0 n)) (q2 o (fun e s=>Vl30 ml30 e s (Nat.lt_succ_self _)))
  ·clear h;rintro e st ⟨Xk27,Rk27,rfl,rfl,c,h⟩
   rw [F6] at h
   refine Go.Ev.td l k j b c ?_
   refine AD (fun e st=>Ck e st B Rw L [(2,true,.box B.length 0),(3,true,.box (B.length+1) 0)] [TE a0,TE a1] [] (F7 n a0 a1  = some r)) ?_ ?_
   ·intro K44 u
    refine rg [2,3,7] hs ?_
    apply Ar
    refine AA (fun m e st=>∃ (i:Int),Ck e st B Rw L [(2,true,.box B.length 0),(3,true,.box (B.length+1) 0),(7,true,Ak i)] [TE a0,TE a1] [] (C0 n a0 a1 m i=some r)) n ⟨0,([]),Rk27,ef hs,ef hs,c,h⟩ ?_
    rintro ml46 e st ⟨i,Xl46,Rl46,rfl,rfl,c,h⟩ Ul46 Vl46
    cases ml46 with
    | zero=>cases h
    | succ ml46 =>
    rw [C0] at h
    exact go (tg (a:=([2,3,7,110],([2,3,7],[12,2,3,7,124],([4],()),[2,3,7],[2,3,7],()),[2,3],()))) h hs l k j b c (q1 (JI w0 n)) (q2 u (fun e s=>Vl46 ml46 e s (Nat.lt_succ_self _)))
   ·clear h;rintro e st ⟨Xk43,Rk43,rfl,rfl,c,h⟩
    rw [F7] at h
    refine Go.Ev.td l k j b c ?_
    refine AD (fun e st=>Ck e st B Rw L [] [TE a0,TE a1] [] (HT n  = some r)) ?_ ?_
    ·intro K60 t
     refine rg [2,3,8] hs ?_
     apply Ar
     refine AA (fun m e st=>∃ (d:Int),Ck e st B Rw L [(2,true,.box B.length 0),(3,true,.box (B.length+1) 0),(8,true,Ak d)] [TE a0,TE a1] [] (C6 n a0 a1 m d=some r)) n ⟨0,([]),Rk43,ef hs,ef hs,c,h⟩ ?_
     rintro ml62 e st ⟨d,Xl62,Rl62,rfl,rfl,c,h⟩ Ul62 Vl62
     cases ml62 with
     | zero=>cases h
     | succ ml62 =>
     rw [C6] at h
     exact go (tg (a:=([2,3,8,129],([2,3,8],[12,2,3,8,143],([4],()),[2,3,8],[2,3,8],()),[],()))) h hs l k j b c (q1 (Jm w0 n)) (q2 t (fun e s=>Vl62 ml62 e s (Nat.lt_succ_self _)))
    ·clear h;rintro e st ⟨Xk59,Rk59,rfl,rfl,c,h⟩
     rw [HT] at h
     refine Go.Ev.td l k j b c ?_
     refine rg [4] hs ?_
     exact rt h hs b c
def GA (n:Nat)  (b1_k14:Stt):Option Bool :=
 some (true)
def BX (n:Nat) (a0:Int × Int × Int × Int) (y8:(List Inp)) (h:(List Otc)):Nat->Int->Stt->Option Bool
 | 0,_,_=>none
 | m+1,b,b1_l17 =>
  if decide (b<(y8.length:Int)) then
   (DK a0).bind fun y23 =>
   (Dw y8 b).bind fun y =>
   (Ig n y23 b1_l17 y).bind fun g =>
   (Dw h b).bind fun x28 =>
   (Eu n x28 g).bind fun q =>
   if !q then
    some (false)
   else
    if BN (b+1) then
     (BX n a0 y8 h m) (b+1) g.state
    else none
  else
   GA n b1_l17
def FN (n:Nat) (q:Int × Int × Int × Int) (y:List (Int × Int × Int × Int)):Option Bool :=
 (Lq n ).bind fun y4 =>
 if !y4 then
  some (false)
 else
  (IP n y).bind fun h =>
  (DK q).bind fun b =>
  (MQ n b h).bind fun g =>
  BX n q h g n 0 (Stt.mk 0 0 ([]))
theorem N4 (w0:World) (hE:QU w0) (hM:Qx w0) (hP:Pow10 w0) (hT:Lib.Utf8Tabs 1 2 w0) (n:Nat) (B:Ao) (Rw:Ap) (L:Aq) (a0:Int × Int × Int × Int) (a1:List (Int × Int × Int × Int)) (r:Bool) (h:FN n a0 a1=some r) :
  ACalls Tryz.prog w0 7 [.agg (.val (.int .u8 a0.1)::(.val (.int .u8 a0.2.1)::(.val (.int .u8 a0.2.2.1)::([.val (.int .u8 a0.2.2.2)])))),.list (a1.map QH) .none] ⟨B,Rw,L⟩ fun x st=>x = .val (.bool r)/\st=⟨B,Rw,L⟩:=by
 rw [FN] at h
 refine hd [.tmp 4] Tryz.func7 Tryz.ntmps7 fun M0 W0 hN aa K j hu p hs=>?_
 simp only [Ax]
 refine rg [1,2] hs ?_
 apply Am;intro K2 N
 obtain ⟨y4,af,h⟩:=bind_some h
 refine rc 2 [1,2,11] hs ?_;intro K3 Q
 refine Av _ (Xt w0 hE hM hP hT n _ _ _  _ af) (hv hs) ?_
 refine ne hs Q ?_
 clear Q
 refine B6 h hs ?_ ?_<;>intro hs h
 ·have o:=hs.1
  refine rg [4] hs ?_
  exact rt h hs j p
 have o:=hs.1
 refine sk [1,2] hs N ?_
 clear N
 obtain ⟨y8,ad,h⟩:=bind_some h
 refine rc 2 [2,5] hs ?_;intro K7 Y
 refine Av _ (PO w0 n _ _ _ a1 _ ad) (hv hs) ?_
 refine ne hs Y ?_
 clear Y
 obtain ⟨ag,G,h⟩:=bind_some h
 obtain ⟨E,F,h⟩:=bind_some h
 refine rc 3 [2,5,6] hs ?_;intro K9 Z
 refine Av _ (Ie w0 _ _ _ a0 _ G) (hv hs) ?_
 refine nc hs ?_
 refine Av _ (U9 w0 hE hM hP hT n _ _ _ ag y8 _ F) (hv hs) ?_
 refine ne hs Z ?_
 clear Z
 refine rg [2,5,6,7] hs ?_
 refine AD (fun e st=>∃ (g:Stt) (k:List AV),Ck e st B Rw L [] [.val (.int .u8 a0.1)::(.val (.int .u8 a0.2.1)::(.val (.int .u8 a0.2.2.1)::([.val (.int .u8 a0.2.2.2)]))),k] [] (k.map AV.pubCell=Dx g/\GA n g=some r)) ?_ ?_
 ·intro K15 U
  refine rg [2,5,6,7,8] hs ?_
  apply Ar
  refine AA (fun m e st=>∃ (d:Int) (b:Stt) (i:List AV),Ck e st B Rw L [(2,true,.box B.length 0),(5,true,.list (y8.map NA) .none),(6,true,.list (E.map NJ) .none),(7,true,.box (B.length+1) 0),(8,true,Ak d)] [.val (.int .u8 a0.1)::(.val (.int .u8 a0.2.1)::(.val (.int .u8 a0.2.2.1)::([.val (.int .u8 a0.2.2.2)]))),i] [] (i.map AV.pubCell=Dx b/\BX n a0 y8 E m d b=some r)) n ⟨0,(Stt.mk 0 0 ([])),_,([]),Rw,ef hs,ef hs,p,ef hs,h⟩ ?_
  rintro ml17 e st ⟨d,b,i,Xl17,Rl17,rfl,rfl,p,C,h⟩ Ul17 Vl17
  cases ml17 with
  | zero=>cases h
  | succ ml17 =>
  rw [BX] at h
  refine GR (B.length+1) (by first | rfl | (simp only [Ea,Da,EF,DR];rfl)) C ?_;simp +decide only [go_sem,Nat.reduceAdd]
  show D8 _ _ _ _ _ _ _ _ [(2,true,.box B.length 0),(5,true,.list (y8.map NA) .none),(6,true,.list (E.map NJ) .none),(7,true,.box (B.length+1) 0),(8,true,Ak d)] ⟨B++([.val (.int .u8 a0.1)::(.val (.int .u8 a0.2.1)::(.val (.int .u8 a0.2.2.1)::([.val (.int .u8 a0.2.2.2)]))),Dx b]++Xl17),Rl17,L⟩
  refine Go.Ev.td hN aa K j p ?_
  apply Am;intro K18 q
  refine rg [2,5,6,7,8,21] hs ?_
  refine B6 h hs ?_ ?_<;>intro hs h
  rotate_left
  ·have l:=hs.1
   refine sx [] hs U ?_
   exact ⟨b,_,([]),Rl17,ef hs,ef hs,p,ef hs,h⟩
  have l:=hs.1
  refine sk [2,5,6,7,8] hs q ?_
  clear q
  apply Am;intro K21 w
  apply Ar
  apply Am;intro K22 t
  obtain ⟨ak,H,h⟩:=bind_some h
  obtain ⟨ai,am,ah,c,h⟩:=ix NA h
  obtain ⟨y,J,h⟩:=bind_some h
  apply D9 G6 [8,9] [2,5,6,7,8,9] kr (fun s=>∃ (X:Ao) (rows:Ap),s=⟨B++([.val (.int .u8 a0.1)::(.val (.int .u8 a0.2.1)::(.val (.int .u8 a0.2.2.1)::([.val (.int .u8 a0.2.2.2)]))),Dx b]++X),rows,L⟩) 3 (B.length+2)
  ·simp +decide only [go_sem,Nat.reduceAdd]
  ·rintro s ⟨X,rows,rfl⟩
   refine ⟨3,?_⟩
   rw [An];simp +decide only [go_sem,Nat.reduceAdd,Bh,o,l,c]
   have hs:=Ad c hs
   (repeat' apply Ad)<;>first | refine Av _ (Ie w0 _ _ _ a0 _ H) (hv hs) ?_ | exact cl
   rw [An];simp +decide only [go_sem,Nat.reduceAdd,o,l,c]
   (repeat' apply Ad)<;>first | refine Av _ (YN w0 hE hM hP hT n _ _ _ ak b ai _ J) (hv hs) ?_ | exact cl
   rw [An];simp +decide only [go_sem,Nat.reduceAdd,o,l,c]
   (repeat' apply Ad)<;>first | rfl | exact cl
  ·exact gd (tg (a:=(8,9,[2,5,6,7,8,9]))) (Ad c hs)
  simp +decide only [go_sem,Nat.reduceAdd,o,l,c]
  (repeat' apply Ad)<;>first | refine t _ _ ?_ | exact cl
  clear t
  apply Am;intro K26 v
  obtain ⟨aj,O,h⟩:=bind_some h
  obtain ⟨ae,ab,D⟩:=Bo O
  have z:=Bz (f:=NJ) D
  obtain ⟨ap,V,h⟩:=bind_some h
  have hs:=Ad c hs
  have hs:=Ad z hs
  apply Am;intro K27 u
  refine dk 7 2 1 [2,5,6,7,8,9,38] hs G6 ?_
  refine Av _ (Qc w0 n _ _ _ aj y _ V) (hv hs) ?_
  refine dn hs u ?_
  clear u
  refine B6 h hs ?_ ?_<;>intro hs h
  ·refine rg [4] hs ?_
   exact rt h hs j p
  refine sk [2,5,6,7,8,9] hs v ?_
  clear v
  refine rl [2,5,6,7,8] hs w ?_
  clear w
  obtain ⟨ao,h⟩:=Au h
  refine rl [2,5,6,7,8] hs (fun e s=>Vl17 ml17 e s (Nat.lt_succ_self _)) ?_
  exact ⟨(d+1),y.state,_,([TE y]),Rl17,ef hs,ef hs,p,ef hs,h⟩
 ·clear h;rintro e st ⟨g,k,Xk14,Rk14,rfl,rfl,p,C,h⟩
  rw [GA] at h
  refine GR (B.length+1) (by first | rfl | (simp only [Ea,Da,EF,DR];rfl)) C ?_;simp +decide only [go_sem,Nat.reduceAdd]
  show D8 _ _ _ _ _ _ _ _ [] ⟨B++([.val (.int .u8 a0.1)::(.val (.int .u8 a0.2.1)::(.val (.int .u8 a0.2.2.1)::([.val (.int .u8 a0.2.2.2)]))),Dx g]++Xk14),Rk14,L⟩
  refine Go.Ev.td hN aa K j p ?_
  refine rg [4] hs ?_
  exact rt h hs j p
theorem Zab (n:Nat) (a:List (Int × List Int)) (f:(Int × List Int)->(Int × List Int)->Option Bool) (hf:∀ x∈a,f x x=some true) (hl:a.length<=1000):∀ (k m i:Nat),i+k=a.length->k<m->B1 n a a f m i=some true
 | k,0,i,_,h=>absurd h (Nat.not_lt_zero _)
 | 0,m+1,i,hi,_=>by rw [B1,A4,Ac];rfl
 | k+1,m+1,i,hi,hm=>by
  have b:i<a.length:=by omega
  rw [B1,A4,Ag b,Ah rfl,Bj b,Ae,Ae,hf _ (List.getElem_mem b),Ae]
  simp only [Bool.not_true,Bool.false_eq_true,if_false]
  rw [Ah (A8 (by omega))]
  exact Zab n a f hf hl k m (i+1) (by omega) (by omega)
def Zh7 (f:Fte):Prop:=f.stamp.2.length<=1000/\f.into.length<=1000/\∀ s∈f.into,s.2.length<=1000
theorem SN (n:Nat) (hn:100000<=n) (f:Fte) (h:Zh7 f):DO n f f=some true:=by
 have a:Ee n f.into f.into (fun (x0:Int × List Int) (x1:Int × List Int)=>Ed n x0 x1)=some true:=by
  rw [Ee,Ag rfl]
  exact Zab n f.into _ (fun x b=>by rw [Xg n (by omega) x x (h.2.2 x b),Ag rfl]) h.2.1 f.into.length n 0 (by omega) (by have:=h.2.1;omega)
 rw [DO,Xg n (by omega) _ _ h.1,Ag rfl,Ae,Ag rfl,U7,U7,a]
 rfl
def Ziv (r:Rqs):Prop:=r.stamp.2.length<=1000/\r.body.size<=1000
theorem ZX (n:Nat) (hn:100000<=n) (r:Rqs) (h:Ziv r):FO n r r=some true:=by
 have a:(((true&&MY r.service r.service)&&decide (r.call=r.call))&&(r.undo == r.undo))=true:=by rw [U7,Ag rfl];simp
 rw [FO,SN n hn _ ⟨h.1,by simp,by simp⟩,Ae,a,Ah rfl,Rk n hn _ h.2]
 rfl
structure OtFit (o:Otc):Prop where
 st:T8 o.state
 ou:o.outputs.length<=1000/\∀ x∈o.outputs,SY x.2
 rq:o.requests.length<=1000/\∀ x∈o.requests,Ziv x
 fa:o.fates.length<=1000/\∀ x∈o.fates,Zh7 x
 le:o.letters.length<=1000/\∀ x∈o.letters,SY x
theorem Zc6 (n:Nat) (hn:100000<=n) (o:Otc) (h:OtFit o):∀ (k m i:Nat),i+k=o.letters.length->k<m->C6 n o o m i=some true
 | k,0,i,_,h=>absurd h (Nat.not_lt_zero _)
 | 0,m+1,i,hi,_=>by rw [C6,A4,Ac];rfl
 | k+1,m+1,i,hi,hm=>by
  have a:i<o.letters.length:=by omega
  have:=h.le.1
  rw [C6,A4,Ag a,Ah rfl,Bj a,Ae,Ae,Qs n hn _ (h.le.2 _ (List.getElem_mem a)),Ae,Bool.not_true,Ai (by decide),Ah (A8 (by omega))]
  exact Zc6 n hn o h k m (i+1) (by omega) (by omega)
theorem ZcY (n:Nat) (hn:100000<=n) (o:Otc) (h:OtFit o):∀ (k m i:Nat),i+k=o.fates.length->k<m->C0 n o o m i=some true
 | k,0,i,_,h=>absurd h (Nat.not_lt_zero _)
 | 0,m+1,i,hi,_=>by
  have:=h.le.1
  rw [C0,A4,Ac,Ai (by decide),F7]
  exact Zc6 n hn o h o.letters.length n 0 (by omega) (by omega)
 | k+1,m+1,i,hi,hm=>by
  have a:i<o.fates.length:=by omega
  have:=h.fa.1
  rw [C0,A4,Ag a,Ah rfl,Bj a,Ae,Ae,SN n hn _ (h.fa.2 _ (List.getElem_mem a)),Ae,Bool.not_true,Ai (by decide),Ah (A8 (by omega))]
  exact ZcY n hn o h k m (i+1) (by omega) (by omega)
theorem Zcf (n:Nat) (hn:100000<=n) (o:Otc) (h:OtFit o):∀ (k m i:Nat),i+k=o.requests.length->k<m->CY n o o m i=some true
 | k,0,i,_,h=>absurd h (Nat.not_lt_zero _)
 | 0,m+1,i,hi,_=>by
  have:=h.fa.1
  rw [CY,A4,Ac,Ai (by decide),F6]
  exact ZcY n hn o h o.fates.length n 0 (by omega) (by omega)
 | k+1,m+1,i,hi,hm=>by
  have a:i<o.requests.length:=by omega
  have:=h.rq.1
  rw [CY,A4,Ag a,Ah rfl,Bj a,Ae,Ae,ZX n hn _ (h.rq.2 _ (List.getElem_mem a)),Ae,Bool.not_true,Ai (by decide),Ah (A8 (by omega))]
  exact Zcf n hn o h k m (i+1) (by omega) (by omega)
theorem ZdS (n:Nat) (hn:100000<=n) (o:Otc) (h:OtFit o):∀ (k m i:Nat),i+k=o.outputs.length->k<m->CX n o o m i=some true
 | k,0,i,_,h=>absurd h (Nat.not_lt_zero _)
 | 0,m+1,i,hi,_=>by
  have:=h.rq.1
  rw [CX,A4,Ac,Ai (by decide),GF]
  exact Zcf n hn o h o.requests.length n 0 (by omega) (by omega)
 | k+1,m+1,i,hi,hm=>by
  have a:i<o.outputs.length:=by omega
  have:=h.ou.1
  rw [CX,A4,Ag a,Ah rfl,Bj a,Ae,Ae,Ag rfl,Bool.not_true,Ai (by decide),Qs n hn _ (h.ou.2 _ (List.getElem_mem a)),Ae,Bool.not_true,Ai (by decide),Ah (A8 (by omega))]
  exact ZdS n hn o h k m (i+1) (by omega) (by omega)
theorem Zbe (n:Nat) (hn:100000<=n) (o:Otc) (h:OtFit o):Eu n o o=some true:=by
 have:=h.ou.1
 rw [Eu,WS n hn _ h.st,Ae,Ag rfl,Ag rfl,Ag rfl,Ag rfl,Ai (by decide)]
 exact ZdS n hn o h o.outputs.length n 0 (by omega) (by omega)
theorem Zei (a:ByteArray) (x:Int):(rV [(a,iV x)]).size<=1000:=by simp [rV,iV,Vl.size,JS,JZ]
theorem Zdg (o:CO) (h1:o.st.es.length<=900) (h2:o.rej.length<=900):OtFit (Hi o):=by
 obtain ⟨st,out,req,rej⟩:=o
 refine ⟨NC st (by simp only at h1;omega),⟨?_,?_⟩,⟨?_,?_⟩,⟨?_,?_⟩,⟨?_,?_⟩⟩
 ·cases out<;>simp [Hi]
 ·intro x a
  simp only [Hi,List.mem_map] at a
  obtain ⟨y,_,rfl⟩:=a
  exact ⟨show [1,0].length<=1000 by decide,show [((y.2.1.i:Int)+1)].length<=1000 from by simp,Pi y.2.1 y.2.2⟩
 ·cases req<;>simp [Hi]
 ·intro x a
  simp only [Hi,List.mem_map] at a
  obtain ⟨y,_,rfl⟩:=a
  exact ⟨show [1,0].length<=1000 by decide,Zei _ _⟩
 ·simp only [Hi,List.length_append,List.length_map]
  cases out<;>simp<;>(simp only at h2;omega)
 ·intro x a
  simp only [Hi,List.mem_append,List.mem_map] at a
  rcases a with ⟨y,_,rfl⟩ | ⟨y,_,rfl⟩
  ·exact ⟨show [1].length<=1000 by decide,by simp [HU],by simp [HU]⟩
  ·exact ⟨show [1].length<=1000 by decide,by simp,by simp⟩
 ·simp only [Hi,List.length_map];simp only at h2;omega
 ·intro x a
  simp only [Hi,List.mem_map] at a
  obtain ⟨y,_,rfl⟩:=a
  exact KX _
theorem YE (n:Nat) (hn:100000<=n) (sk:Int × Int × Int × Int) (hsk:ev4 sk) (js:List CI) (outs:List Otc):∀ (l:List CI) (m i:Nat) (s:CS) (now:Int),js.drop i=l->i<=js.length->outs.drop i=(ZZ (cP sk) s l).map Hi->s.ok (cP sk) now i->VW now i l->l.length<m ->
  BX n sk (js.map B9) outs m (i:Int) (Aw s)=some true
 | l,0,_,_,_,_,_,_,_,_,h=>absurd h (Nat.not_lt_zero _)
 | [],m+1,i,s,now,hd,hi,ho,hs,hch,hm=>by
  have:i=js.length:=by have:=List.drop_eq_nil_iff.1 hd;omega
  rw [BX,List.length_map,A4,Ac,Ai (by decide)]
  rfl
 | j::l,m+1,i,s,now,hd,hi,ho,hs,hch,hm=>by
  have a:i<js.length:=by
   rcases Nat.lt_or_ge i js.length with h | h
   ·exact h
   ·rw [List.drop_eq_nil_of_le h] at hd;cases hd
  have t:js[i]=j:=by
   rw [List.drop_eq_getElem_cons a] at hd;exact (List.cons.inj hd).1
  have e:js.drop (i+1)=l:=by
   rw [List.drop_eq_getElem_cons a] at hd;exact (List.cons.inj hd).2
  have c:i<outs.length:=by
   rcases Nat.lt_or_ge i outs.length with h | h
   ·exact h
   ·rw [List.drop_eq_nil_of_le h] at ho;cases ho
  have k:outs[i]=Hi (Du (cP sk) s j):=by
   rw [List.drop_eq_getElem_cons c] at ho;exact (List.cons.inj ho).1
  have g:outs.drop (i+1)=(ZZ (cP sk) (Du (cP sk) s j).st l).map Hi:=by
   rw [List.drop_eq_getElem_cons c] at ho;exact (List.cons.inj ho).2
  obtain ⟨u,p,q,x,v⟩:=hch
  have f:=Ziw hsk
  have d:=Yn f hs u q
  have w:=hs.len
  have r:=d.len
  have o:=f.lim
  have b:Eu n (Hi (Du (cP sk) s j)) (Hi (Du (cP sk) s j))=some true:=Zbe n hn _ (Zdg _ (by omega) (Zbl (by omega) j))
  rw [BX,List.length_map,A4,Ag a,Ah rfl,ZaB hsk,Ae,Bj (by rw [List.length_map];exact a),Ae,List.getElem_map,t,ZdK n hn (cP sk) f s hs (by omega) j p,Ae,Bj c,Ae,k,b,Ae,Bool.not_true,Ai (by decide),Ah (A8 (by omega))]
  exact YE n hn sk hsk js outs l m (i+1) (Du (cP sk) s j).st j.now e a g d v (by simpa using hm)
theorem Zd4 (n:Nat) (hn:100000<=n) (sk:Int × Int × Int × Int) (evs:List (Int × Int × Int × Int)) (hsk:ev4 sk) (hev:∀ e∈evs,ev4 e):FN n sk evs=some true:=by
 have b:=Ziw hsk
 have a:=Uz evs 0 0 (Int.le_refl _) (by omega) hev
 have c:=RP _ 0 0 a (by omega)
 rw [FN,ZV n (by omega),Ae,Bool.not_true,Ai (by decide),ZbM n (by omega) evs hev,Ae,ZaB hsk,Ae,Zjn n hn _ b _ a,Ae]
 exact YE n hn sk hsk _ _ (RO 0 0 evs) n 0 ⟨0,[]⟩ 0 rfl (Nat.zero_le _) rfl (CS.ok0 _) a (by omega)
end Go.Proofs.YtbfenpeblbonlaaGreatDoor
