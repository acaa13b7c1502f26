/-
  Part 7 of the proof: rules and walks that the claim's last text uses.
-/
import Derived.Test.YtmcnjijeocmkgaaGreatDoorLh6
set_option linter.unusedSimpArgs false
set_option linter.unusedVariables false
set_option maxRecDepth 100000
set_option maxHeartbeats 4000000
namespace Go.Proofs.YtmcnjijeocmkgaaGreatDoor
open Go Go.RowKit Go.Ev
def IY (n:Nat)  : Option Bool :=
 some (true)
def CV (n:Nat) (z:List Part) (q:List Part):Nat→Int→Option Bool
 | 0,_=>none
 | m+1,b =>
  if (decide (b<(z.length:Int)))&&(decide (b<(q.length:Int))) then
   (BJ z b).bind fun g =>
   if Cb g then
    (BJ q b).bind fun h =>
    if Cb h then
     if decide (g.kind=3) then
      if (!(decide (g.kind=h.kind)&&(decide (g.index=h.index)&&(Fv g.name h.name))))&&false then
       some (false)
      else
       if A9 (b+1) then
        (CV n z q m) (b+1)
       else none
     else
      if (!(decide (g.kind=h.kind)&&(decide (g.index=h.index)&&(Fv g.name h.name))))&&(!(decide (h.kind=3))) then
       some (false)
      else
       if A9 (b+1) then
        (CV n z q m) (b+1)
       else none
    else
     if !(decide (g.kind=h.kind)&&(decide (g.index=h.index)&&(Fv g.name h.name))) then
      some (false)
     else
      if A9 (b+1) then
       (CV n z q m) (b+1)
      else none
   else
    (BJ q b).bind fun y =>
    if !(decide (g.kind=y.kind)&&(decide (g.index=y.index)&&(Fv g.name y.name))) then
     some (false)
    else
     if A9 (b+1) then
      (CV n z q m) (b+1)
     else none
  else
   IY n 
def Kr (n:Nat) (g:List Part) (b:List Part):Option Bool :=
 CV n g b n 0
theorem Rt (w0:World) (n:Nat) (B:Aq) (Rw:Aw) (L:Av) (a0:List Part) (a1:List Part) (r:Bool) (h:Kr n a0 a1=some r) :
  ACalls Tryz.prog w0 104 [.list (a0.map AD) .none,.list (a1.map AD) .none] ⟨B,Rw,L⟩ fun x st=>x = .val (.bool r)∧st=⟨B,Rw,L⟩:=by
 rw [Kr] at h
 refine hd [.tmp 4] Tryz.func104 Tryz.ntmps104 fun M0 W0 N u t a Q i hs=>?_
 simp only [AB]
 refine rg [0,1] hs ?_
 refine AA (fun e st=>Ck e st B Rw L [] [] [] (IY n  = some r)) ?_ ?_
 ·intro K4 F
  refine rg [0,1,5] hs ?_
  apply Ar
  refine Az (fun m e st=>∃ (b:Int),Ck e st B Rw L [(0,true,.list (a0.map AD) .none),(1,true,.list (a1.map AD) .none),(5,true,Am b)] [] [] (CV n a0 a1 m b=some r)) n ⟨0,([]),Rw,ef hs,ef hs,i,h⟩ ?_
  rintro ml6 e st ⟨b,Xl6,Rl6,rfl,rfl,i,h⟩ Ul6 Vl6
  cases ml6 with
  | zero=>cases h
  | succ ml6 =>
  rw [CV] at h
  refine td N u t a i ?_
  apply An;intro K7 q
  refine rg [0,1,5,16] hs ?_
  refine BL h hs ?_ ?_<;>intro hs h
  rotate_left
  ·refine sx [] hs F ?_
   exact ⟨([]),Rl6,ef hs,ef hs,i,h⟩
  refine sk [0,1,5] hs q ?_
  clear q
  apply An;intro K10 d
  apply Ar
  apply An;intro K11 c
  obtain ⟨k,C,z,g,h⟩:=ix AD h
  rcases Bool.eq_false_or_eq_true (Cb k) with hf13 | hf13
  ·replace h:=Be h hf13
   obtain ⟨l,D,w,j,h⟩:=ix AD h
   rcases Bool.eq_false_or_eq_true (Cb l) with hf15 | hf15
   ·replace h:=Be h hf15
    rcases Bool.eq_false_or_eq_true (decide (k.kind=3)) with hf16 | hf16
    ·replace h:=Be h hf16
     have hs:=Ae g hs
     have hs:=Ae hf13 hs
     have hs:=Ae j hs
     have hs:=Ae hf15 hs
     have hs:=Ae hf16 hs
     refine rk 3 [0,1,5,6] hs ?_
     refine Ax _ (D8 w0 _ _ _ k) (hv hs) ?_
     refine nc hs ?_
     refine Ax _ (D8 w0 _ _ _ l) (hv hs) ?_
     refine ne hs c ?_
     clear c
     refine dg 13 1 1 [0,1,5,59] hs QQ ?_
     refine BL h hs ?_ ?_<;>intro hs h
     ·refine rg [4] hs ?_
      exact rt h hs a i
     refine sk [0,1,5] hs d ?_
     clear d
     obtain ⟨G,h⟩:=Au h
     refine rl [0,1,5] hs (fun e s=>Vl6 ml6 e s (Nat.lt_succ_self _)) ?_
     exact ⟨(b+1),([]),Rl6,ef hs,ef hs,i,h⟩
    ·replace h:=Bh h hf16
     have hs:=Ae g hs
     have hs:=Ae hf13 hs
     have hs:=Ae j hs
     have hs:=Ae hf15 hs
     have hs:=Ae hf16 hs
     refine rk 3 [0,1,5,6] hs ?_
     refine Ax _ (D8 w0 _ _ _ k) (hv hs) ?_
     refine nc hs ?_
     refine Ax _ (D8 w0 _ _ _ l) (hv hs) ?_
     refine ne hs c ?_
     clear c
     refine dg 13 1 1 [0,1,5,59] hs QQ ?_
     refine BL h hs ?_ ?_<;>intro hs h
     ·refine rg [4] hs ?_
      exact rt h hs a i
     refine sk [0,1,5] hs d ?_
     clear d
     obtain ⟨J,h⟩:=Au h
     refine rl [0,1,5] hs (fun e s=>Vl6 ml6 e s (Nat.lt_succ_self _)) ?_
     exact ⟨(b+1),([]),Rl6,ef hs,ef hs,i,h⟩
   ·replace h:=Bh h hf15
    have hs:=Ae g hs
    have hs:=Ae hf13 hs
    have hs:=Ae j hs
    have hs:=Ae hf15 hs
    refine rk 3 [0,1,5,6] hs ?_
    refine Ax _ (D8 w0 _ _ _ k) (hv hs) ?_
    refine nc hs ?_
    refine Ax _ (D8 w0 _ _ _ l) (hv hs) ?_
    refine ne hs c ?_
    clear c
    refine dg 13 1 1 [0,1,5,59] hs QQ ?_
    refine BL h hs ?_ ?_<;>intro hs h
    ·refine rg [4] hs ?_
     exact rt h hs a i
    refine sk [0,1,5] hs d ?_
    clear d
    obtain ⟨H,h⟩:=Au h
    refine rl [0,1,5] hs (fun e s=>Vl6 ml6 e s (Nat.lt_succ_self _)) ?_
    exact ⟨(b+1),([]),Rl6,ef hs,ef hs,i,h⟩
  ·replace h:=Bh h hf13
   have hs:=Ae g hs
   have hs:=Ae hf13 hs
   refine rk 3 [0,1,5,6] hs ?_
   refine Ax _ (D8 w0 _ _ _ k) (hv hs) ?_
   refine nc hs ?_
   refine He ?_
   refine ne hs c ?_
   clear c
   obtain ⟨O,v,h⟩:=bind_some h
   obtain ⟨y,E,o⟩:=AY v
   have p:=AO (f:=AD) o
   have hs:=Ae p hs
   refine dg 13 1 1 [0,1,5,59] hs QQ ?_
   refine BL h hs ?_ ?_<;>intro hs h
   ·refine rg [4] hs ?_
    exact rt h hs a i
   refine sk [0,1,5] hs d ?_
   clear d
   obtain ⟨K,h⟩:=Au h
   refine rl [0,1,5] hs (fun e s=>Vl6 ml6 e s (Nat.lt_succ_self _)) ?_
   exact ⟨(b+1),([]),Rl6,ef hs,ef hs,i,h⟩
 ·clear h;rintro e st ⟨Xk3,Rk3,rfl,rfl,i,h⟩
  rw [IY] at h
  refine td N u t a i ?_
  refine rg [4] hs ?_
  exact rt h hs a i
def D3 (n:Nat) (g:Int→Option Bool) (b:Int):Option Bool :=
 if A9 (b+1) then
  g (b+1)
 else none
def Ji (n:Nat)  : Option Bool :=
 some (false)
def BM (n:Nat) (q:List ByteArray) (h:List Part) (y:List Part):Nat→Int→Option Bool
 | 0,_=>none
 | m+1,b =>
  if decide (b<(q.length:Int)) then
   (BJ q b).bind fun x14 =>
   (Df n x14).bind fun g =>
   if !(decide (g.2=0)) then
    D3 n (BM n q h y m) b 
   else
    (Ho n h g.1).bind fun z =>
    if z then
     some (true)
    else
     (Ho n g.1 h).bind fun y25 =>
     if y25 then
      if 0≤(h.length:Int)∧(h.length:Int)≤(g.1.length:Int)∧(g.1.length:Int)≤(g.1.length:Int) then
       (Kr n (g.1.drop h.length) y).bind fun y28 =>
       if y28 then
        some (true)
       else
        D3 n (BM n q h y m) b 
      else none
     else
      D3 n (BM n q h y m) b 
  else
   Ji n 
def H2 (n:Nat) (h:List ByteArray) (g:List Part) (b:List Part):Option Bool :=
 BM n h g b n 0
theorem UK (w0:World) (hE:JF w0) (hM:Jz w0) (hP:Pow10 w0) (n:Nat) (B:Aq) (Rw:Aw) (L:Av) (a0:List ByteArray) (a1:List Part) (a2:List Part) (r:Bool) (h:H2 n a0 a1 a2=some r) :
  ACalls Tryz.prog w0 68 [.list (a0.map BE) .none,.list (a1.map AD) .none,.list (a2.map AD) .none] ⟨B,Rw,L⟩ fun x st=>x = .val (.bool r)∧st=⟨B,Rw,L⟩:=by
 rw [H2] at h
 refine hd [.tmp 6] Tryz.func68 Tryz.ntmps68 fun M0 W0 G q p b Q d hs=>?_
 simp only [AB]
 refine rg [0,1,2] hs ?_
 refine AA (fun e st=>Ck e st B Rw L [] [] [] (Ji n  = some r)) ?_ ?_
 ·intro K4 J
  refine rg [1,2,11,12,13] hs ?_
  apply Ar
  refine Az (fun m e st=>∃ (a:Int),Ck e st B Rw L [(1,true,.list (a1.map AD) .none),(2,true,.list (a2.map AD) .none),(11,true,.list (a0.map BE) .none),(12,true,Am (a0.length:Int)),(13,true,Am a)] [] [] (BM n a0 a1 a2 m a=some r)) n ⟨0,([]),Rw,ef hs,ef hs,d,h⟩ ?_
  rintro ml6 e st ⟨a,Xl6,Rl6,rfl,rfl,d,h⟩ Ul6 Vl6
  cases ml6 with
  | zero=>cases h
  | succ ml6 =>
  rw [BM] at h
  refine td G q p b d ?_
  refine rg [1,2,11,12,13,14] hs ?_
  apply An;intro K8 w
  refine BL h hs ?_ ?_<;>intro hs h
  rotate_left
  ·refine sx [] hs J ?_
   exact ⟨([]),Rl6,ef hs,ef hs,d,h⟩
  refine sk [1,2,11,12,13] hs w ?_
  clear w
  refine AA (fun e st=>Ck e st B Rw L [(1,true,.list (a1.map AD) .none),(2,true,.list (a2.map AD) .none),(11,true,.list (a0.map BE) .none),(12,true,Am (a0.length:Int)),(13,true,Am a)] [] [] (D3 n (BM n a0 a1 a2 ml6) a  = some r)) ?_ ?_
  ·intro K12 i
   apply Ar
   obtain ⟨H,z,h⟩:=bind_some h
   obtain ⟨F,E,t⟩:=AY z
   have u:=AO (f:=BE) t
   have hs:=Ae u hs
   refine rg [1,2,8,11,12,13] hs ?_
   obtain ⟨g,v,h⟩:=bind_some h
   refine rc 2 [1,2,9,10,11,12,13] hs ?_;intro K15 k
   refine Ax _ (F7 w0 hE hM hP n _ _ _ H _ v) (hv hs) ?_
   refine ne hs k ?_
   clear k
   apply An;intro K17 o
   refine rg [1,2,9,11,12,13,23] hs ?_
   refine BL h hs ?_ ?_<;>intro hs h
   ·refine sx [1,2,11,12,13] hs i ?_
    exact ⟨([]),Rl6,ef hs,ef hs,d,h⟩
   refine sk [1,2,9,11,12,13] hs o ?_
   clear o
   apply An;intro K20 c
   obtain ⟨C,j,h⟩:=bind_some h
   rcases Bool.eq_false_or_eq_true (C) with hf22 | hf22
   ·replace h:=Be h hf22
    have hs:=Ae hf22 hs
    refine rk 4 [1,2,11,12,13,39] hs ?_
    refine Ax _ (HW w0 n _ _ _ a1 g.1 _ j) (hv hs) ?_
    refine nc hs ?_
    refine E1 ?_
    refine nc hs ?_
    refine E1 ?_
    refine ne hs c ?_
    clear c
    refine AN true ev (ef hs) (fun hb23=>?_) (fun hb23=>by cases hb23)
    refine rg [6] hs ?_
    exact rt h hs b d
   ·replace h:=Bh h hf22
    obtain ⟨D,l,h⟩:=bind_some h
    rcases Bool.eq_false_or_eq_true (D) with hf26 | hf26
    ·replace h:=Be h hf26
     obtain ⟨N,h⟩:=Au h
     obtain ⟨O,y,h⟩:=bind_some h
     have hs:=Ae hf22 hs
     have hs:=Ae hf26 hs
     refine rk 4 [1,2,11,12,13,39] hs ?_
     refine Ax _ (HW w0 n _ _ _ a1 g.1 _ j) (hv hs) ?_
     refine nc hs ?_
     refine Ax _ (HW w0 n _ _ _ g.1 a1 _ l) (hv hs) ?_
     refine nc hs ?_
     refine Ax _ (Rt w0 n _ _ _ (g.1.drop a1.length) a2 _ y) (hv hs) ?_
     refine ne hs c ?_
     clear c
     refine BL h hs ?_ ?_<;>intro hs h
     ·refine rg [6] hs ?_
      exact rt h hs b d
     refine sk [1,2,11,12,13] hs i ?_
     exact ⟨([]),Rl6,ef hs,ef hs,d,h⟩
    ·replace h:=Bh h hf26
     have hs:=Ae hf22 hs
     have hs:=Ae hf26 hs
     refine rk 4 [1,2,11,12,13,39] hs ?_
     refine Ax _ (HW w0 n _ _ _ a1 g.1 _ j) (hv hs) ?_
     refine nc hs ?_
     refine Ax _ (HW w0 n _ _ _ g.1 a1 _ l) (hv hs) ?_
     refine nc hs ?_
     refine E1 ?_
     refine ne hs c ?_
     clear c
     refine AN false ev (ef hs) (fun hb31=>by cases hb31) (fun hb31=>?_)
     refine sk [1,2,11,12,13] hs i ?_
     exact ⟨([]),Rl6,ef hs,ef hs,d,h⟩
  ·clear h;rintro e st ⟨Xk11,Rk11,rfl,rfl,d,h⟩
   rw [D3] at h
   refine td G q p b d ?_
   obtain ⟨K,h⟩:=Au h
   refine rl [1,2,11,12,13] hs (fun e s=>Vl6 ml6 e s (Nat.lt_succ_self _)) ?_
   exact ⟨(a+1),([]),Rk11,ef hs,ef hs,d,h⟩
 ·clear h;rintro e st ⟨Xk3,Rk3,rfl,rfl,d,h⟩
  rw [Ji] at h
  refine td G q p b d ?_
  refine rg [6] hs ?_
  exact rt h hs b d
theorem W3 (n:Nat) (l f:List Part) (hl:l.length≤1000000) (hn:l.length<n):Dm n l f=some (O6 l f):=by
 rw [Dm,O6]
 by_cases h:f.length≤l.length
 ·have a:(l.take f.length).length=f.length:=by rw [List.length_take];omega
  rw [Ad,Ai rfl,Ai ⟨by decide,by omega,by omega⟩,ZeT n _ f a (by omega) (by omega),SU,Af,Ah h,Bool.true_and]
 ·rw [Ac,Aj (by decide),Ag h,Bool.false_and]
theorem V7 (n:Nat) (a b:List Part) (h:b.length≤a.length) (hl:b.length≤1000000):∀ (k m i:Nat),i+k=b.length→k<m→EC n a b m i=some (Ip WL (a.drop i) (b.drop i))
 | k,0,i,_,h=>absurd h (Nat.not_lt_zero _)
 | 0,m+1,i,hi,_=>by
  rw [EC,AH,Ac,Aj (by decide),JL,WU _ (by omega)]
 | k+1,m+1,i,hi,hm=>by
  have d:i<a.length:=by omega
  have c:i<b.length:=by omega
  have ih:=V7 n a b h hl k m (i+1) (by omega) (by omega)
  rw [EC,AH,Ah c,Ai rfl,AK d,Af,AK c,Af,PO _ d c]
  show (if (!WL a[i] b[i])=true then _ else _)=_
  cases WL a[i] b[i] with
  | false=>rfl
  | true =>
   rw [Aj (by decide),Ai (AG (by omega)),Bool.true_and]
   exact ih
theorem Xv (n:Nat) (l f:List Part) (hl:f.length≤1000000) (hn:f.length<n):Ho n l f=some (O6 l f):=by
 rw [Ho,O6]
 by_cases h:f.length≤l.length
 ·rw [Ac,Aj (by decide),Ah h,Bool.true_and]
  have:=V7 n l f h hl f.length n 0 (by omega) hn
  rw [List.drop_zero,List.drop_zero] at this
  exact this
 ·rw [Ad,Ai rfl,Ag h,Bool.false_and]
def Part.plain (p:Part):Prop:=p.kind=3→p.index=0∧p.name=⟨#[]⟩
theorem Pi {p:Part} (h:pOk p=true):p.plain:=fun k=>by
 unfold pOk at h
 rw [Aa,Aa,Ai k,Bool.and_eq_true] at h
 exact ⟨of_decide_eq_true h.2,(PR _ _).1 h.1⟩
theorem Uy (n:Nat) (a b:List Part) (h:a.length=b.length) (hl:a.length≤1000000):∀ (k m i:Nat),i+k=a.length→k<m→Bl n a b (fun (x0:Part) (x1:Part)=>some (AU x0 x1)) m i=some (Ip AU (a.drop i) (b.drop i))
 | k,0,i,_,h=>absurd h (Nat.not_lt_zero _)
 | 0,m+1,i,hi,_=>by
  rw [Bl,AH,Ac,Aj (by decide),E7,S7 _ (by omega)]
 | k+1,m+1,i,hi,hm=>by
  have d:i<a.length:=by omega
  have c:i<b.length:=by omega
  have ih:=Uy n a b h hl k m (i+1) (by omega) (by omega)
  rw [Bl,AH,Ah d,Ai rfl,AK d,Af,AK c,Af,PO _ d c,Af]
  cases AU a[i] b[i] with
  | false=>rfl
  | true =>
   rw [Aj (by decide),Ai (AG (by omega)),Bool.true_and]
   exact ih
theorem Zx (f:Part→Part→Bool):∀ (a b:List Part) (k:Nat),a.length≤k∨b.length≤k→Ip f (a.take k) (b.take k)=Ip f a b
 | [],b,k,_=>by simp [Ip]
 | x::a,[],k,_=>by rw [List.take_nil,ON,ON]
 | x::a,y::b,0,h=>by simp at h
 | x::a,y::b,k+1,h=>by
  rw [List.take_succ_cons,List.take_succ_cons,Ip,Ip,Zx f a b k (by simp only [List.length_cons] at h;omega)]
theorem Zam (n:Nat) (a b:List Part) (hl:a.length≤1000000) (hn:a.length<n):Hu n a b=some (Ip AU a b):=by
 have g:∃ k:Nat,(if (b.length:Int)<(a.length:Int) then (b.length:Int) else (a.length:Int))=(k:Int)∧k≤a.length∧k≤b.length∧(a.length≤k∨b.length≤k):=by
  by_cases c:(b.length:Int)<(a.length:Int)
  ·rw [Ai c];exact ⟨b.length,rfl,by omega,by omega,by omega⟩
  ·rw [Aj c];exact ⟨a.length,rfl,by omega,by omega,by omega⟩
 obtain ⟨k,d,i,l,f⟩:=g
 have e:(k:Int).toNat=k:=rfl
 have j:(a.take k).length=k:=by rw [List.length_take];omega
 have h:(b.take k).length=k:=by rw [List.length_take];omega
 rw [Hu,d,Ai ⟨by decide,by omega,by omega⟩,Ai ⟨by decide,by omega,by omega⟩,e,Fz,Ad,Aj (by decide)]
 have:=Uy n (a.take k) (b.take k) (by omega) (by omega) k n 0 (by omega) (by omega)
 rw [List.drop_zero,List.drop_zero,Zx _ a b k f] at this
 have this:Bl n (a.take k) (b.take k) (fun (x0:Part) (x1:Part)=>some (AU x0 x1)) n 0=_:=this
 rw [this,Af]
theorem Tu (n:Nat) (a b:List Part) (ha:∀ p∈a,p.plain) (hb:∀ p∈b,p.plain) (hl:a.length≤1000000):∀ (k m i:Nat),i+k=a.length→k<m→CV n a b m i=some (Ip AU (a.drop i) (b.drop i))
 | k,0,i,_,h=>absurd h (Nat.not_lt_zero _)
 | 0,m+1,i,hi,_=>by
  rw [CV,AH,Ag (show ¬ i<a.length by omega),Bool.false_and,Aj (by decide),IY,S7 _ (by omega)]
 | k+1,m+1,i,hi,hm=>by
  have c:i<a.length:=by omega
  rw [CV,AH,AH,Ah c,Bool.true_and]
  by_cases hlt2:i<b.length
  rotate_left
  ·rw [Ag hlt2,Aj (by decide),IY,WU _ (by omega)]
  have ih:=Tu n a b ha hb hl k m (i+1) (by omega) (by omega)
  have pa:=ha _ (List.getElem_mem c)
  have pb:=hb _ (List.getElem_mem hlt2)
  rw [Ah hlt2,Ai rfl,AK c,Af,AK hlt2,Af,PO _ c hlt2]
  generalize Ip AU (a.drop (i+1)) (b.drop (i+1))=R at ih ⊢
  have ih:CV n a b m ((i:Int)+1)=some R:=ih
  generalize a[i]=x at pa ⊢
  generalize b[i]=y at pb ⊢
  rw [Ai (AG (by omega)),ih]
  show (if Cb x=true then (if Cb y=true then (if decide (x.kind=3)=true then (if ((!WL x y)&&false)=true then some false else some R) else (if ((!WL x y) && !(decide (y.kind=3)))=true then some false else some R)) else (if (!WL x y)=true then some false else some R)) else (some y).bind fun y=>(if (!WL x y)=true then some false else some R))=some (AU x y&&R)
  have j:AU x y=((WL x y||(decide (x.kind=3)&&decide (y.kind=2)))||(decide (x.kind=2)&&decide (y.kind=3))):=rfl
  have f:WL x y=true→x.kind=y.kind:=fun h=>by
   unfold WL at h
   rw [Bool.and_eq_true] at h
   exact of_decide_eq_true h.1
  have d:x.kind=3→y.kind=3→WL x y=true:=fun e g=>by
   obtain ⟨a1,a2⟩:=pa e
   obtain ⟨l,o⟩:=pb g
   unfold WL
   rw [e,g,a1,a2,l,o,ZW];rfl
  rw [j,Cb,Cb,Af]
  by_cases c3:x.kind=3
  ·by_cases d3:y.kind=3
   ·rw [d c3 d3];simp [c3,d3]
   ·by_cases d2:y.kind=2
    ·simp [c3,d2]
    ·have:WL x y=false:=Bool.eq_false_iff.2 fun q=>d3 ((f q).symm.trans c3)
     simp [c3,d3,d2,this]
  ·by_cases c2:x.kind=2
   ·by_cases d3:y.kind=3
    ·simp [c2,d3]
    ·by_cases d2:y.kind=2
     ·cases WL x y<;>simp [c2,d2]
     ·have:WL x y=false:=Bool.eq_false_iff.2 fun q=>d2 ((f q).symm.trans c2)
      simp [c2,d3,d2,this]
   ·cases WL x y<;>simp [c3,c2]
theorem TK (n:Nat) (a b:List Part) (ha:∀ p∈a,p.plain) (hb:∀ p∈b,p.plain) (hl:a.length≤1000000) (hn:a.length<n):Kr n a b=some (Ip AU a b):=by
 have:=Tu n a b ha hb hl a.length n 0 (by omega) hn
 rw [List.drop_zero,List.drop_zero] at this
 exact this
def QZ (n:Nat) (f leaf:List Part) (s:ByteArray):Bool :=
 decide ((prs n s).2=0)&&(O6 f (prs n s).1||(O6 (prs n s).1 f&&Ip AU ((prs n s).1.drop f.length) leaf))
theorem Zad {l f:List Part} (h:O6 l f=true):f.length≤l.length:=by
 unfold O6 at h
 rw [Bool.and_eq_true] at h
 exact of_decide_eq_true h.1
theorem Zhc (n:Nat) (hn:400≤n) (s:ByteArray) (f leaf:List Part) (hf:f.length≤16):En n s f leaf=some (QZ n f leaf s):=by
 obtain ⟨e,ok⟩:=UA n (by omega) s
 have o1:=ok.1
 rw [En,e,Af,QZ]
 generalize prs n s=r at ok o1 ⊢
 by_cases c:r.2=0
 rotate_left
 ·rw [Ag c];rfl
 rw [Ah c,Ai rfl,Bool.true_and,W3 n _ _ (by omega) (by omega),Af,W3 n _ _ (by omega) (by omega),Af]
 cases O6 f r.1 with
 | true=>rfl
 | false =>
  rw [Aj (by decide),Bool.false_or]
  cases h:O6 r.1 f with
  | false=>rfl
  | true =>
   have:=Zad h
   have a:(f.length:Int).toNat=f.length:=rfl
   rw [Ai rfl,Ai ⟨by omega,by omega,by omega⟩,Zam n _ _ (by rw [List.length_drop];omega) (by rw [List.length_drop];omega),Bool.true_and,Af]
theorem Zja (n:Nat) (hn:1100≤n) (ss:List ByteArray) (hs:ss.length≤1000) (f leaf:List Part) (hf:f.length≤16):FO n ss f leaf=some (ss.any (QZ n f leaf)):=by
 rw [FO,XU n ss _ (QZ n f leaf) (fun x _=>Zhc n (by omega) x f leaf hf) (by omega) (by omega),Af]
theorem XM (n:Nat) (hn:1100≤n) (ss:List ByteArray) (hs:ss.length≤1000) (f leaf:List Part) (hf:f.length≤16) (hb:∀ p∈leaf,p.plain):∀ (k m i:Nat),i+k=ss.length→k<m→BM n ss f leaf m i=some ((ss.drop i).any (QZ n f leaf))
 | k,0,i,_,h=>absurd h (Nat.not_lt_zero _)
 | 0,m+1,i,hi,_=>by
  rw [BM,AH,Ac,Aj (by decide),Ji,List.drop_eq_nil_of_le (by omega)];rfl
 | k+1,m+1,i,hi,hm=>by
  have a:i<ss.length:=by omega
  obtain ⟨e,ok⟩:=UA n (by omega) ss[i]
  have o1:=ok.1
  have ih:=XM n hn ss hs f leaf hf hb k m (i+1) (by omega) (by omega)
  have b:D3 n (BM n ss f leaf m) i=some ((ss.drop (i+1)).any (QZ n f leaf)):=by
   rw [D3,Ai (AG (by omega))];exact ih
  rw [BM,AH,Ah a,Ai rfl,AK a,Af,e,Af,List.drop_eq_getElem_cons a,List.any_cons,b,QZ]
  generalize prs n ss[i]=r at ok o1 ⊢
  generalize (ss.drop (i+1)).any (QZ n f leaf)=R
  by_cases c:r.2=0
  rotate_left
  ·rw [Ag c];rfl
  rw [Ah c,Aj (by decide),Bool.true_and,Xv n _ _ (by omega) (by omega),Af,Xv n _ _ (by omega) (by omega),Af]
  cases O6 f r.1 with
  | true=>rfl
  | false =>
   rw [Aj (by decide),Bool.false_or]
   cases h:O6 r.1 f with
   | false=>rfl
   | true =>
    have:=Zad h
    have g:(f.length:Int).toNat=f.length:=rfl
    rw [Ai rfl,Ai ⟨by omega,by omega,by omega⟩,TK n _ _ (fun p d=>Pi (ok.2 p (List.mem_of_mem_drop d)).2) hb (by rw [List.length_drop];omega) (by rw [List.length_drop];omega),Bool.true_and,Af]
    cases Ip AU (r.1.drop f.length) leaf<;>rfl
theorem Zc6 (n:Nat) (hn:1100≤n) (ss:List ByteArray) (hs:ss.length≤1000) (f leaf:List Part) (hf:f.length≤16) (hb:∀ p∈leaf,p.plain):H2 n ss f leaf=some (ss.any (QZ n f leaf)):=by
 have:=XM n hn ss hs f leaf hf hb ss.length n 0 (by omega) (by omega)
 rw [List.drop_zero] at this
 exact this
theorem Z7 (n:Nat) (l:List Part) (hp:∀ p∈l,pOk p=true) (hl:l.length≤20):∀ (k m i:Nat) (s:ByteArray),i+k=l.length→k<m→s.size≤40*i→i≤s.size→1≤l.length→∃ r,Ir n l m s i=some r
 | k,0,i,_,_,h,_,_,_=>absurd h (Nat.not_lt_zero _)
 | 0,m+1,i,s,hi,_,h,h2,h1=>by
  rw [Ir,AH,Ac,Aj (by decide),NK,Ai ⟨by decide,by omega,by omega⟩]
  exact ⟨_,rfl⟩
 | k+1,m+1,i,s,hi,hm,h,h2,h1=>by
  have a:i<l.length:=by omega
  obtain ⟨w,e,z,c,b⟩:=Zo l[i] (hp _ (List.getElem_mem a))
  rw [Ir,AH,Ah a,Ai rfl,AK a,Af,e,Af,Ab,Ai (AG (by omega))]
  exact Z7 n l hp hl k m (i+1) (s++w) (by omega) (by omega) (by rw [ByteArray.size_append];omega) (by rw [ByteArray.size_append];omega) h1
theorem Zg0 (n:Nat) (hn:25≤n) (l:List Part) (hp:∀ p∈l,p.wf∧pOk p=true) (hl:l.length≤20):∃ r,Hi n l=some r:=by
 obtain ⟨b,e⟩:=Zai n hn l (fun p h=>(hp p h).1) hl
 rw [Hi,e,Af]
 cases b with
 | false=>exact ⟨_,rfl⟩
 | true =>
  rw [Ai rfl,Aj (by decide)]
  rcases Nat.eq_zero_or_pos l.length with h | h
  ·have:l=[]:=List.length_eq_zero_iff.1 h
   subst this
   rw [JE] at e
   rw [Ai (by rfl)] at e
   exact absurd (Option.some.inj e) (by decide)
  ·exact Z7 n l (fun p h=>(hp p h).2) hl l.length n 0 ⟨#[]⟩ (by omega) (by omega) (Nat.zero_le _) (Nat.zero_le _) h
def ZjG (n:Nat) (l:List Part):ByteArray × Int:=(Hi n l).getD (⟨#[]⟩,0)
theorem YK (n:Nat) (hn:25≤n) (l:List Part) (hp:∀ p∈l,p.wf∧pOk p=true) (hl:l.length≤20):Hi n l=some (ZjG n l):=by
 obtain ⟨r,e⟩:=Zg0 n hn l hp hl
 rw [ZjG,e];rfl
theorem Leads.pOk {t x:Ty} {l:List Part} (h:Leads t l x) (tg:t.Good):∀ p∈l,p.wf∧pOk p=true:=by
 intro p hp
 refine ⟨h.wf tg p hp,?_⟩
 induction h with
 | nil=>simp at hp
 | @cons t x q l h k ih =>
  rcases List.mem_cons.1 hp with rfl | hp
  ·have own:=tg.own
   unfold BK at h
   split at h
   ·obtain ⟨e,a,rfl⟩:=List.mem_map.1 h;rfl
   ·split at h
    ·obtain ⟨e,a,rfl⟩:=List.mem_map.1 h
     have:=(own.each e a).1
     show (if (1:Int)=1∨(1:Int)=4 then decide ((0:Int)=0)&&FZ e.2.1 else _)=true
     rw [Ai (by decide),this];rfl
    ·split at h
     ·obtain ⟨e,a,rfl⟩:=List.mem_map.1 h
      have:=(own.each e a).1
      show (if (4:Int)=1∨(4:Int)=4 then decide ((0:Int)=0)&&FZ e.2.1 else _)=true
      rw [Ai (by decide),this];rfl
     ·simp at h
  ·exact ih (Ta tg h) hp
def LeavesOk (ls:List (List Part)):Prop:=ls.length≤1000∧∀ l∈ls,l.length≤20∧∀ p∈l,p.wf∧pOk p=true
theorem NH (n:Nat) (hn:3000000≤n) (t:Ty) (ht:t.small):∃ c ls,IK n t=some c∧D6 n t=some ls∧LeavesOk ls:=by
 have g:=ht.1
 have i:=ht.2.1
 obtain ⟨c,e,f⟩:=Zl n t hn ht
 by_cases h:c=0
 ·have tg:=(f h).good
  refine ⟨c,lvs n t [],e,?_,?_⟩
  ·rw [D6,e,Af,Ah h,Aj (by decide),Tn n t [] [] (by omega) (by simp only [List.length_nil];omega) (by omega) (by simp only [List.length_nil];omega),List.nil_append]
   rfl
  ·have:=X6 n t []
   refine ⟨by omega,fun l a=>?_⟩
   obtain ⟨b,x,q1,q2,q3,d⟩:=WV n t [] l a
   rw [List.nil_append] at q1
   subst q1
   exact ⟨by omega,q2.pOk tg⟩
 ·refine ⟨c,[],e,?_,by simp,by simp⟩
  rw [D6,e,Af,Ag h]
  rfl
theorem UX (n:Nat) (y:List (List Part)) (hl:y.length≤1000000):∀ (k m i:Nat),i+k=y.length→k<m→Es n y m (y.take i) i=some y
 | k,0,i,_,h=>absurd h (Nat.not_lt_zero _)
 | 0,m+1,i,hi,_=>by
  rw [Es,AH,Ac,Aj (by decide),Jc,List.take_of_length_le (by omega)]
 | k+1,m+1,i,hi,hm=>by
  have a:i<y.length:=by omega
  rw [Es,AH,Ah a,Ai rfl,AK a,Af,Ai (by rw [List.length_take];omega),Ai (AG (by omega))]
  have e:y.take i++[y[i]]=y.take (i+1):=by rw [List.take_succ_eq_append_getElem a]
  rw [e]
  exact UX n y hl k m (i+1) (by omega) (by omega)
theorem Zbn (n:Nat) (t:Ty) (ls:List (List Part)) (h:D6 n t=some ls) (hl:ls.length≤1000000) (hn:ls.length<n):GA n t=some ls:=by
 rw [GA,h,Af]
 have:=UX n ls hl ls.length n 0 (by omega) hn
 rw [List.take_zero] at this
 exact this
theorem Zaq (n:Nat) (a:List ByteArray) (hl:a.length≤1000000):∀ (k m i:Nat),i+k=a.length→k<m→Gg n a a m i=some true
 | k,0,i,_,h=>absurd h (Nat.not_lt_zero _)
 | 0,m+1,i,hi,_=>by
  rw [Gg,AH,Ac,Aj (by decide),MD]
 | k+1,m+1,i,hi,hm=>by
  have b:i<a.length:=by omega
  rw [Gg,AH,Ah b,Ai rfl,AK b,Af,Af,ZW,Aj (by decide),Ai (AG (by omega))]
  exact Zaq n a hl k m (i+1) (by omega) (by omega)
theorem ZcG (n:Nat) (a:List ByteArray) (hl:a.length≤1000000) (hn:a.length<n):LP n a a=some true:=by
 rw [LP,Ah rfl,Aj (by decide)]
 exact Zaq n a hl a.length n 0 (by omega) hn
end Go.Proofs.YtmcnjijeocmkgaaGreatDoor
namespace Go.Ev
open Go Go.RowKit
section
variable {P:Program} {w0:World} {n:Nat} {e:Env} {st:St} {M0:Mem} {W0:World} {ro:Option Nat} {Q:AQ} {c:Code}
@[go_sem] theorem set_mapA (L:List LoopA) (a b:LoopA):(L++[a]).set L.length b=L++[b]:=by simp
theorem Xp {B0 B bs X:List (List AV)} {Rw rows:List RowA} {L:List LoopA} {ks:List ByteArray} {l:List (Nat × Nat × Own)} {oh:Own} {v:List VE} (hN:M0.N=B0.length) (hNR:M0.NR=Rw.length) (hNL:M0.NL=L.length) (hB:B.length=B0.length) (hc:Calm B0.length Rw.length L.length ⟨B,Rw,L⟩) (ho:Owns Rw rows l oh v)
  (hbs:∀ cs∈bs,∀ x∈cs,Under (B0.length+bs.length) rows.length (L.length+1) x) (he:Jn (B0.length+bs.length) rows.length (L.length+1) e)
  (h:Eb P w0 n M0 W0 ro c Q e ⟨B++bs,rows,L++[RS ks]⟩) (hv:∀ x∈v,∀ y∈x.2.2,Under (B0.length+bs.length) rows.length (L.length+1) y:=by intro x hx;cases hx):Eb P w0 n M0 W0 ro c Q e ⟨B++(bs++X),rows,L++[RS ks]⟩:=by
 rw [←hB] at hN hc hbs he hv
 clear hB B0
 have g:=ho.len
 have b:St.cut ⟨B++(bs++X),rows,L++[RS ks]⟩ (B.length+bs.length) rows.length (L.length+1)=⟨B++bs,rows,L++[RS ks]⟩:=by
  simp only [St.cut,List.take_length,←List.append_assoc]
  rw [List.take_left' (by simp),List.take_of_length_le (by simp)]
 refine Up (B.length+bs.length) rows.length (L.length+1) (by simp) (Nat.le_refl _) (by simp) (by omega) (by omega) (by omega) ?_ he (by rw [b];exact h)
 rw [b]
 refine ⟨fun r a x hx=>?_,fun cs hcs x hx=>?_,fun d hla k x hx f=>?_⟩
 ·exact ho.rowsCalm (by omega) (fun r a x hx=>Bn (Nat.le_refl _) (Nat.le_refl _) (by omega) (hc.rows r a x hx)) hv r a x hx
 ·rcases List.mem_append.1 hcs with hcs | hcs
  ·exact Bn (by omega) (by omega) (by omega) (hc.boxes cs hcs x hx)
  ·exact hbs cs hcs x hx
 ·rcases List.mem_append.1 hla with hla | hla
  ·exact Bn (by omega) (by omega) (by omega) (hc.loops d hla k x hx f)
  ·rw [List.mem_singleton.1 hla] at hx
   simp [RS,look] at hx
theorem X2 {o:VO} {m sz:Nat} {cs xs:List AV} {Rw:List RowA} {lw:List (Nat × Nat × Own)} {oh:Own} {v:List VE} (l i:Nat) {bs:List AV} (hl:st.boxes[l]? = some bs) (hi:bs[i]? = some (Ks o m)) (ho:Owns Rw st.rows lw oh ((o,sz,cs)::v)) (ag:Bool) (hag:ag=true∨sz=1) (hs:0<sz) (hn:cs.length=m*sz) (hx:OA sz ag cs 0 m=xs)
  (h:∀ rows',rows'.length=st.rows.length→Owns Rw rows' lw oh v→Eb P w0 n M0 W0 ro c Q e { st with boxes:=st.boxes.set l (bs.set i (.list xs .none)),rows:=rows' }):Eb P w0 n M0 W0 ro c Q e st:=by
 cases o with
 | nil =>
  have e0:=ho.nilZ hs hn rfl
  subst e0
  have ex:xs=[]:=by rw [←hx];rfl
  subst ex
  exact OW l i hl hi rfl (h _ rfl (ho.dropV (x:=(.nil,0,[]))))
 | row id ver =>
  rcases ho.veach _ (List.mem_cons_self ..) with q | ⟨id',ver',q1,q2,q3⟩
  ·cases q.1
  ·cases q1
   subst hx
   exact OK l i ag hl hi (by simp only [C4,q3,if_true]) hag (by rw [Nat.zero_add];omega) (h _ (by simp) ho.deadV)
end
theorem ZeC {M1:Mem} {B bs0 bs:List (List AV)} {Rw R0 R1:List RowA} {L:List LoopA} {la:LoopA} (hra:RoundAt M1 ((St.push ⟨B++bs0,R0,L⟩ la).ext ⟨[],[],[]⟩)) (hc:Calm B.length Rw.length L.length ⟨B,Rw,L⟩) (ho:Owns Rw R1 []) (hl:bs.length=bs0.length) (hR:R1.length=R0.length)
  (hbs:∀ cs∈bs,∀ x∈cs,Under (B.length+bs.length) R1.length L.length x) :
  M1.N=(B++bs).length∧M1.NR=R1.length∧M1.NL=(L++[la]).length∧Calm (B++bs).length R1.length (L++[la]).length ⟨B++bs,R1,L++[la]⟩:=by
 have e:=hra.N
 have j:=hra.NR
 have l:=hra.NL
 have d:=hra.calm
 simp only [St.ext,St.push,List.append_nil] at e j l d
 have i:=Zfe (bs:=bs) rfl hc ho hbs
 have g:(B++bs).length=B.length+bs.length:=List.length_append
 have f:(B++bs0).length=B.length+bs.length:=by rw [List.length_append,hl]
 have h:(L++[la]).length=L.length+1:=by simp
 rw [f,←hR,h] at d
 refine ⟨by rw [e,g,f],by rw [j,hR],l,?_⟩
 rw [g,h]
 refine ⟨fun r o x b=>Bn (Nat.le_refl _) (Nat.le_refl _) (by omega) (i.rows r o x b),fun cs c x b=>Bn (Nat.le_refl _) (Nat.le_refl _) (by omega) (i.boxes cs c x b),fun a m k x b n=>d.loops a m k x b n⟩
theorem ZdC {I:Exit→St→Prop} {KQ:AQ} {B bs0 bs:List (List AV)} {R0 R1 rows:List RowA} {L:List LoopA} {la:LoopA} {o:VO} {sz m:Nat} {cs:List AV} {X:List (List AV)} {e:Env} (k:Nat) (hKQ:∀ ex e s,Y0 I ⟨B++bs0,R0,L⟩ ⟨[],[],[]⟩ la ex e s→KQ ex e s) (hl:bs.length=bs0.length) (hR:R1.length=R0.length)
  (hc:Calm (B++bs).length R1.length (L++[la]).length ⟨B++bs,R1,L++[la]⟩) (ho:Owns R1 rows [] .none [(o,sz,cs)]) (hu:∀ y∈cs,Under (B++bs).length rows.length (L++[la]).length y)
  (hI:I .normal ⟨B++bs.set k [Ks o m],rows,L⟩):KQ .normal e ⟨(B++bs).set (B.length+k) [Ks o m]++X,rows,L++[la]⟩:=by
 have c:=ho.len
 have f:(B++bs).set (B.length+k) [Ks o m]=B++bs.set k [Ks o m]:=by rw [List.set_append_right _ _ (by omega),Nat.add_sub_cancel_left]
 have h:(B++bs.set k [Ks o m]).length=(B++bs0).length:=by simp [hl]
 have i:(B++bs0).length=(B++bs).length:=by simp [hl]
 rw [f]
 refine hKQ _ _ _ ⟨⟨B++bs.set k [Ks o m],rows,L⟩,X,by simp,⟨h,by simp only;omega,rfl⟩,rfl,hI,.inr ?_⟩
 simp only [List.length_nil,Nat.add_zero,List.append_nil]
 rw [i]
 refine ⟨fun r c x b=>?_,fun n hd x b=>?_,fun a g j x b l=>Bn (Nat.le_refl _) c (Nat.le_refl _) (hc.loops a g j x b l)⟩
 ·exact ho.rowsCalm (Nat.le_refl _) hc.rows (fun x b y d=>by rw [List.mem_singleton.1 b] at d;exact hu y d) r c x b
 ·rw [←f] at hd
  rcases List.mem_or_eq_of_mem_set hd with hd | rfl
  ·exact Bn (Nat.le_refl _) c (Nat.le_refl _) (hc.boxes n hd x b)
  ·rw [List.mem_singleton.1 b]
   exact Zdg.2 (ho.underV _ (List.mem_singleton.2 rfl))
@[go_sem] theorem Zk5 (m:List Bool) (o:VO) (n:Nat):pubS m (Ks o n)=Ks o n:=by cases o<;>rfl
theorem Zjl {B B':List (List AV)} {R0 rows:List RowA} {L:List LoopA} {Post:AV→St→Prop} {r:AV} {ow:List (Nat × Nat × Own)} {v:List VE} (ho:Owns R0 rows ow .none v) (hc:Calm B.length R0.length L.length ⟨B',R0,L⟩) (hB:B'.length=B.length) (hu:Under B.length rows.length L.length r)
  (hv:∀ x∈v,∀ y∈x.2.2,Under B.length rows.length L.length y) (hp:Post r ⟨B',rows,L⟩):Go.Ev.finV ⟨B,R0,L⟩ Post r ⟨B',rows,L⟩:=by
 have:=Zbl (X:=[]) ho hc hB hu hv hp
 rwa [List.append_nil] at this
end Go.Ev
namespace Go.Proofs.YtmcnjijeocmkgaaGreatDoor
open Go Go.RowKit Go.Ev
theorem ZcB (x:List Part):(CJ AD x).pub=CJ AD x:=by
 have:=ZdK [x]
 simpa using this
theorem RD (l:List (List Part)) (nb nr nl:Nat):∀ y∈l.flatMap fun x=>(CJ AD x).cells,Under nb nr nl y:=fun y b=>by
 obtain ⟨x,c,a⟩:=List.mem_flatMap.1 b
 have e:(CJ AD x).cells=[CJ AD x]:=by simp +decide only [go_sem]
 rw [e] at a
 rw [List.mem_singleton.1 a]
 exact (ZB nb nr nl [x]).2 trivial _ (List.mem_singleton.2 rfl)
theorem Zjj (w0:World) (B:Aq) (rows:Aw) (L:Av) {α:Type} (xs:List α) (av:α→AV) (hav:∀ a,(av a).cells=[av a]∧A3 (av a)=true∧(av a).pub=av a) (id ver:Nat) (hvr:C4 rows id ver=some (1,xs.map av)) (hl:xs.length≤1000000000) (f:FuncId) (caps:List AV) (p:α→Bool)
  (hp:∀ a∈xs,ACalls Tryz.prog w0 f ([av a]++caps) ⟨B,rows,L⟩ fun r s=>r = .val (.bool (p a))∧s=⟨B,rows,L⟩) :
  ACalls Tryz.prog w0 183 [.vec id ver 0 xs.length,.clo f caps] ⟨B,rows,L⟩ fun r s=>r=Am (Zc p xs)∧s=⟨B,rows,L⟩:=by
 have b:(xs.map av).length=xs.length:=by simp
 refine B6 (rs:=[.tmp 4]) Tryz.func183 rfl rfl Tryz.ntmps183 (AL Tryz.func183 rfl (by decide)) (Nat.le_of_ble_eq_true rfl) ?_
 intro M0 W0 O K J F N
 simp only [AB]
 apply An;intro K1 z
 apply Ap 1 [0,1]
 rw [Ao];simp +decide only [go_sem,hvr,b]
 (repeat' apply Ae)<;>first | refine z _ _ ?_ | (intros;omega) | (intros;simp_all;done) | (intros;simp only [Bool.or_eq_false_iff,Bool.or_eq_true,Bool.and_eq_true,Bool.and_eq_false_iff,decide_eq_true_eq,decide_eq_false_iff_not,bne_iff_ne] at *; omega)
 clear z
 apply An;intro K2 q
 apply An;intro K3 t
 apply Ap 1 [0,1,7,8]
 rw [Ao];simp +decide only [go_sem,hvr,b]
 (repeat' apply Ae)<;>first | refine t _ _ ?_ | (intros;omega) | (intros;simp_all;done) | (intros;simp only [Bool.or_eq_false_iff,Bool.or_eq_true,Bool.and_eq_true,Bool.and_eq_false_iff,decide_eq_true_eq,decide_eq_false_iff_not,bne_iff_ne] at *; omega)
 clear t
 apply Ar
 refine Az (fun m e st=>∃ k:Nat,∃ H:k≤xs.length,m=xs.length-k∧(∀ j (G:j<k),p (xs[j]'(by omega))=false)∧e=[(0,true,.vec id ver 0 xs.length),(1,true,.clo f caps),(7,true,Am xs.length),(8,true,Am k)]∧st=⟨B,rows,L⟩) xs.length ⟨0,by omega,rfl,fun j G=>by omega,rfl,rfl⟩ ?_
 rintro m e st ⟨k,H,rfl,c,rfl,rfl⟩ KR E
 apply An;intro K4 D
 apply Ap 1 [0,1,7,8,9]
 rw [Ao];simp +decide only [go_sem,hvr,b]
 (repeat' apply Ae)<;>first | refine D _ _ ?_ | (intros;omega) | (intros;simp_all;done) | (intros;simp only [Bool.or_eq_false_iff,Bool.or_eq_true,Bool.and_eq_true,Bool.and_eq_false_iff,decide_eq_true_eq,decide_eq_false_iff_not,bne_iff_ne] at *; omega)
 clear D
 apply An;intro K5 C
 refine AN _ (by simp +decide only [go_sem]) (by simp +decide only [go_sem];rfl) (fun o=>?_) (fun o=>?_)
 rotate_left
 ·simp only [decide_eq_false_iff_not] at o
  apply E4;simp +decide only [go_sem,hvr,b]
  (repeat' apply Ae)<;>first | refine q _ _ ?_ | (intros;omega) | (intros;simp_all;done) | (intros;simp only [Bool.or_eq_false_iff,Bool.or_eq_true,Bool.and_eq_true,Bool.and_eq_false_iff,decide_eq_true_eq,decide_eq_false_iff_not,bne_iff_ne] at *; omega)
  clear q
  apply An;intro K6 y
  apply Ap 1 [4]
  rw [Ao];simp +decide only [go_sem,hvr,b]
  (repeat' apply Ae)<;>first | refine y _ _ ?_ | (intros;omega) | (intros;simp_all;done) | (intros;simp only [Bool.or_eq_false_iff,Bool.or_eq_true,Bool.and_eq_true,Bool.and_eq_false_iff,decide_eq_true_eq,decide_eq_false_iff_not,bne_iff_ne] at *; omega)
  clear y
  apply AM;simp +decide only [go_sem]
  rw [Xi fun j G=>c j (by omega)]
 simp only [decide_eq_true_eq] at o
 have i:k<xs.length:=by omega
 have x:(xs.map av).getD k .junk=av (xs[k]'i):=AO (List.getElem?_eq_getElem i)
 obtain ⟨g,d,l⟩:=hav (xs[k]'i)
 apply BI;simp only [go_sem]
 (repeat' apply Ae)<;>first | refine C _ _ ?_ | (intros;omega) | (intros;simp_all;done) | (intros;simp only [Bool.or_eq_false_iff,Bool.or_eq_true,Bool.and_eq_true,Bool.and_eq_false_iff,decide_eq_true_eq,decide_eq_false_iff_not,bne_iff_ne] at *; omega)
 clear C
 apply An;intro K7 w
 apply Ar
 apply An;intro K8 v
 apply Ap 1 [0,1,5,7,8]
 rw [Ao];simp +decide only [go_sem,hvr,x,g,d,l,b]
 (repeat' apply Ae)<;>first | refine v _ _ ?_ | (intros;omega) | (intros;simp_all;done) | (intros;simp only [Bool.or_eq_false_iff,Bool.or_eq_true,Bool.and_eq_true,Bool.and_eq_false_iff,decide_eq_true_eq,decide_eq_false_iff_not,bne_iff_ne] at *; omega)
 clear v
 apply An;intro K9 u
 apply Ap 2 [0,1,5,7,8,16]
 rw [Ao];simp +decide only [go_sem,hvr,x,g,d,l,b]
 (repeat' apply Ae)<;>first | refine EW _ (hp (xs[k]'i) (List.getElem_mem i)) ?_ | (intros;omega) | (intros;simp_all;done) | (intros;simp only [Bool.or_eq_false_iff,Bool.or_eq_true,Bool.and_eq_true,Bool.and_eq_false_iff,decide_eq_true_eq,decide_eq_false_iff_not,bne_iff_ne] at *; omega)
 skip
 rw [Ao];simp +decide only [go_sem,hvr,x,g,d,l,b]
 (repeat' apply Ae)<;>first | refine u _ _ ?_ | (intros;omega) | (intros;simp_all;done) | (intros;simp only [Bool.or_eq_false_iff,Bool.or_eq_true,Bool.and_eq_true,Bool.and_eq_false_iff,decide_eq_true_eq,decide_eq_false_iff_not,bne_iff_ne] at *; omega)
 clear u
 refine AN _ (by simp +decide only [go_sem]) (by simp +decide only [go_sem];rfl) (fun o=>?_) (fun o=>?_)
 ·apply An;intro K10 n
  apply Ap 1 [4]
  rw [Ao];simp +decide only [go_sem,hvr,x,g,d,l,b]
  (repeat' apply Ae)<;>first | refine n _ _ ?_ | (intros;omega) | (intros;simp_all;done) | (intros;simp only [Bool.or_eq_false_iff,Bool.or_eq_true,Bool.and_eq_true,Bool.and_eq_false_iff,decide_eq_true_eq,decide_eq_false_iff_not,bne_iff_ne] at *; omega)
  clear n
  apply AM;simp +decide only [go_sem]
  rw [XT (by omega) o c]
 skip
 apply BI;simp only [go_sem]
 (repeat' apply Ae)<;>first | refine w _ _ ?_ | (intros;omega) | (intros;simp_all;done) | (intros;simp only [Bool.or_eq_false_iff,Bool.or_eq_true,Bool.and_eq_true,Bool.and_eq_false_iff,decide_eq_true_eq,decide_eq_false_iff_not,bne_iff_ne] at *; omega)
 clear w
 apply Ap 1 [0,1,7,8]
 rw [Ao];simp +decide only [go_sem,hvr,x,g,d,l,b]
 (repeat' apply Ae)<;>first | refine E (xs.length-(k+1)) _ _ ?_ ⟨k+1,?_,rfl,?_,?_,rfl⟩ | exact cl
 ·omega
 ·omega
 ·intro j G
  rcases Nat.lt_or_ge j k with h | h
  ·exact c j h
  ·obtain rfl:j=k:=by omega
   simpa using o
 ·simp
theorem Zj3 (w0:World) (B:Aq) (rows:Aw) (L:Av) {α:Type} (xs:List α) (av:α→AV) (hav:∀ a,(av a).cells=[av a]∧A3 (av a)=true∧(av a).pub=av a) (id ver:Nat) (hvr:C4 rows id ver=some (1,xs.map av)) (hl:xs.length≤1000000000) (f:FuncId) (caps:List AV) (p:α→Bool)
  (hp:∀ a∈xs,ACalls Tryz.prog w0 f ([av a]++caps) ⟨B,rows,L⟩ fun r s=>r = .val (.bool (p a))∧s=⟨B,rows,L⟩) :
  ACalls Tryz.prog w0 162 [.vec id ver 0 xs.length,.clo f caps] ⟨B,rows,L⟩ fun r s=>r=Am (Zc p xs)∧s=⟨B,rows,L⟩:=by
 have b:(xs.map av).length=xs.length:=by simp
 refine B6 (rs:=[.tmp 4]) Tryz.func162 rfl rfl Tryz.ntmps162 (AL Tryz.func162 rfl (by decide)) (Nat.le_of_ble_eq_true rfl) ?_
 intro M0 W0 O K J F N
 simp only [AB]
 apply An;intro K1 z
 apply Ap 1 [0,1]
 rw [Ao];simp +decide only [go_sem,hvr,b]
 (repeat' apply Ae)<;>first | refine z _ _ ?_ | (intros;omega) | (intros;simp_all;done) | (intros;simp only [Bool.or_eq_false_iff,Bool.or_eq_true,Bool.and_eq_true,Bool.and_eq_false_iff,decide_eq_true_eq,decide_eq_false_iff_not,bne_iff_ne] at *; omega)
 clear z
 apply An;intro K2 q
 apply An;intro K3 t
 apply Ap 1 [0,1,7,8]
 rw [Ao];simp +decide only [go_sem,hvr,b]
 (repeat' apply Ae)<;>first | refine t _ _ ?_ | (intros;omega) | (intros;simp_all;done) | (intros;simp only [Bool.or_eq_false_iff,Bool.or_eq_true,Bool.and_eq_true,Bool.and_eq_false_iff,decide_eq_true_eq,decide_eq_false_iff_not,bne_iff_ne] at *; omega)
 clear t
 apply Ar
 refine Az (fun m e st=>∃ k:Nat,∃ H:k≤xs.length,m=xs.length-k∧(∀ j (G:j<k),p (xs[j]'(by omega))=false)∧e=[(0,true,.vec id ver 0 xs.length),(1,true,.clo f caps),(7,true,Am xs.length),(8,true,Am k)]∧st=⟨B,rows,L⟩) xs.length ⟨0,by omega,rfl,fun j G=>by omega,rfl,rfl⟩ ?_
 rintro m e st ⟨k,H,rfl,c,rfl,rfl⟩ KR E
 apply An;intro K4 D
 apply Ap 1 [0,1,7,8,9]
 rw [Ao];simp +decide only [go_sem,hvr,b]
 (repeat' apply Ae)<;>first | refine D _ _ ?_ | (intros;omega) | (intros;simp_all;done) | (intros;simp only [Bool.or_eq_false_iff,Bool.or_eq_true,Bool.and_eq_true,Bool.and_eq_false_iff,decide_eq_true_eq,decide_eq_false_iff_not,bne_iff_ne] at *; omega)
 clear D
 apply An;intro K5 C
 refine AN _ (by simp +decide only [go_sem]) (by simp +decide only [go_sem];rfl) (fun o=>?_) (fun o=>?_)
 rotate_left
 ·simp only [decide_eq_false_iff_not] at o
  apply E4;simp +decide only [go_sem,hvr,b]
  (repeat' apply Ae)<;>first | refine q _ _ ?_ | (intros;omega) | (intros;simp_all;done) | (intros;simp only [Bool.or_eq_false_iff,Bool.or_eq_true,Bool.and_eq_true,Bool.and_eq_false_iff,decide_eq_true_eq,decide_eq_false_iff_not,bne_iff_ne] at *; omega)
  clear q
  apply An;intro K6 y
  apply Ap 1 [4]
  rw [Ao];simp +decide only [go_sem,hvr,b]
  (repeat' apply Ae)<;>first | refine y _ _ ?_ | (intros;omega) | (intros;simp_all;done) | (intros;simp only [Bool.or_eq_false_iff,Bool.or_eq_true,Bool.and_eq_true,Bool.and_eq_false_iff,decide_eq_true_eq,decide_eq_false_iff_not,bne_iff_ne] at *; omega)
  clear y
  apply AM;simp +decide only [go_sem]
  rw [Xi fun j G=>c j (by omega)]
 simp only [decide_eq_true_eq] at o
 have i:k<xs.length:=by omega
 have x:(xs.map av).getD k .junk=av (xs[k]'i):=AO (List.getElem?_eq_getElem i)
 obtain ⟨g,d,l⟩:=hav (xs[k]'i)
 apply BI;simp only [go_sem]
 (repeat' apply Ae)<;>first | refine C _ _ ?_ | (intros;omega) | (intros;simp_all;done) | (intros;simp only [Bool.or_eq_false_iff,Bool.or_eq_true,Bool.and_eq_true,Bool.and_eq_false_iff,decide_eq_true_eq,decide_eq_false_iff_not,bne_iff_ne] at *; omega)
 clear C
 apply An;intro K7 w
 apply Ar
 apply An;intro K8 v
 apply Ap 1 [0,1,5,7,8]
 rw [Ao];simp +decide only [go_sem,hvr,x,g,d,l,b]
 (repeat' apply Ae)<;>first | refine v _ _ ?_ | (intros;omega) | (intros;simp_all;done) | (intros;simp only [Bool.or_eq_false_iff,Bool.or_eq_true,Bool.and_eq_true,Bool.and_eq_false_iff,decide_eq_true_eq,decide_eq_false_iff_not,bne_iff_ne] at *; omega)
 clear v
 apply An;intro K9 u
 apply Ap 2 [0,1,5,7,8,16]
 rw [Ao];simp +decide only [go_sem,hvr,x,g,d,l,b]
 (repeat' apply Ae)<;>first | refine EW _ (hp (xs[k]'i) (List.getElem_mem i)) ?_ | (intros;omega) | (intros;simp_all;done) | (intros;simp only [Bool.or_eq_false_iff,Bool.or_eq_true,Bool.and_eq_true,Bool.and_eq_false_iff,decide_eq_true_eq,decide_eq_false_iff_not,bne_iff_ne] at *; omega)
 skip
 rw [Ao];simp +decide only [go_sem,hvr,x,g,d,l,b]
 (repeat' apply Ae)<;>first | refine u _ _ ?_ | (intros;omega) | (intros;simp_all;done) | (intros;simp only [Bool.or_eq_false_iff,Bool.or_eq_true,Bool.and_eq_true,Bool.and_eq_false_iff,decide_eq_true_eq,decide_eq_false_iff_not,bne_iff_ne] at *; omega)
 clear u
 refine AN _ (by simp +decide only [go_sem]) (by simp +decide only [go_sem];rfl) (fun o=>?_) (fun o=>?_)
 ·apply An;intro K10 n
  apply Ap 1 [4]
  rw [Ao];simp +decide only [go_sem,hvr,x,g,d,l,b]
  (repeat' apply Ae)<;>first | refine n _ _ ?_ | (intros;omega) | (intros;simp_all;done) | (intros;simp only [Bool.or_eq_false_iff,Bool.or_eq_true,Bool.and_eq_true,Bool.and_eq_false_iff,decide_eq_true_eq,decide_eq_false_iff_not,bne_iff_ne] at *; omega)
  clear n
  apply AM;simp +decide only [go_sem]
  rw [XT (by omega) o c]
 skip
 apply BI;simp only [go_sem]
 (repeat' apply Ae)<;>first | refine w _ _ ?_ | (intros;omega) | (intros;simp_all;done) | (intros;simp only [Bool.or_eq_false_iff,Bool.or_eq_true,Bool.and_eq_true,Bool.and_eq_false_iff,decide_eq_true_eq,decide_eq_false_iff_not,bne_iff_ne] at *; omega)
 clear w
 apply Ap 1 [0,1,7,8]
 rw [Ao];simp +decide only [go_sem,hvr,x,g,d,l,b]
 (repeat' apply Ae)<;>first | refine E (xs.length-(k+1)) _ _ ?_ ⟨k+1,?_,rfl,?_,?_,rfl⟩ | exact cl
 ·omega
 ·omega
 ·intro j G
  rcases Nat.lt_or_ge j k with h | h
  ·exact c j h
  ·obtain rfl:j=k:=by omega
   simpa using o
 ·simp
theorem Oa {α:Type} (p:α→Bool) (l:List α):(Zc p l = -1∧∀ x∈l,p x=false)∨∃ k,∃ hk:k<l.length,Zc p l=(k:Int)∧p l[k]=true∧∀ j (hj:j<k),p (l[j]'(by omega))=false:=by
 unfold Zc
 cases h:l.findIdx? p with
 | none=>exact .inl ⟨rfl,fun x a=>by have:=(List.findIdx?_eq_none_iff.1 h) x a;simpa using this⟩
 | some k =>
  obtain ⟨hk,b,c⟩:=List.findIdx?_eq_some_iff_getElem.1 h
  exact .inr ⟨k,hk,rfl,b,fun j hj=>by have:=c j hj;simpa using this⟩
structure DelInv {α:Type} (p:α→Bool) (xs ds:List α) (i k:Nat):Prop where
 len:ds.length=xs.length
 lt:i<k
 le:k≤xs.length
 front:ds.take i=(xs.take k).filter fun a => !p a
 back:ds.drop k=xs.drop k
theorem DelInv.start {α:Type} {p:α→Bool} {xs:List α} {k:Nat} (hk:k<xs.length) (h1:p xs[k]=true) (h2:∀ j (hj:j<k),p (xs[j]'(by omega))=false):DelInv p xs xs k (k+1):=by
 refine ⟨rfl,by omega,hk,?_,rfl⟩
 rw [List.take_succ_eq_append_getElem hk,List.filter_append,List.filter_eq_self.2 (fun x a=>by
  obtain ⟨j,hj,rfl⟩:=List.mem_iff_getElem.1 a
  rw [List.getElem_take,h2 j (by rw [List.length_take] at hj;omega)];rfl)]
 simp [h1]
theorem DelInv.at {α:Type} {p:α→Bool} {xs ds:List α} {i k:Nat} (h:DelInv p xs ds i k) (hk:k<xs.length):ds[k]? = some xs[k]:=by
 have:=congrArg (fun l=>l[0]?) h.back
 simp only [List.getElem?_drop,Nat.add_zero] at this
 rw [this,List.getElem?_eq_getElem hk]
theorem DelInv.keep {α:Type} {p:α→Bool} {xs ds:List α} {i k:Nat} (h:DelInv p xs ds i k) (hk:k<xs.length) (hp:p xs[k]=false):DelInv p xs (ds.set i xs[k]) (i+1) (k+1):=by
 have a:=h.len
 have b:=h.lt
 refine ⟨by simp [a],by omega,hk,?_,?_⟩
 ·have e:(ds.set i xs[k]).take (i+1)=ds.take i++[xs[k]]:=by
   rw [List.take_succ_eq_append_getElem (by simp;omega),List.take_set_of_le (Nat.le_refl _),List.getElem_set_self]
  rw [e,h.front,List.take_succ_eq_append_getElem hk,List.filter_append]
  simp [hp]
 ·rw [List.drop_set_of_lt (by omega)]
  have:=congrArg (List.drop 1) h.back
  simpa [List.drop_drop] using this
theorem DelInv.skip {α:Type} {p:α→Bool} {xs ds:List α} {i k:Nat} (h:DelInv p xs ds i k) (hk:k<xs.length) (hp:p xs[k]=true):DelInv p xs ds i (k+1):=by
 have a:=h.lt
 refine ⟨h.len,by omega,hk,?_,?_⟩
 ·rw [h.front,List.take_succ_eq_append_getElem hk,List.filter_append]
  simp [hp]
 ·have:=congrArg (List.drop 1) h.back
  simpa [List.drop_drop] using this
theorem VH {α:Type} (av:α→AV) (ds:List α) (i:Nat) (x:α) (hi:i<ds.length):CN (ds.map av) i [av x]=(ds.set i x).map av:=by
 unfold CN
 rw [List.map_set,List.set_eq_take_append_cons_drop,Ai (by simpa using hi),List.append_assoc]
 rfl
theorem Rb {rows:List RowA} {id:Nat} {r:RowA} (h:rows[id]? = some r):rows.set id r=rows:=by
 apply List.ext_getElem?
 intro j
 rw [List.getElem?_set]
 by_cases q:id=j
 ·subst q;rw [Ai rfl,Ai (Ak.1 h).1,h]
 ·rw [Aj q]
theorem ZjQ (w0:World) (B:Aq) (rows:Aw) (L:Av) {α:Type} (xs:List α) (av:α→AV) (hav:∀ a,(av a).cells=[av a]∧A3 (av a)=true∧(av a).pub=av a) (id ver:Nat) (hvr:C4 rows id ver=some (1,xs.map av)) (hl:xs.length≤1000000000) (f:FuncId) (caps:List AV) (p:α→Bool)
  (hp:∀ a∈xs,∀ R,ACalls Tryz.prog w0 f ([av a]++caps) ⟨B,R,L⟩ fun r s=>r = .val (.bool (p a))∧s=⟨B,R,L⟩) :
  ACalls Tryz.prog w0 102 [.vec id ver 0 xs.length,.clo f caps] ⟨B,rows,L⟩ fun r s=>r = .vec id ver 0 (xs.filter fun a => !p a).length∧s=⟨B,rows.set id (.vec ver 1 ((xs.filter fun a => !p a).map av)),L⟩:=by
 have o:(xs.map av).length=xs.length:=by simp
 have ae:=Zjj w0 B rows L xs av hav id ver hvr hl f caps p fun a ha=>hp a ha rows
 have v:=DO hvr
 have Q:id<rows.length:=(Ak.1 v).1
 have b:∀ cs,C4 (rows.set id (.vec ver 1 cs)) id ver=some (1,cs):=fun cs=>by simp [C4,Q]
 refine B6 (rs:=[.tmp 4]) Tryz.func102 rfl rfl Tryz.ntmps102 (AL Tryz.func102 rfl (by decide)) (Nat.le_of_ble_eq_true rfl) ?_
 intro M0 W0 hN ah ag af hu
 simp only [AB]
 apply An;intro K1 ab
 apply Ap 1 [0,1]
 rw [Ao];simp +decide only [go_sem,hvr,o]
 (repeat' apply Ae)<;>first | refine ab _ _ ?_ | (intros;omega) | (intros;simp_all;done) | (intros;simp only [Bool.or_eq_false_iff,Bool.or_eq_true,Bool.and_eq_true,Bool.and_eq_false_iff,decide_eq_true_eq,decide_eq_false_iff_not,bne_iff_ne] at *; omega)
 clear ab
 apply An;intro K2 N
 apply Ap 2 [0,1,5]
 rw [Ao];simp +decide only [go_sem,hvr,o]
 (repeat' apply Ae)<;>first | refine EW _ ae ?_ | (intros;omega) | (intros;simp_all;done) | (intros;simp only [Bool.or_eq_false_iff,Bool.or_eq_true,Bool.and_eq_true,Bool.and_eq_false_iff,decide_eq_true_eq,decide_eq_false_iff_not,bne_iff_ne] at *; omega)
 skip
 rw [Ao];simp +decide only [go_sem,hvr,o]
 (repeat' apply Ae)<;>first | refine N _ _ ?_ | (intros;omega) | (intros;simp_all;done) | (intros;simp only [Bool.or_eq_false_iff,Bool.or_eq_true,Bool.and_eq_true,Bool.and_eq_false_iff,decide_eq_true_eq,decide_eq_false_iff_not,bne_iff_ne] at *; omega)
 clear N
 apply An;intro K3 O
 apply An;intro K4 K
 apply Ap 1 [0,1,5,12]
 rw [Ao];simp +decide only [go_sem,hvr,o]
 (repeat' apply Ae)<;>first | refine K _ _ ?_ | (intros;omega) | (intros;simp_all;done) | (intros;simp only [Bool.or_eq_false_iff,Bool.or_eq_true,Bool.and_eq_true,Bool.and_eq_false_iff,decide_eq_true_eq,decide_eq_false_iff_not,bne_iff_ne] at *; omega)
 clear K
 refine AN _ (by simp +decide only [go_sem]) (by simp +decide only [go_sem];rfl) (fun t=>?_) (fun t=>?_)
 ·simp only [decide_eq_true_eq] at t
  apply An;intro K5 ad
  apply Ap 1 [4]
  rw [Ao];simp +decide only [go_sem,hvr,o]
  (repeat' apply Ae)<;>first | refine ad _ _ ?_ | (intros;omega) | (intros;simp_all;done) | (intros;simp only [Bool.or_eq_false_iff,Bool.or_eq_true,Bool.and_eq_true,Bool.and_eq_false_iff,decide_eq_true_eq,decide_eq_false_iff_not,bne_iff_ne] at *; omega)
  clear ad
  apply AM;simp +decide only [go_sem]
  rcases Oa p xs with ⟨_,q⟩ | ⟨k0,hk0,q0,q1,q2⟩
  ·have hf:(xs.filter fun a => !p a)=xs:=List.filter_eq_self.2 fun x w=>by rw [q x w];rfl
   rw [hf,Rb v]
   exact ⟨rfl,rfl⟩
  ·omega
 simp only [decide_eq_false_iff_not] at t
 rcases Oa p xs with ⟨q,_⟩ | ⟨k0,hk0,q0,q1,q2⟩
 ·exact absurd q t
 rw [q0]
 apply BI;simp only [go_sem]
 (repeat' apply Ae)<;>first | refine O _ _ ?_ | (intros;omega) | (intros;simp_all;done) | (intros;simp only [Bool.or_eq_false_iff,Bool.or_eq_true,Bool.and_eq_true,Bool.and_eq_false_iff,decide_eq_true_eq,decide_eq_false_iff_not,bne_iff_ne] at *; omega)
 clear O
 apply An;intro K6 aa
 apply An;intro K7 Y
 apply Ap 1 [0,1,5,6]
 rw [Ao];simp +decide only [go_sem,hvr,o]
 (repeat' apply Ae)<;>first | refine Y _ _ ?_ | (intros;omega) | (intros;simp_all;done) | (intros;simp only [Bool.or_eq_false_iff,Bool.or_eq_true,Bool.and_eq_true,Bool.and_eq_false_iff,decide_eq_true_eq,decide_eq_false_iff_not,bne_iff_ne] at *; omega)
 clear Y
 apply Ar
 refine Az (fun m e st=>∃ (y:List α) (i k:Nat),DelInv p xs y i k∧m=xs.length-k∧e=[(0,true,.vec id ver 0 xs.length),(1,true,.clo f caps),(5,true,Am i),(6,true,Am k)]∧st=⟨B,rows.set id (.vec ver 1 (y.map av)),L⟩) (xs.length-(k0+1)) ⟨xs,k0,k0+1,.start hk0 q1 q2,rfl,by simp,by rw [Rb v]⟩ ?_
 rintro m e st ⟨y,i,k,G,rfl,rfl,rfl⟩ KR Z
 have c:(y.map av).length=xs.length:=by rw [List.length_map,G.len]
 have ak:=G.lt
 have ai:=G.le
 have aj:=G.len
 apply An;intro K8 V
 apply An;intro K9 U
 apply Ap 1 [0,1,5,6,19]
 rw [Ao];simp +decide only [go_sem,b,List.set_set,Nat.mul_one,c]
 (repeat' apply Ae)<;>first | refine U _ _ ?_ | (intros;omega) | (intros;simp_all;done) | (intros;simp only [Bool.or_eq_false_iff,Bool.or_eq_true,Bool.and_eq_true,Bool.and_eq_false_iff,decide_eq_true_eq,decide_eq_false_iff_not,bne_iff_ne] at *; omega)
 clear U
 refine AN _ (by simp +decide only [go_sem]) (by simp +decide only [go_sem];rfl) (fun t=>?_) (fun t=>?_)
 rotate_left
 ·simp only [decide_eq_false_iff_not] at t
  obtain rfl:k=xs.length:=by omega
  have u:=G.front
  rw [List.take_length] at u
  apply E4;simp +decide only [go_sem,b,List.set_set,Nat.mul_one,c]
  (repeat' apply Ae)<;>first | refine aa _ _ ?_ | (intros;omega) | (intros;simp_all;done) | (intros;simp only [Bool.or_eq_false_iff,Bool.or_eq_true,Bool.and_eq_true,Bool.and_eq_false_iff,decide_eq_true_eq,decide_eq_false_iff_not,bne_iff_ne] at *; omega)
  clear aa
  apply An;intro K10 E
  apply Ap 1 [0,5]
  rw [Ao];simp +decide only [go_sem,b,List.set_set,Nat.mul_one,c]
  (repeat' apply Ae)<;>first | refine E _ _ ?_ | (intros;omega) | (intros;simp_all;done) | (intros;simp only [Bool.or_eq_false_iff,Bool.or_eq_true,Bool.and_eq_true,Bool.and_eq_false_iff,decide_eq_true_eq,decide_eq_false_iff_not,bne_iff_ne] at *; omega)
  clear E
  apply An;intro K11 z
  apply Ap 1 [4]
  rw [Ao];simp +decide only [go_sem,b,List.set_set,Nat.mul_one,c]
  (repeat' apply Ae)<;>first | refine z _ _ ?_ | (intros;omega) | (intros;simp_all;done) | (intros;simp only [Bool.or_eq_false_iff,Bool.or_eq_true,Bool.and_eq_true,Bool.and_eq_false_iff,decide_eq_true_eq,decide_eq_false_iff_not,bne_iff_ne] at *; omega)
  clear z
  apply AM;simp +decide only [go_sem]
  rw [←u]
  refine ⟨by rw [List.length_take];congr 1;omega,by rw [List.map_take]⟩
 simp only [decide_eq_true_eq] at t
 have d:k<xs.length:=by omega
 have w:(y.map av).getD k .junk=av (xs[k]'d):=AO (G.at d)
 obtain ⟨h,g,j⟩:=hav (xs[k]'d)
 have l:=VH av y i (xs[k]'d) (by omega)
 apply BI;simp only [go_sem]
 (repeat' apply Ae)<;>first | refine V _ _ ?_ | (intros;omega) | (intros;simp_all;done) | (intros;simp only [Bool.or_eq_false_iff,Bool.or_eq_true,Bool.and_eq_true,Bool.and_eq_false_iff,decide_eq_true_eq,decide_eq_false_iff_not,bne_iff_ne] at *; omega)
 clear V
 apply An;intro K12 n
 apply Ar
 apply An;intro K13 F
 apply Ap 1 [0,1,5,6,7]
 rw [Ao];simp +decide only [go_sem,b,List.set_set,Nat.mul_one,w,h,g,j,l,c]
 (repeat' apply Ae)<;>first | refine F _ _ ?_ | (intros;omega) | (intros;simp_all;done) | (intros;simp only [Bool.or_eq_false_iff,Bool.or_eq_true,Bool.and_eq_true,Bool.and_eq_false_iff,decide_eq_true_eq,decide_eq_false_iff_not,bne_iff_ne] at *; omega)
 clear F
 apply An;intro K14 D
 apply Ap 2 [0,1,5,6,7,29]
 rw [Ao];simp +decide only [go_sem,b,List.set_set,Nat.mul_one,w,h,g,j,l,c]
 (repeat' apply Ae)<;>first | refine EW _ (hp (xs[k]'d) (List.getElem_mem d) _) ?_ | (intros;omega) | (intros;simp_all;done) | (intros;simp only [Bool.or_eq_false_iff,Bool.or_eq_true,Bool.and_eq_true,Bool.and_eq_false_iff,decide_eq_true_eq,decide_eq_false_iff_not,bne_iff_ne] at *; omega)
 skip
 rw [Ao];simp +decide only [go_sem,b,List.set_set,Nat.mul_one,w,h,g,j,l,c]
 (repeat' apply Ae)<;>first | refine D _ _ ?_ | (intros;omega) | (intros;simp_all;done) | (intros;simp only [Bool.or_eq_false_iff,Bool.or_eq_true,Bool.and_eq_true,Bool.and_eq_false_iff,decide_eq_true_eq,decide_eq_false_iff_not,bne_iff_ne] at *; omega)
 clear D
 refine AN _ (by simp +decide only [go_sem]) (by simp +decide only [go_sem];rfl) (fun t=>?_) (fun t=>?_)
 -- JOIN
 ·have J:p (xs[k]'d)=false:=by simpa using t
  have H:=G.keep d J
  apply An;intro K15 C
  apply Ap 1 [0,1,5,6]
  rw [Ao];simp +decide only [go_sem,b,List.set_set,Nat.mul_one,w,h,g,j,l,c]
  (repeat' apply Ae)<;>first | refine C _ _ ?_ | (intros;omega) | (intros;simp_all;done) | (intros;simp only [Bool.or_eq_false_iff,Bool.or_eq_true,Bool.and_eq_true,Bool.and_eq_false_iff,decide_eq_true_eq,decide_eq_false_iff_not,bne_iff_ne] at *; omega)
  clear C
  apply Ap 1 [0,1,5,6]
  rw [Ao];simp +decide only [go_sem,b,List.set_set,Nat.mul_one,w,h,g,j,l,c]
  (repeat' apply Ae)<;>first | refine n _ _ ?_ | (intros;omega) | (intros;simp_all;done) | (intros;simp only [Bool.or_eq_false_iff,Bool.or_eq_true,Bool.and_eq_true,Bool.and_eq_false_iff,decide_eq_true_eq,decide_eq_false_iff_not,bne_iff_ne] at *; omega)
  clear n
  apply Ap 1 [0,1,5,6]
  rw [Ao];simp +decide only [go_sem,b,List.set_set,Nat.mul_one,w,h,g,j,l,c]
  (repeat' apply Ae)<;>first | refine Z (xs.length-(k+1)) _ _ ?_ ⟨y.set i (xs[k]'d),i+1,k+1,H,rfl,?_,rfl⟩ | exact cl
  ·omega
  ·simp
 have J:p (xs[k]'d)=true:=by simpa using t
 have H:=G.skip d J
 apply BI;simp only [go_sem]
 (repeat' apply Ae)<;>first | refine n _ _ ?_ | (intros;omega) | (intros;simp_all;done) | (intros;simp only [Bool.or_eq_false_iff,Bool.or_eq_true,Bool.and_eq_true,Bool.and_eq_false_iff,decide_eq_true_eq,decide_eq_false_iff_not,bne_iff_ne] at *; omega)
 clear n
 apply Ap 1 [0,1,5,6]
 rw [Ao];simp +decide only [go_sem,b,List.set_set,Nat.mul_one,w,h,g,j,l,c]
 (repeat' apply Ae)<;>first | refine Z (xs.length-(k+1)) _ _ ?_ ⟨y,i,k+1,H,rfl,?_,rfl⟩ | exact cl
 ·omega
 ·simp
theorem Zjm (w0:World) (B:Aq) (rows:Aw) (L:Av) {α:Type} (xs:List α) (av:α→AV) (hav:∀ a,(av a).cells=[av a]∧A3 (av a)=true∧(av a).pub=av a) (id ver:Nat) (hvr:C4 rows id ver=some (1,xs.map av)) (hl:xs.length≤1000000000) (f:FuncId) (caps:List AV) (p:α→Bool)
  (hp:∀ a∈xs,∀ R,ACalls Tryz.prog w0 f ([av a]++caps) ⟨B,R,L⟩ fun r s=>r = .val (.bool (p a))∧s=⟨B,R,L⟩) :
  ACalls Tryz.prog w0 87 [.vec id ver 0 xs.length,.clo f caps] ⟨B,rows,L⟩ fun r s=>r = .vec id ver 0 (xs.filter fun a => !p a).length∧s=⟨B,rows.set id (.vec ver 1 ((xs.filter fun a => !p a).map av)),L⟩:=by
 have o:(xs.map av).length=xs.length:=by simp
 have ae:=Zj3 w0 B rows L xs av hav id ver hvr hl f caps p fun a ha=>hp a ha rows
 have v:=DO hvr
 have Q:id<rows.length:=(Ak.1 v).1
 have b:∀ cs,C4 (rows.set id (.vec ver 1 cs)) id ver=some (1,cs):=fun cs=>by simp [C4,Q]
 refine B6 (rs:=[.tmp 4]) Tryz.func87 rfl rfl Tryz.ntmps87 (AL Tryz.func87 rfl (by decide)) (Nat.le_of_ble_eq_true rfl) ?_
 intro M0 W0 hN ah ag af hu
 simp only [AB]
 apply An;intro K1 ab
 apply Ap 1 [0,1]
 rw [Ao];simp +decide only [go_sem,hvr,o]
 (repeat' apply Ae)<;>first | refine ab _ _ ?_ | (intros;omega) | (intros;simp_all;done) | (intros;simp only [Bool.or_eq_false_iff,Bool.or_eq_true,Bool.and_eq_true,Bool.and_eq_false_iff,decide_eq_true_eq,decide_eq_false_iff_not,bne_iff_ne] at *; omega)
 clear ab
 apply An;intro K2 N
 apply Ap 2 [0,1,5]
 rw [Ao];simp +decide only [go_sem,hvr,o]
 (repeat' apply Ae)<;>first | refine EW _ ae ?_ | (intros;omega) | (intros;simp_all;done) | (intros;simp only [Bool.or_eq_false_iff,Bool.or_eq_true,Bool.and_eq_true,Bool.and_eq_false_iff,decide_eq_true_eq,decide_eq_false_iff_not,bne_iff_ne] at *; omega)
 skip
 rw [Ao];simp +decide only [go_sem,hvr,o]
 (repeat' apply Ae)<;>first | refine N _ _ ?_ | (intros;omega) | (intros;simp_all;done) | (intros;simp only [Bool.or_eq_false_iff,Bool.or_eq_true,Bool.and_eq_true,Bool.and_eq_false_iff,decide_eq_true_eq,decide_eq_false_iff_not,bne_iff_ne] at *; omega)
 clear N
 apply An;intro K3 O
 apply An;intro K4 K
 apply Ap 1 [0,1,5,12]
 rw [Ao];simp +decide only [go_sem,hvr,o]
 (repeat' apply Ae)<;>first | refine K _ _ ?_ | (intros;omega) | (intros;simp_all;done) | (intros;simp only [Bool.or_eq_false_iff,Bool.or_eq_true,Bool.and_eq_true,Bool.and_eq_false_iff,decide_eq_true_eq,decide_eq_false_iff_not,bne_iff_ne] at *; omega)
 clear K
 refine AN _ (by simp +decide only [go_sem]) (by simp +decide only [go_sem];rfl) (fun t=>?_) (fun t=>?_)
 ·simp only [decide_eq_true_eq] at t
  apply An;intro K5 ad
  apply Ap 1 [4]
  rw [Ao];simp +decide only [go_sem,hvr,o]
  (repeat' apply Ae)<;>first | refine ad _ _ ?_ | (intros;omega) | (intros;simp_all;done) | (intros;simp only [Bool.or_eq_false_iff,Bool.or_eq_true,Bool.and_eq_true,Bool.and_eq_false_iff,decide_eq_true_eq,decide_eq_false_iff_not,bne_iff_ne] at *; omega)
  clear ad
  apply AM;simp +decide only [go_sem]
  rcases Oa p xs with ⟨_,q⟩ | ⟨k0,hk0,q0,q1,q2⟩
  ·have hf:(xs.filter fun a => !p a)=xs:=List.filter_eq_self.2 fun x w=>by rw [q x w];rfl
   rw [hf,Rb v]
   exact ⟨rfl,rfl⟩
  ·omega
 simp only [decide_eq_false_iff_not] at t
 rcases Oa p xs with ⟨q,_⟩ | ⟨k0,hk0,q0,q1,q2⟩
 ·exact absurd q t
 rw [q0]
 apply BI;simp only [go_sem]
 (repeat' apply Ae)<;>first | refine O _ _ ?_ | (intros;omega) | (intros;simp_all;done) | (intros;simp only [Bool.or_eq_false_iff,Bool.or_eq_true,Bool.and_eq_true,Bool.and_eq_false_iff,decide_eq_true_eq,decide_eq_false_iff_not,bne_iff_ne] at *; omega)
 clear O
 apply An;intro K6 aa
 apply An;intro K7 Y
 apply Ap 1 [0,1,5,6]
 rw [Ao];simp +decide only [go_sem,hvr,o]
 (repeat' apply Ae)<;>first | refine Y _ _ ?_ | (intros;omega) | (intros;simp_all;done) | (intros;simp only [Bool.or_eq_false_iff,Bool.or_eq_true,Bool.and_eq_true,Bool.and_eq_false_iff,decide_eq_true_eq,decide_eq_false_iff_not,bne_iff_ne] at *; omega)
 clear Y
 apply Ar
 refine Az (fun m e st=>∃ (y:List α) (i k:Nat),DelInv p xs y i k∧m=xs.length-k∧e=[(0,true,.vec id ver 0 xs.length),(1,true,.clo f caps),(5,true,Am i),(6,true,Am k)]∧st=⟨B,rows.set id (.vec ver 1 (y.map av)),L⟩) (xs.length-(k0+1)) ⟨xs,k0,k0+1,.start hk0 q1 q2,rfl,by simp,by rw [Rb v]⟩ ?_
 rintro m e st ⟨y,i,k,G,rfl,rfl,rfl⟩ KR Z
 have c:(y.map av).length=xs.length:=by rw [List.length_map,G.len]
 have ak:=G.lt
 have ai:=G.le
 have aj:=G.len
 apply An;intro K8 V
 apply An;intro K9 U
 apply Ap 1 [0,1,5,6,19]
 rw [Ao];simp +decide only [go_sem,b,List.set_set,Nat.mul_one,c]
 (repeat' apply Ae)<;>first | refine U _ _ ?_ | (intros;omega) | (intros;simp_all;done) | (intros;simp only [Bool.or_eq_false_iff,Bool.or_eq_true,Bool.and_eq_true,Bool.and_eq_false_iff,decide_eq_true_eq,decide_eq_false_iff_not,bne_iff_ne] at *; omega)
 clear U
 refine AN _ (by simp +decide only [go_sem]) (by simp +decide only [go_sem];rfl) (fun t=>?_) (fun t=>?_)
 rotate_left
 ·simp only [decide_eq_false_iff_not] at t
  obtain rfl:k=xs.length:=by omega
  have u:=G.front
  rw [List.take_length] at u
  apply E4;simp +decide only [go_sem,b,List.set_set,Nat.mul_one,c]
  (repeat' apply Ae)<;>first | refine aa _ _ ?_ | (intros;omega) | (intros;simp_all;done) | (intros;simp only [Bool.or_eq_false_iff,Bool.or_eq_true,Bool.and_eq_true,Bool.and_eq_false_iff,decide_eq_true_eq,decide_eq_false_iff_not,bne_iff_ne] at *; omega)
  clear aa
  apply An;intro K10 E
  apply Ap 1 [0,5]
  rw [Ao];simp +decide only [go_sem,b,List.set_set,Nat.mul_one,c]
  (repeat' apply Ae)<;>first | refine E _ _ ?_ | (intros;omega) | (intros;simp_all;done) | (intros;simp only [Bool.or_eq_false_iff,Bool.or_eq_true,Bool.and_eq_true,Bool.and_eq_false_iff,decide_eq_true_eq,decide_eq_false_iff_not,bne_iff_ne] at *; omega)
  clear E
  apply An;intro K11 z
  apply Ap 1 [4]
  rw [Ao];simp +decide only [go_sem,b,List.set_set,Nat.mul_one,c]
  (repeat' apply Ae)<;>first | refine z _ _ ?_ | (intros;omega) | (intros;simp_all;done) | (intros;simp only [Bool.or_eq_false_iff,Bool.or_eq_true,Bool.and_eq_true,Bool.and_eq_false_iff,decide_eq_true_eq,decide_eq_false_iff_not,bne_iff_ne] at *; omega)
  clear z
  apply AM;simp +decide only [go_sem]
  rw [←u]
  refine ⟨by rw [List.length_take];congr 1;omega,by rw [List.map_take]⟩
 simp only [decide_eq_true_eq] at t
 have d:k<xs.length:=by omega
 have w:(y.map av).getD k .junk=av (xs[k]'d):=AO (G.at d)
 obtain ⟨h,g,j⟩:=hav (xs[k]'d)
 have l:=VH av y i (xs[k]'d) (by omega)
 apply BI;simp only [go_sem]
 (repeat' apply Ae)<;>first | refine V _ _ ?_ | (intros;omega) | (intros;simp_all;done) | (intros;simp only [Bool.or_eq_false_iff,Bool.or_eq_true,Bool.and_eq_true,Bool.and_eq_false_iff,decide_eq_true_eq,decide_eq_false_iff_not,bne_iff_ne] at *; omega)
 clear V
 apply An;intro K12 n
 apply Ar
 apply An;intro K13 F
 apply Ap 1 [0,1,5,6,7]
 rw [Ao];simp +decide only [go_sem,b,List.set_set,Nat.mul_one,w,h,g,j,l,c]
 (repeat' apply Ae)<;>first | refine F _ _ ?_ | (intros;omega) | (intros;simp_all;done) | (intros;simp only [Bool.or_eq_false_iff,Bool.or_eq_true,Bool.and_eq_true,Bool.and_eq_false_iff,decide_eq_true_eq,decide_eq_false_iff_not,bne_iff_ne] at *; omega)
 clear F
 apply An;intro K14 D
 apply Ap 2 [0,1,5,6,7,29]
 rw [Ao];simp +decide only [go_sem,b,List.set_set,Nat.mul_one,w,h,g,j,l,c]
 (repeat' apply Ae)<;>first | refine EW _ (hp (xs[k]'d) (List.getElem_mem d) _) ?_ | (intros;omega) | (intros;simp_all;done) | (intros;simp only [Bool.or_eq_false_iff,Bool.or_eq_true,Bool.and_eq_true,Bool.and_eq_false_iff,decide_eq_true_eq,decide_eq_false_iff_not,bne_iff_ne] at *; omega)
 skip
 rw [Ao];simp +decide only [go_sem,b,List.set_set,Nat.mul_one,w,h,g,j,l,c]
 (repeat' apply Ae)<;>first | refine D _ _ ?_ | (intros;omega) | (intros;simp_all;done) | (intros;simp only [Bool.or_eq_false_iff,Bool.or_eq_true,Bool.and_eq_true,Bool.and_eq_false_iff,decide_eq_true_eq,decide_eq_false_iff_not,bne_iff_ne] at *; omega)
 clear D
 refine AN _ (by simp +decide only [go_sem]) (by simp +decide only [go_sem];rfl) (fun t=>?_) (fun t=>?_)
 -- JOIN
 ·have J:p (xs[k]'d)=false:=by simpa using t
  have H:=G.keep d J
  apply An;intro K15 C
  apply Ap 1 [0,1,5,6]
  rw [Ao];simp +decide only [go_sem,b,List.set_set,Nat.mul_one,w,h,g,j,l,c]
  (repeat' apply Ae)<;>first | refine C _ _ ?_ | (intros;omega) | (intros;simp_all;done) | (intros;simp only [Bool.or_eq_false_iff,Bool.or_eq_true,Bool.and_eq_true,Bool.and_eq_false_iff,decide_eq_true_eq,decide_eq_false_iff_not,bne_iff_ne] at *; omega)
  clear C
  apply Ap 1 [0,1,5,6]
  rw [Ao];simp +decide only [go_sem,b,List.set_set,Nat.mul_one,w,h,g,j,l,c]
  (repeat' apply Ae)<;>first | refine n _ _ ?_ | (intros;omega) | (intros;simp_all;done) | (intros;simp only [Bool.or_eq_false_iff,Bool.or_eq_true,Bool.and_eq_true,Bool.and_eq_false_iff,decide_eq_true_eq,decide_eq_false_iff_not,bne_iff_ne] at *; omega)
  clear n
  apply Ap 1 [0,1,5,6]
  rw [Ao];simp +decide only [go_sem,b,List.set_set,Nat.mul_one,w,h,g,j,l,c]
  (repeat' apply Ae)<;>first | refine Z (xs.length-(k+1)) _ _ ?_ ⟨y.set i (xs[k]'d),i+1,k+1,H,rfl,?_,rfl⟩ | exact cl
  ·omega
  ·simp
 have J:p (xs[k]'d)=true:=by simpa using t
 have H:=G.skip d J
 apply BI;simp only [go_sem]
 (repeat' apply Ae)<;>first | refine n _ _ ?_ | (intros;omega) | (intros;simp_all;done) | (intros;simp only [Bool.or_eq_false_iff,Bool.or_eq_true,Bool.and_eq_true,Bool.and_eq_false_iff,decide_eq_true_eq,decide_eq_false_iff_not,bne_iff_ne] at *; omega)
 clear n
 apply Ap 1 [0,1,5,6]
 rw [Ao];simp +decide only [go_sem,b,List.set_set,Nat.mul_one,w,h,g,j,l,c]
 (repeat' apply Ae)<;>first | refine Z (xs.length-(k+1)) _ _ ?_ ⟨y,i,k+1,H,rfl,?_,rfl⟩ | exact cl
 ·omega
 ·simp
def UT {α:Type} (a:α→Option Bool):List α→Option (List α)
 | []=>some []
 | x::r=>(a x).bind fun b=>(UT a r).map fun l=>if b then l else x::l
theorem Ss {α:Type} {a:α→Option Bool}:∀ {xs ys:List α},UT a xs=some ys→(∀ x∈xs,a x=some ((a x).getD true))∧ys=xs.filter fun x => !(a x).getD true
 | [],ys,h=>by cases h;exact ⟨by simp,rfl⟩
 | x::r,ys,h=>by
  rw [UT] at h
  obtain ⟨b,c,h⟩:=Option.bind_eq_some_iff.1 h
  obtain ⟨l,d,rfl⟩:=Option.map_eq_some_iff.1 h
  obtain ⟨e,rfl⟩:=Ss d
  refine ⟨fun y hy=>?_,?_⟩
  ·rcases List.mem_cons.1 hy with rfl | hy
   ·rw [c];rfl
   ·exact e y hy
  ·rw [List.filter_cons,c]
   cases b<;>rfl
theorem ZjT (w0:World) (B:Aq) (rows:Aw) (L:Av) (f:FuncId) (caps:List AV) :
  ACalls Tryz.prog w0 183 [.list [] .none,.clo f caps] ⟨B,rows,L⟩ fun r s=>r=Am (-1)∧s=⟨B,rows,L⟩:=by
 refine B6 (rs:=[.tmp 4]) Tryz.func183 rfl rfl Tryz.ntmps183 (AL Tryz.func183 rfl (by decide)) (Nat.le_of_ble_eq_true rfl) ?_
 intro M0 W0 o l j h p
 simp only [AB]
 apply An;intro K1 c
 apply Ap 1 [0,1]
 rw [Ao];simp +decide only [go_sem]
 (repeat' apply Ae)<;>first | refine c _ _ ?_ | (intros;omega) | (intros;simp_all;done) | (intros;simp only [Bool.or_eq_false_iff,Bool.or_eq_true,Bool.and_eq_true,Bool.and_eq_false_iff,decide_eq_true_eq,decide_eq_false_iff_not,bne_iff_ne] at *; omega)
 clear c
 apply An;intro K2 a
 apply An;intro K3 d
 apply Ap 1 [0,1,7,8]
 rw [Ao];simp +decide only [go_sem]
 (repeat' apply Ae)<;>first | refine d _ _ ?_ | (intros;omega) | (intros;simp_all;done) | (intros;simp only [Bool.or_eq_false_iff,Bool.or_eq_true,Bool.and_eq_true,Bool.and_eq_false_iff,decide_eq_true_eq,decide_eq_false_iff_not,bne_iff_ne] at *; omega)
 clear d
 apply Ar
 refine Az (fun m e st=>m=0∧e=[(0,true,.list [] .none),(1,true,.clo f caps),(7,true,Am 0),(8,true,Am 0)]∧st=⟨B,rows,L⟩) 0 ⟨rfl,rfl,rfl⟩ ?_
 rintro m e st ⟨rfl,rfl,rfl⟩ KR k
 apply An;intro K4 g
 apply Ap 1 [0,1,7,8,9]
 rw [Ao];simp +decide only [go_sem]
 (repeat' apply Ae)<;>first | refine g _ _ ?_ | (intros;omega) | (intros;simp_all;done) | (intros;simp only [Bool.or_eq_false_iff,Bool.or_eq_true,Bool.and_eq_true,Bool.and_eq_false_iff,decide_eq_true_eq,decide_eq_false_iff_not,bne_iff_ne] at *; omega)
 clear g
 apply An;intro K5 n
 refine AN _ (by simp +decide only [go_sem]) (by simp +decide only [go_sem];rfl) (fun i=>?_) (fun i=>?_)
 rotate_left
 ·apply E4;simp +decide only [go_sem]
  (repeat' apply Ae)<;>first | refine a _ _ ?_ | (intros;omega) | (intros;simp_all;done) | (intros;simp only [Bool.or_eq_false_iff,Bool.or_eq_true,Bool.and_eq_true,Bool.and_eq_false_iff,decide_eq_true_eq,decide_eq_false_iff_not,bne_iff_ne] at *; omega)
  clear a
  apply An;intro K6 b
  apply Ap 1 [4]
  rw [Ao];simp +decide only [go_sem]
  (repeat' apply Ae)<;>first | refine b _ _ ?_ | (intros;omega) | (intros;simp_all;done) | (intros;simp only [Bool.or_eq_false_iff,Bool.or_eq_true,Bool.and_eq_true,Bool.and_eq_false_iff,decide_eq_true_eq,decide_eq_false_iff_not,bne_iff_ne] at *; omega)
  clear b
  apply AM;simp +decide only [go_sem]
  skip
 exact absurd i (by simp)
theorem Zj5 (w0:World) (B:Aq) (rows:Aw) (L:Av) (f:FuncId) (caps:List AV) :
  ACalls Tryz.prog w0 102 [.list [] .seed,.clo f caps] ⟨B,rows,L⟩ fun r s=>r = .list [] .seed∧s=⟨B,rows,L⟩:=by
 refine L0 [] (rs:=[.tmp 4]) Tryz.func102 rfl rfl Tryz.ntmps102 (AL Tryz.func102 rfl (by decide)) (Nat.le_of_ble_eq_true rfl) ?_
 intro M0 W0 k i h e l
 simp only [AB]
 apply An;intro K1 b
 apply Ap 1 [0,1]
 rw [Ao];simp +decide only [go_sem]
 (repeat' apply Ae)<;>first | refine b _ _ ?_ | (intros;omega) | (intros;simp_all;done) | (intros;simp only [Bool.or_eq_false_iff,Bool.or_eq_true,Bool.and_eq_true,Bool.and_eq_false_iff,decide_eq_true_eq,decide_eq_false_iff_not,bne_iff_ne] at *; omega)
 clear b
 apply An;intro K2 a
 apply Ap 2 [0,1,5]
 rw [Ao];simp +decide only [go_sem]
 (repeat' apply Ae)<;>first | refine EW _ (ZjT w0 B rows L f caps) ?_ | (intros;omega) | (intros;simp_all;done) | (intros;simp only [Bool.or_eq_false_iff,Bool.or_eq_true,Bool.and_eq_true,Bool.and_eq_false_iff,decide_eq_true_eq,decide_eq_false_iff_not,bne_iff_ne] at *; omega)
 skip
 rw [Ao];simp +decide only [go_sem]
 (repeat' apply Ae)<;>first | refine a _ _ ?_ | (intros;omega) | (intros;simp_all;done) | (intros;simp only [Bool.or_eq_false_iff,Bool.or_eq_true,Bool.and_eq_true,Bool.and_eq_false_iff,decide_eq_true_eq,decide_eq_false_iff_not,bne_iff_ne] at *; omega)
 clear a
 apply An;intro K3 j
 apply An;intro K4 d
 apply Ap 1 [0,1,5,12]
 rw [Ao];simp +decide only [go_sem]
 (repeat' apply Ae)<;>first | refine d _ _ ?_ | (intros;omega) | (intros;simp_all;done) | (intros;simp only [Bool.or_eq_false_iff,Bool.or_eq_true,Bool.and_eq_true,Bool.and_eq_false_iff,decide_eq_true_eq,decide_eq_false_iff_not,bne_iff_ne] at *; omega)
 clear d
 refine AN _ (by simp +decide only [go_sem]) (by simp +decide only [go_sem];rfl) (fun g=>?_) (fun g=>?_)
 ·apply An;intro K5 c
  apply Ap 1 [4]
  rw [Ao];simp +decide only [go_sem]
  (repeat' apply Ae)<;>first | refine c _ _ ?_ | (intros;omega) | (intros;simp_all;done) | (intros;simp only [Bool.or_eq_false_iff,Bool.or_eq_true,Bool.and_eq_true,Bool.and_eq_false_iff,decide_eq_true_eq,decide_eq_false_iff_not,bne_iff_ne] at *; omega)
  clear c
  apply AM;simp +decide only [go_sem]
  rfl
 exact absurd g (by simp)
theorem Zjk (w0:World) (B:Aq) (rows:Aw) (L:Av) (f:FuncId) (caps:List AV) :
  ACalls Tryz.prog w0 162 [.list [] .none,.clo f caps] ⟨B,rows,L⟩ fun r s=>r=Am (-1)∧s=⟨B,rows,L⟩:=by
 refine B6 (rs:=[.tmp 4]) Tryz.func162 rfl rfl Tryz.ntmps162 (AL Tryz.func162 rfl (by decide)) (Nat.le_of_ble_eq_true rfl) ?_
 intro M0 W0 o l j h p
 simp only [AB]
 apply An;intro K1 c
 apply Ap 1 [0,1]
 rw [Ao];simp +decide only [go_sem]
 (repeat' apply Ae)<;>first | refine c _ _ ?_ | (intros;omega) | (intros;simp_all;done) | (intros;simp only [Bool.or_eq_false_iff,Bool.or_eq_true,Bool.and_eq_true,Bool.and_eq_false_iff,decide_eq_true_eq,decide_eq_false_iff_not,bne_iff_ne] at *; omega)
 clear c
 apply An;intro K2 a
 apply An;intro K3 d
 apply Ap 1 [0,1,7,8]
 rw [Ao];simp +decide only [go_sem]
 (repeat' apply Ae)<;>first | refine d _ _ ?_ | (intros;omega) | (intros;simp_all;done) | (intros;simp only [Bool.or_eq_false_iff,Bool.or_eq_true,Bool.and_eq_true,Bool.and_eq_false_iff,decide_eq_true_eq,decide_eq_false_iff_not,bne_iff_ne] at *; omega)
 clear d
 apply Ar
 refine Az (fun m e st=>m=0∧e=[(0,true,.list [] .none),(1,true,.clo f caps),(7,true,Am 0),(8,true,Am 0)]∧st=⟨B,rows,L⟩) 0 ⟨rfl,rfl,rfl⟩ ?_
 rintro m e st ⟨rfl,rfl,rfl⟩ KR k
 apply An;intro K4 g
 apply Ap 1 [0,1,7,8,9]
 rw [Ao];simp +decide only [go_sem]
 (repeat' apply Ae)<;>first | refine g _ _ ?_ | (intros;omega) | (intros;simp_all;done) | (intros;simp only [Bool.or_eq_false_iff,Bool.or_eq_true,Bool.and_eq_true,Bool.and_eq_false_iff,decide_eq_true_eq,decide_eq_false_iff_not,bne_iff_ne] at *; omega)
 clear g
 apply An;intro K5 n
 refine AN _ (by simp +decide only [go_sem]) (by simp +decide only [go_sem];rfl) (fun i=>?_) (fun i=>?_)
 rotate_left
 ·apply E4;simp +decide only [go_sem]
  (repeat' apply Ae)<;>first | refine a _ _ ?_ | (intros;omega) | (intros;simp_all;done) | (intros;simp only [Bool.or_eq_false_iff,Bool.or_eq_true,Bool.and_eq_true,Bool.and_eq_false_iff,decide_eq_true_eq,decide_eq_false_iff_not,bne_iff_ne] at *; omega)
  clear a
  apply An;intro K6 b
  apply Ap 1 [4]
  rw [Ao];simp +decide only [go_sem]
  (repeat' apply Ae)<;>first | refine b _ _ ?_ | (intros;omega) | (intros;simp_all;done) | (intros;simp only [Bool.or_eq_false_iff,Bool.or_eq_true,Bool.and_eq_true,Bool.and_eq_false_iff,decide_eq_true_eq,decide_eq_false_iff_not,bne_iff_ne] at *; omega)
  clear b
  apply AM;simp +decide only [go_sem]
  skip
 exact absurd i (by simp)
theorem ZjS (w0:World) (B:Aq) (rows:Aw) (L:Av) (f:FuncId) (caps:List AV) :
  ACalls Tryz.prog w0 87 [.list [] .seed,.clo f caps] ⟨B,rows,L⟩ fun r s=>r = .list [] .seed∧s=⟨B,rows,L⟩:=by
 refine L0 [] (rs:=[.tmp 4]) Tryz.func87 rfl rfl Tryz.ntmps87 (AL Tryz.func87 rfl (by decide)) (Nat.le_of_ble_eq_true rfl) ?_
 intro M0 W0 k i h e l
 simp only [AB]
 apply An;intro K1 b
 apply Ap 1 [0,1]
 rw [Ao];simp +decide only [go_sem]
 (repeat' apply Ae)<;>first | refine b _ _ ?_ | (intros;omega) | (intros;simp_all;done) | (intros;simp only [Bool.or_eq_false_iff,Bool.or_eq_true,Bool.and_eq_true,Bool.and_eq_false_iff,decide_eq_true_eq,decide_eq_false_iff_not,bne_iff_ne] at *; omega)
 clear b
 apply An;intro K2 a
 apply Ap 2 [0,1,5]
 rw [Ao];simp +decide only [go_sem]
 (repeat' apply Ae)<;>first | refine EW _ (Zjk w0 B rows L f caps) ?_ | (intros;omega) | (intros;simp_all;done) | (intros;simp only [Bool.or_eq_false_iff,Bool.or_eq_true,Bool.and_eq_true,Bool.and_eq_false_iff,decide_eq_true_eq,decide_eq_false_iff_not,bne_iff_ne] at *; omega)
 skip
 rw [Ao];simp +decide only [go_sem]
 (repeat' apply Ae)<;>first | refine a _ _ ?_ | (intros;omega) | (intros;simp_all;done) | (intros;simp only [Bool.or_eq_false_iff,Bool.or_eq_true,Bool.and_eq_true,Bool.and_eq_false_iff,decide_eq_true_eq,decide_eq_false_iff_not,bne_iff_ne] at *; omega)
 clear a
 apply An;intro K3 j
 apply An;intro K4 d
 apply Ap 1 [0,1,5,12]
 rw [Ao];simp +decide only [go_sem]
 (repeat' apply Ae)<;>first | refine d _ _ ?_ | (intros;omega) | (intros;simp_all;done) | (intros;simp only [Bool.or_eq_false_iff,Bool.or_eq_true,Bool.and_eq_true,Bool.and_eq_false_iff,decide_eq_true_eq,decide_eq_false_iff_not,bne_iff_ne] at *; omega)
 clear d
 refine AN _ (by simp +decide only [go_sem]) (by simp +decide only [go_sem];rfl) (fun g=>?_) (fun g=>?_)
 ·apply An;intro K5 c
  apply Ap 1 [4]
  rw [Ao];simp +decide only [go_sem]
  (repeat' apply Ae)<;>first | refine c _ _ ?_ | (intros;omega) | (intros;simp_all;done) | (intros;simp only [Bool.or_eq_false_iff,Bool.or_eq_true,Bool.and_eq_true,Bool.and_eq_false_iff,decide_eq_true_eq,decide_eq_false_iff_not,bne_iff_ne] at *; omega)
  clear c
  apply AM;simp +decide only [go_sem]
  rfl
 exact absurd g (by simp)
theorem Zjc (w0:World) {Rw rows:List RowA} {l:List (Nat × Nat × Ev.Own)} {ho:Ev.Own} {o:VO} {v:List VE} {xs ys:List ByteArray} {a:ByteArray→Option Bool} (hO:Owns Rw rows l ho ((o,1,xs.flatMap fun x=>(BE x).cells)::v)) (hd:UT a xs=some ys) (hl:xs.length≤1000000000) :
  ∃ o' rows',Owns Rw rows' l ho ((o',1,ys.flatMap fun x=>(BE x).cells)::v)∧∀ (B:Aq) (L:Av) (f:FuncId) (caps:List AV),(∀ x r,a x=some r→∀ R,ACalls Tryz.prog w0 f ([BE x]++caps) ⟨B,R,L⟩ fun q s=>q = .val (.bool r)∧s=⟨B,R,L⟩) →
   ACalls Tryz.prog w0 102 [Ks o xs.length,.clo f caps] ⟨B,rows,L⟩ fun r s=>r=Ks o' ys.length∧s=⟨B,rows',L⟩:=by
 have b:∀ zs:List ByteArray,(zs.flatMap fun x=>(BE x).cells)=zs.map BE:=fun zs=>by
  induction zs with
  | nil=>rfl
  | cons z r ih=>rw [List.flatMap_cons,List.map_cons,ih];rfl
 obtain ⟨c,rfl⟩:=Ss hd
 rcases hO.veach _ (List.mem_cons_self ..) with q | ⟨id,ver,q1,q2,q3⟩
 ·have q2:(xs.flatMap fun x=>(BE x).cells)=[]:=q.2
  have q1:o = .nil:=q.1
  subst q1
  rw [b] at q2
  obtain rfl:xs=[]:=by simpa using q2
  refine ⟨.nil,rows,hO,fun B L f caps _=>?_⟩
  exact Zj5 w0 B rows L f caps
 ·have q1:o = .row id ver:=q1
  subst q1
  have q3:rows[id]? = some (.vec ver 1 (xs.flatMap fun x=>(BE x).cells)):=q3
  rw [b] at q3
  refine ⟨.row id ver,_,hO.setV ver _,fun B L f caps d=>?_⟩
  rw [b]
  exact ZjQ w0 B rows L xs BE (fun a=>⟨rfl,rfl,rfl⟩) id ver (by simp [C4,q3]) hl f caps (fun x=>(a x).getD true) fun x e R=>d x _ (c x e) R
theorem Zi7 (w0:World) {Rw rows:List RowA} {l:List (Nat × Nat × Ev.Own)} {ho:Ev.Own} {o:VO} {v:List VE} {xs ys:List (List Part)} {a:(List Part)→Option Bool} (hO:Owns Rw rows l ho ((o,1,xs.flatMap fun x=>((CJ AD) x).cells)::v)) (hd:UT a xs=some ys) (hl:xs.length≤1000000000) :
  ∃ o' rows',Owns Rw rows' l ho ((o',1,ys.flatMap fun x=>((CJ AD) x).cells)::v)∧∀ (B:Aq) (L:Av) (f:FuncId) (caps:List AV),(∀ x r,a x=some r→∀ R,ACalls Tryz.prog w0 f ([(CJ AD) x]++caps) ⟨B,R,L⟩ fun q s=>q = .val (.bool r)∧s=⟨B,R,L⟩) →
   ACalls Tryz.prog w0 87 [Ks o xs.length,.clo f caps] ⟨B,rows,L⟩ fun r s=>r=Ks o' ys.length∧s=⟨B,rows',L⟩:=by
 have b:∀ zs:List (List Part),(zs.flatMap fun x=>((CJ AD) x).cells)=zs.map (CJ AD):=fun zs=>by
  induction zs with
  | nil=>rfl
  | cons z r ih=>rw [List.flatMap_cons,List.map_cons,ih];rfl
 obtain ⟨c,rfl⟩:=Ss hd
 rcases hO.veach _ (List.mem_cons_self ..) with q | ⟨id,ver,q1,q2,q3⟩
 ·have q2:(xs.flatMap fun x=>((CJ AD) x).cells)=[]:=q.2
  have q1:o = .nil:=q.1
  subst q1
  rw [b] at q2
  obtain rfl:xs=[]:=by simpa using q2
  refine ⟨.nil,rows,hO,fun B L f caps _=>?_⟩
  exact ZjS w0 B rows L f caps
 ·have q1:o = .row id ver:=q1
  subst q1
  have q3:rows[id]? = some (.vec ver 1 (xs.flatMap fun x=>((CJ AD) x).cells)):=q3
  rw [b] at q3
  refine ⟨.row id ver,_,hO.setV ver _,fun B L f caps d=>?_⟩
  rw [b]
  exact Zjm w0 B rows L xs (CJ AD) (fun a=>⟨rfl,rfl,rfl⟩) id ver (by simp [C4,q3]) hl f caps (fun x=>(a x).getD true) fun x e R=>d x _ (c x e) R
abbrev MpT:=List (ByteArray × Ex)
def OE (l:List MpT):List (Nat × MpT):=(List.range l.length).map fun q=>(l.length-1-q,l.getD (l.length-1-q) [])
def Zir (p:Nat × MpT):List AV:=[Am p.1,HT p.2]
def M9 (l:List MpT):List (List AV):=(OE l).map Zir
theorem O0 (l:List MpT):(OE l).length=l.length:=by simp [OE]
theorem P7 (l:List MpT):(M9 l).length=(OE l).length:=by simp [M9]
theorem ZaV (l:List MpT) (i:Nat) (x:List AV) (h:(M9 l)[i]? = some x):∃ p,(OE l)[i]? = some p∧x=[Am p.1,HT p.2]∧i<(OE l).length:=by
 simp only [M9,List.getElem?_map,Option.map_eq_some_iff] at h
 obtain ⟨p,a,rfl⟩:=h
 exact ⟨p,a,rfl,(Ak.1 a).1⟩
theorem Za3 (l:List MpT) (x:List AV) (h:x∈M9 l):x.length=2:=by
 obtain ⟨p,_,rfl⟩:=List.mem_map.1 h
 rfl
theorem ZcN (l:List MpT) (q:Nat) (h:q<l.length):(M9 l)[q]? = some [Am ((l.length:Int)-1-q),HT (l[l.length-1-q]'(by omega))]:=by
 have e:((l.length-1-q:Nat):Int)=(l.length:Int)-1-q:=by omega
 have g:l.length-1-q<l.length:=by omega
 simp only [M9,OE,List.map_map,List.getElem?_map,List.getElem?_range h,Option.map_some,Function.comp,Zir,e]
 rw [List.getD_eq_getElem?_getD,List.getElem?_eq_getElem g,Option.getD_some]
theorem Za8 (w0:World) (l:List MpT) (hl:l.length≤1000000000) (b:Nat):ZaQ (fun X=>X=⟨[],[],[]⟩) Tryz.prog w0 176 [.box b 0] (M9 l) (fun st=>st.boxes[b]? = some [.list (l.map HT) .none]):=by
 intro k J Jx y H E C
 obtain ⟨c,w⟩:=y _ _ C
 have K:(M9 l).length=l.length:=by rw [P7,O0]
 obtain ⟨SB,SR,SL⟩:=E
 simp only at c w
 refine B6 (rs:=[]) Tryz.func176 rfl rfl Tryz.ntmps176 (AL Tryz.func176 rfl (by decide)) (Nat.le_of_ble_eq_true rfl) ?_
 intro M0 W0 Z G D v Q
 simp only [AB]
 apply An;intro K1 j
 apply Ap 1 [0,1,3]
 rw [Ao];simp +decide only [go_sem,As c]
 (repeat' apply Ae)<;>first | refine j _ _ ?_ | (intros;omega) | (intros;simp_all;done) | (intros;simp only [Bool.or_eq_false_iff,Bool.or_eq_true,Bool.and_eq_true,Bool.and_eq_false_iff,decide_eq_true_eq,decide_eq_false_iff_not,bne_iff_ne] at *; omega)
 clear j
 apply Ar
 refine Az (fun m e st=>∃ (q:Nat) (TB:Aq) (TR:Aw) (TL:Av),q≤l.length∧m=l.length-q∧J q ⟨TB,TR,TL⟩∧e=[(0,true,.yld k),(1,true,.box b 0),(3,true,Am ((l.length:Int)-1-q))]∧st=⟨TB,TR,TL⟩) l.length ⟨0,SB,SR,SL,by omega,rfl,C,by simp,rfl⟩ ?_
 rintro m e st ⟨q,UB,UR,UL,hq,rfl,x,rfl,rfl⟩ KR s
 obtain ⟨a,t⟩:=y _ _ x
 simp only at a t
 apply An;intro K2 f
 apply An;intro K3 g
 apply Ap 1 [0,1,3,8]
 rw [Ao];simp +decide only [go_sem,As a]
 (repeat' apply Ae)<;>first | refine g _ _ ?_ | (intros;omega) | (intros;simp_all;done) | (intros;simp only [Bool.or_eq_false_iff,Bool.or_eq_true,Bool.and_eq_true,Bool.and_eq_false_iff,decide_eq_true_eq,decide_eq_false_iff_not,bne_iff_ne] at *; omega)
 clear g
 refine AN _ (by simp +decide only [go_sem]) (by simp +decide only [go_sem];rfl) (fun d=>?_) (fun d=>?_)
 rotate_left
 ·apply E4;simp +decide only [go_sem,As a]
  simp only [decide_eq_false_iff_not] at d
  obtain rfl:q=l.length:=by omega
  exact ⟨⟨UB,UR,UL⟩,⟨[],[],[]⟩,rfl,by simp [St.ext],.inl (by rw [K];exact x)⟩
 simp only [decide_eq_true_eq] at d
 have u:q<l.length:=by omega
 have z:l.length-1-q<l.length:=by omega
 have F:((l.length:Int)-1-(q:Int)).toNat=l.length-1-q:=by omega
 have p:(l.map HT).getD ((l.length:Int)-1-(q:Int)).toNat .junk=HT (l[l.length-1-q]'z):=by rw [F];exact AO (List.getElem?_eq_getElem z)
 have i:=H q ⟨UB,UR,UL⟩ _ ⟨[],[],[]⟩ rfl x (ZcN l q u)
 simp only [St.ext,List.append_nil] at i
 apply BI;simp only [go_sem]
 (repeat' apply Ae)<;>first | refine f _ _ ?_ | (intros;omega) | (intros;simp_all;done) | (intros;simp only [Bool.or_eq_false_iff,Bool.or_eq_true,Bool.and_eq_true,Bool.and_eq_false_iff,decide_eq_true_eq,decide_eq_false_iff_not,bne_iff_ne] at *; omega)
 clear f
 apply An;intro K4 o
 apply Ar
 apply An;intro K5 n
 apply Ap 2 [0,1,3,18]
 rw [Ao];simp +decide only [go_sem,p,As a]
 (repeat' apply Ae)<;>first | refine TC _ (fun _=>i) (fun r O N _=>?_) | (intros;omega) | (intros;simp_all;done) | (intros;simp only [Bool.or_eq_false_iff,Bool.or_eq_true,Bool.and_eq_true,Bool.and_eq_false_iff,decide_eq_true_eq,decide_eq_false_iff_not,bne_iff_ne] at *; omega)
 obtain ⟨⟨TB,TR,TL⟩,rfl,⟨V,Y,U⟩,hz⟩:=N rfl
 obtain ⟨bb,rfl,hpT,hpF⟩:∃ bb,r = .val (.bool bb)∧(bb=true→J (q+1) ⟨TB,TR,TL⟩)∧(bb=false→Jx ⟨TB,TR,TL⟩):=by
  rcases hz with ⟨rfl,hz⟩ | ⟨rfl,hz⟩
  ·exact ⟨true,rfl,fun _=>hz,fun h=>(by cases h)⟩
  ·exact ⟨false,rfl,fun h=>(by cases h),fun _=>hz⟩
 rw [Ao];simp +decide only [go_sem,p,As a]
 (repeat' apply Ae)<;>first | refine n _ _ ?_ | (intros;omega) | (intros;simp_all;done) | (intros;simp only [Bool.or_eq_false_iff,Bool.or_eq_true,Bool.and_eq_true,Bool.and_eq_false_iff,decide_eq_true_eq,decide_eq_false_iff_not,bne_iff_ne] at *; omega)
 clear n
 refine AN _ (by simp +decide only [go_sem]) (by simp +decide only [go_sem];rfl) (fun d=>?_) (fun d=>?_)
 ·apply AM;simp +decide only [go_sem]
  exact ⟨⟨TB,TR,TL⟩,⟨[],[],[]⟩,rfl,by simp [St.ext],.inr (hpF (by simpa using d))⟩
 skip
 apply BI;simp only [go_sem]
 (repeat' apply Ae)<;>first | refine o _ _ ?_ | (intros;omega) | (intros;simp_all;done) | (intros;simp only [Bool.or_eq_false_iff,Bool.or_eq_true,Bool.and_eq_true,Bool.and_eq_false_iff,decide_eq_true_eq,decide_eq_false_iff_not,bne_iff_ne] at *; omega)
 clear o
 apply Ap 1 [0,1,3]
 rw [Ao];simp +decide only [go_sem,p,As a]
 (repeat' apply Ae)<;>first | refine s (l.length-(q+1)) _ _ ?_ ⟨q+1,TB,TR,TL,?_,rfl,?_,?_,rfl⟩ | (intros;omega) | (intros;simp_all;done)
 ·omega
 ·omega
 ·exact hpT (by simpa using d)
 ·simp;omega
theorem Zej (w0:World) (B:Aq) (Rw:Aw) (L:Av) (l:List MpT) :
  ACalls Tryz.prog w0 95 [.list (l.map HT) .none] ⟨B,Rw,L⟩ fun r st=>r = .clo 176 [.box B.length 0]∧st=⟨B++[[.list (l.map HT) .none]],Rw,L⟩:=by
 refine B6 (rs:=[.tmp 2]) Tryz.func95 rfl rfl Tryz.ntmps95 (AL Tryz.func95 rfl (by decide)) (Nat.le_of_ble_eq_true rfl) ?_
 intro M0 W0 f e d c g
 simp only [AB]
 apply An;intro K1 b
 apply Ap 1 [1]
 rw [Ao];simp +decide only [go_sem]
 (repeat' apply Ae)<;>first | refine b _ _ ?_ | (intros;omega) | (intros;simp_all;done) | (intros;simp only [Bool.or_eq_false_iff,Bool.or_eq_true,Bool.and_eq_true,Bool.and_eq_false_iff,decide_eq_true_eq,decide_eq_false_iff_not,bne_iff_ne] at *; omega)
 clear b
 apply An;intro K2 a
 apply Ap 1 [2]
 rw [Ao];simp +decide only [go_sem]
 (repeat' apply Ae)<;>first | refine a _ _ ?_ | (intros;omega) | (intros;simp_all;done) | (intros;simp only [Bool.or_eq_false_iff,Bool.or_eq_true,Bool.and_eq_true,Bool.and_eq_false_iff,decide_eq_true_eq,decide_eq_false_iff_not,bne_iff_ne] at *; omega)
 clear a
 apply AM;simp +decide only [go_sem]
 skip
def FK (n:Nat) (h:List Part) (b:List Part):Option Bool :=
 (Hu n b h).bind fun g =>
 some (g)
theorem Uh (w0:World) (n:Nat) (B:Aq) (Rw:Aw) (L:Av) (a0:List Part) (la1:Nat) (a1:List Part) (hla1:B[la1]? = some ([.list (a1.map AD) .none])) (r:Bool) (h:FK n a0 a1=some r) :
  ACalls Tryz.prog w0 97 [.list (a0.map AD) .none,.box la1 0] ⟨B,Rw,L⟩ fun x st=>x = .val (.bool r)∧st=⟨B,Rw,L⟩:=by
 rw [FK] at h
 refine hd [.tmp 3] Tryz.func97 Tryz.ntmps97 fun M0 W0 g e d b i f hs=>?_
 simp only [AB]
 have c:=(Ak.1 hla1).1
 have hs:=Ae (As hla1) hs
 exact go (tg (a:=([0,1],[3],()))) h hs g e d b f (q1 (P6 w0 n)) trivial
def G3 (n:Nat) (h:List Part) (b:List ByteArray):Option Bool :=
 (FO n b ([bodyP]) h).bind fun g =>
 some (!g)
theorem TY (w0:World) (hB:O7 w0) (hE:JF w0) (hM:Jz w0) (hP:Pow10 w0) (n:Nat) (B:Aq) (Rw:Aw) (L:Av) (a0:List Part) (la1:Nat) (a1:List ByteArray) (hla1:B[la1]? = some ([.list (a1.map BE) .none])) (r:Bool) (h:G3 n a0 a1=some r) :
  ACalls Tryz.prog w0 100 [.list (a0.map AD) .none,.box la1 0] ⟨B,Rw,L⟩ fun x st=>x = .val (.bool r)∧st=⟨B,Rw,L⟩:=by
 rw [G3] at h
 refine hd [.tmp 3] Tryz.func100 Tryz.ntmps100 fun M0 W0 i g f a j e hs=>?_
 simp only [AB]
 have c:=(Ak.1 hla1).1
 have hs:=Ae (As hla1) hs
 refine rg [0,1] hs ?_
 apply An;intro K2 b
 refine Zan 0 (.list [.agg [Am bodyP.kind,Am bodyP.index,.val (.string bodyP.name)]] .none) (by decide) ?_
 obtain ⟨k,d,h⟩:=bind_some h
 have hs:=Ae hB hs
 refine rk 2 [3] hs ?_
 refine Ax _ (Oh w0 hE hM hP n _ _ _ a1 ([bodyP]) a0 _ d) (hv hs) ?_
 refine ne hs b ?_
 clear b
 exact rt h hs a e
def DN (b:ByteArray) (g:List ByteArray):Bool :=
 QG g b
theorem Uj (w0:World) (B:Aq) (Rw:Aw) (L:Av) (a0:ByteArray) (la1 ka1:Nat) (a1:List ByteArray) (hla1:B[la1]? = some [.mp ka1]) (hmla1:∀ B R,NJ ⟨B,R,L⟩ ka1=some a1) (r:Bool) (h:DN a0 a1=r) :
  ACalls Tryz.prog w0 103 [.val (.string a0),.box la1 0] ⟨B,Rw,L⟩ fun x st=>x = .val (.bool r)∧st=⟨B,Rw,L⟩:=by
 rw [DN] at h
 refine hd [.tmp 3] Tryz.func103 Tryz.ntmps103 fun M0 W0 f e d a g c hs=>?_
 simp only [AB]
 have b:=(Ak.1 hla1).1
 have hs:=Ae (As hla1) hs
 have hs:=Ae hmla1 hs
 refine rg [0,1] hs ?_
 refine rg [5] hs ?_
 refine rg [3] hs ?_
 exact rT h hs a c
theorem SV (w0:World) (B:Aq) (Rw:Aw) (L:Av) (a0:ByteArray) (la1 ka1:Nat) (a1:List ByteArray) (hla1:B[la1]? = some [.mp ka1]) (hmla1:∀ B R,NJ ⟨B,R,L⟩ ka1=some a1) :
  ACalls Tryz.prog w0 103 [.val (.string a0),.box la1 0] ⟨B,Rw,L⟩ fun x st=>x = .val (.bool (DN a0 a1))∧st=⟨B,Rw,L⟩:=Uj w0 B Rw L a0 la1 ka1 a1 hla1 hmla1 _ rfl
def Ij (n:Nat)  (b:List (List Part)):Option ((List (List Part))) :=
 some (b)
def D1 (n:Nat) (q:(List (List Part))):Nat→(List (List Part))→Int→Option ((List (List Part)))
 | 0,_,_=>none
 | m+1,g,b =>
  if decide (b<(q.length:Int)) then
   (BJ q b).bind fun h =>
   if (g.length+1)*24≤140737488355328∧g.length+1≤4611686018427387904 then
    if A9 (b+1) then
     (D1 n q m) (g++[h]) (b+1)
    else none
   else none
  else
   Ij n g
def FV (n:Nat) (g:Ty):Option ((List (List Part))) :=
 (D6 n g).bind fun b =>
 D1 n b n ([]) 0
theorem Ou (w0:World) (hT:Lib.Utf8Tabs 2 3 w0) (n:Nat) (B:Aq) (Rw:Aw) (L:Av) (a0:Ty) (r:(List (List Part))) (h:FV n a0=some r) :
  ACalls Tryz.prog w0 84 [.agg (a0.cs)] ⟨B,Rw,L⟩ fun x st=>∃ (o0:VO) (rows:Aw),x=Ks o0 r.length∧st=⟨B,rows,L⟩∧Owns Rw rows [] .none [(o0,1,(r).flatMap fun x=>((CJ AD) x).cells)]:=by
 rw [FV] at h
 refine ACalls.finV (L0 [] (rs:=[.tmp 2]) Tryz.func84 rfl rfl Tryz.ntmps84 (AL Tryz.func84 rfl (by decide)) (Nat.le_of_ble_eq_true rfl) ?_)
 intro M0 W0 H y w i Q
 dsimp only at H y w i Q
 simp only [AB]
 have j:=Owns.none Rw
 have hs:=WY
 refine rg [1] hs ?_
 refine rg [1,3] hs ?_
 refine AA (fun e st=>∃ (c:List (List Part)) (g:VO) (Xk4:Aq) (Rk4:Aw),e=[(3,true,Ks g c.length)]∧st=⟨B++([a0.cs]++Xk4),Rk4,L⟩∧Owns Rw Rk4 [] .none [(g,1,c.flatMap fun x=>((CJ AD) x).cells)]∧Ij n c=some r) ?_ ?_
 ·intro K5 N
  obtain ⟨J,G,h⟩:=bind_some h
  refine rc 2 [3,7,8,9] hs ?_;intro K6 C
  refine Ax _ (Kw w0 hT n _ _ _ a0 _ G) (hv hs) ?_
  refine ne hs C ?_
  clear C
  apply Ar
  refine Vo 3 rfl ?_
  refine Lh (Ea [3,7,8,9] _) ?_ (DV _ _);simp +decide only [go_sem,Nat.reduceAdd]
  have j:=j.nilV 1
  refine Az (fun m e st=>∃ (a:List (List Part)) (d:Int) (b:VO) (Xl8:Aq) (Rl8:Aw),e=[(3,true,Ks b a.length),(7,true,.list (J.map (CJ AD)) .none),(8,true,Am (J.length:Int)),(9,true,Am d)]∧st=⟨B++([a0.cs]++Xl8),Rl8,L⟩∧Owns Rw Rl8 [] .none [(b,1,a.flatMap fun x=>((CJ AD) x).cells)]∧D1 n J m a d=some r) n ⟨([]),0,.nil,([]),Rw,ef hs,ef hs,Owns.eqV (j) Ze,h⟩ ?_
  rintro ml8 e st ⟨a,d,b,Xl8,Rl8,rfl,rfl,j,h⟩ Ul8 Vl8
  cases ml8 with
  | zero=>cases h
  | succ ml8 =>
  rw [D1] at h
  have l:=j.underV
  simp only [List.mem_cons,List.not_mem_nil,or_false,forall_eq_or_imp,forall_eq] at l
  refine A8 H y w rfl i j ow ow ?_ (vu @RD)
  refine rg [3,7,8,9,10] hs ?_
  apply An;intro K11 p
  refine BL h hs ?_ ?_<;>intro hs h
  rotate_left
  ·refine sx [3] hs N ?_
   exact ⟨a,b,([]),Rl8,ef hs,ef hs,Owns.eqV (j) Ze,h⟩
  refine sk [3,7,8,9] hs p ?_
  clear p
  apply An;intro K13 q
  apply Ar
  obtain ⟨z,D,h⟩:=bind_some h
  obtain ⟨E,K,v⟩:=AY D
  have u:=AO (f:=(CJ AD)) v
  have hs:=Ae u hs
  refine rg [3,5,7,8,9] hs ?_
  obtain ⟨t,h⟩:=Au h
  obtain ⟨F,o,j,k⟩:=j.appendV (P:=Tryz.prog) (n:=a.length) (m:=1) SA (by rw [LA];rfl) (by decide) ((Gt (f:=(CJ AD)) (sz:=1) (fun _=>by simp +decide only [go_sem]) _)) t.1 t.2 [(CJ AD) z] rfl ((a++[z]).flatMap fun x=>((CJ AD) x).cells) (by simp only [List.flatMap_append,List.flatMap_cons,List.flatMap_nil,List.append_nil,List.nil_append,ZcB])
  simp only [List.mem_singleton,forall_eq,Fb,Ft,Fp,Ec,Ed,Fj,CG,Dp,Fq,BX,BW,Du,Dv,Dq,E8,Dt,Fa] at k
  have hs:=Ae k hs
  refine rl [3,7,8,9] hs q ?_
  clear q
  obtain ⟨O,h⟩:=Au h
  refine rl [3,7,8,9] hs (fun e s=>Vl8 ml8 e s (Nat.lt_succ_self _)) ?_
  exact ⟨(a++[z]),(d+1),F,([]),o,ef hs,ef hs,Owns.eqV (j) Ze,h⟩
 ·clear h;rintro e st ⟨c,g,Xk4,Rk4,rfl,rfl,j,h⟩
  rw [Ij] at h
  have l:=j.underV
  simp only [List.mem_cons,List.not_mem_nil,or_false,forall_eq_or_imp,forall_eq] at l
  refine A8 H y w rfl i j ow ow ?_ (vu @RD)
  refine rg [2] hs ?_
  apply AM;simp +decide only [go_sem,Nat.reduceAdd]
  have hgt:=Option.some.inj h;subst hgt
  have l:=j.underV
  simp only [List.mem_cons,List.not_mem_nil,or_false,forall_eq_or_imp,forall_eq] at l
  refine Zbl j i rfl ow (vu @RD) ⟨_,_,?_,rfl,j.sub (List.nil_sublist _)⟩
  first | rfl | (simp +decide only [go_sem,Nat.reduceAdd];done) | (simp +decide only [go_sem,Nat.reduceAdd,Vl.cs,Ty.cs];done)
def JK (n:Nat)  (b:List ByteArray):Option ((List ByteArray)) :=
 some (b)
def Fe (n:Nat) (h:List (List Part)):Nat→(List ByteArray)→Int→Option ((List ByteArray))
 | 0,_,_=>none
 | m+1,g,b =>
  if decide (b<(h.length:Int)) then
   (BJ h b).bind fun y =>
   (Hi n y).bind fun q =>
   if (g.length+1)*16≤140737488355328∧g.length+1≤4611686018427387904 then
    if A9 (b+1) then
     (Fe n h m) (g++([q.1])) (b+1)
    else none
   else none
  else
   JK n g
def Jb (n:Nat) (b:List (List Part)):Option ((List ByteArray)) :=
 Fe n b n ([]) 0
theorem WR (w0:World) (hP:Pow10 w0) (n:Nat) (B:Aq) (Rw:Aw) (L:Av) (a0:List (List Part)) (r:(List ByteArray)) (h:Jb n a0=some r) :
  ACalls Tryz.prog w0 91 [.list (a0.map (CJ AD)) .none] ⟨B,Rw,L⟩ fun x st=>x = .list (r.map BE) .none∧st=⟨B,Rw,L⟩:=by
 rw [Jb] at h
 refine hd [.tmp 2] Tryz.func91 Tryz.ntmps91 fun M0 W0 p l k i q j hs=>?_
 simp only [AB]
 refine rg [0] hs ?_
 refine rg [0,3] hs ?_
 refine AA (fun e st=>∃ (f:List ByteArray) (c:Ev.Own),Ck e st B Rw L [(3,true,.list (f.map BE) c)] [] [(1,f.length,c)] (JK n f=some r)) ?_ ?_
 ·intro K5 o
  refine rg [3,8,9,10] hs ?_
  apply Ar
  refine Az (fun m e st=>∃ (d:List ByteArray) (g:Int) (b:Ev.Own),Ck e st B Rw L [(3,true,.list (d.map BE) b),(8,true,.list (a0.map (CJ AD)) .none),(9,true,Am (a0.length:Int)),(10,true,Am g)] [] [(1,d.length,b)] (Fe n a0 m d g=some r)) n ⟨([]),0,.full,([]),Rw,ef hs,ef hs,Owns.of_eq ((j).full 1 0) Dk,h⟩ ?_
  rintro ml7 e st ⟨d,g,b,Xl7,Rl7,rfl,rfl,j,h⟩ Ul7 Vl7
  cases ml7 with
  | zero=>cases h
  | succ ml7 =>
  rw [Fe] at h
  exact go (tg (a:=([3,8,9,10,11],([3,8,9,10],[3,5,8,9,10],[3,6,8,9,10],[3,8,9,10],[3,8,9,10],()),[3],()))) h hs p l k i j (q2 (Nx w0 hP n) (ae M7 JV)) (q2 o (fun e s=>Vl7 ml7 e s (Nat.lt_succ_self _)))
 ·clear h;rintro e st ⟨f,c,Xk4,Rk4,rfl,rfl,j,h⟩
  rw [JK] at h
  exact go (tg (a:=([2],()))) h hs p l k i j trivial trivial
def I9 (n:Nat)  (b:List ByteArray):Option ((List ByteArray)) :=
 some (b)
def EE (n:Nat) (q:List (List Part)):Nat→(List ByteArray)→Int→Option ((List ByteArray))
 | 0,_,_=>none
 | m+1,g,b =>
  if decide (b<(q.length:Int)) then
   (BJ q b).bind fun h =>
   (Hi n h).bind fun y =>
   if (g.length+1)*16≤140737488355328∧g.length+1≤4611686018427387904 then
    if A9 (b+1) then
     (EE n q m) (g++[y.1]) (b+1)
    else none
   else none
  else
   I9 n g
def JW (n:Nat) (b:List (List Part)):Option ((List ByteArray)) :=
 EE n b n ([]) 0
theorem Vq (w0:World) (hP:Pow10 w0) (n:Nat) (B:Aq) (Rw:Aw) (L:Av) (a0:List (List Part)) (r:(List ByteArray)) (h:JW n a0=some r) :
  ACalls Tryz.prog w0 91 [.list (a0.map (CJ AD)) .none] ⟨B,Rw,L⟩ fun x st=>∃ (o0:VO) (rows:Aw),x=Ks o0 r.length∧st=⟨B,rows,L⟩∧Owns Rw rows [] .none [(o0,1,(r).flatMap fun x=>(BE x).cells)]:=by
 rw [JW] at h
 refine ACalls.finV (L0 [] (rs:=[.tmp 2]) Tryz.func91 rfl rfl Tryz.ntmps91 (AL Tryz.func91 rfl (by decide)) (Nat.le_of_ble_eq_true rfl) ?_)
 intro M0 W0 H y v i Q
 dsimp only at H y v i Q
 simp only [AB]
 have j:=Owns.none Rw
 have hs:=WY
 refine rg [0] hs ?_
 refine rg [0,3] hs ?_
 refine AA (fun e st=>∃ (d:List ByteArray) (g:VO) (Xk4:Aq) (Rk4:Aw),e=[(3,true,Ks g d.length)]∧st=⟨B++([]++Xk4),Rk4,L⟩∧Owns Rw Rk4 [] .none [(g,1,d.flatMap fun x=>(BE x).cells)]∧I9 n d=some r) ?_ ?_
 ·intro K5 K
  refine rg [3,8,9,10] hs ?_
  apply Ar
  refine Vo 3 rfl ?_
  refine Lh (Ea [3,8,9,10] _) ?_ (DV _ _);simp +decide only [go_sem,Nat.reduceAdd]
  have j:=j.nilV 1
  refine Az (fun m e st=>∃ (a:List ByteArray) (c:Int) (b:VO) (Xl7:Aq) (Rl7:Aw),e=[(3,true,Ks b a.length),(8,true,.list (a0.map (CJ AD)) .none),(9,true,Am (a0.length:Int)),(10,true,Am c)]∧st=⟨B++([]++Xl7),Rl7,L⟩∧Owns Rw Rl7 [] .none [(b,1,a.flatMap fun x=>(BE x).cells)]∧EE n a0 m a c=some r) n ⟨([]),0,.nil,([]),Rw,ef hs,ef hs,Owns.eqV (j) Ze,h⟩ ?_
  rintro ml7 e st ⟨a,c,b,Xl7,Rl7,rfl,rfl,j,h⟩ Ul7 Vl7
  cases ml7 with
  | zero=>cases h
  | succ ml7 =>
  rw [EE] at h
  have l:=j.underV
  simp only [List.mem_cons,List.not_mem_nil,or_false,forall_eq_or_imp,forall_eq] at l
  refine A8 H y v rfl i j ow ow ?_ (vu @OR)
  refine rg [3,8,9,10,11] hs ?_
  apply An;intro K10 q
  refine BL h hs ?_ ?_<;>intro hs h
  rotate_left
  ·refine sx [3] hs K ?_
   exact ⟨a,b,([]),Rl7,ef hs,ef hs,Owns.eqV (j) Ze,h⟩
  refine sk [3,8,9,10] hs q ?_
  clear q
  apply An;intro K12 t
  apply Ar
  obtain ⟨J,E,h⟩:=bind_some h
  obtain ⟨G,F,z⟩:=AY E
  have C:=AO (f:=(CJ AD)) z
  have hs:=Ae C hs
  refine rg [3,5,8,9,10] hs ?_
  obtain ⟨w,D,h⟩:=bind_some h
  refine rc 2 [3,6,8,9,10] hs ?_;intro K15 p
  refine Ax _ (Nx w0 hP n _ _ _ J _ D) (hv hs) ?_
  refine ne hs p ?_
  clear p
  obtain ⟨u,h⟩:=Au h
  obtain ⟨N,o,j,k⟩:=j.appendV (P:=Tryz.prog) (n:=a.length) (m:=1) M7 (by rw [JV];rfl) (by decide) ((Gt (f:=BE) (sz:=1) (fun _=>by simp +decide only [go_sem]) _)) u.1 u.2 [BE w.1] rfl ((a++[w.1]).flatMap fun x=>(BE x).cells) (by simp only [List.flatMap_append,List.flatMap_cons,List.flatMap_nil,List.append_nil,List.nil_append,Zab])
  simp only [List.mem_singleton,forall_eq,Fb,Ft,Fp,Ec,Ed,Fj,CG,Dp,Fq,BX,BW,Du,Dv,Dq,E8,Dt,Fa] at k
  have hs:=Ae k hs
  refine rl [3,8,9,10] hs t ?_
  clear t
  obtain ⟨O,h⟩:=Au h
  refine rl [3,8,9,10] hs (fun e s=>Vl7 ml7 e s (Nat.lt_succ_self _)) ?_
  exact ⟨(a++[w.1]),(c+1),N,([]),o,ef hs,ef hs,Owns.eqV (j) Ze,h⟩
 ·clear h;rintro e st ⟨d,g,Xk4,Rk4,rfl,rfl,j,h⟩
  rw [I9] at h
  have l:=j.underV
  simp only [List.mem_cons,List.not_mem_nil,or_false,forall_eq_or_imp,forall_eq] at l
  refine A8 H y v rfl i j ow ow ?_ (vu @OR)
  refine rg [2] hs ?_
  apply AM;simp +decide only [go_sem,Nat.reduceAdd]
  have hgt:=Option.some.inj h;subst hgt
  have l:=j.underV
  simp only [List.mem_cons,List.not_mem_nil,or_false,forall_eq_or_imp,forall_eq] at l
  refine Zjl j i rfl ow (vu @OR) ⟨_,_,?_,rfl,j.sub (List.nil_sublist _)⟩
  first | rfl | (simp +decide only [go_sem,Nat.reduceAdd];done) | (simp +decide only [go_sem,Nat.reduceAdd,Vl.cs,Ty.cs];done)
def FC (n:Nat) (g:Int→(List ByteArray)→Option ((List ByteArray) × Int)) (b:Int) (b1_k63:List ByteArray):Option ((List ByteArray) × Int) :=
 if A9 (b+1) then
  g (b+1) b1_k63
 else none
def FT (n:Nat) (again_r50:(List (List Part))→Option ((List ByteArray) × Int)) (q:List Ty) (p_r50:Nat × List (ByteArray × Ex)) (b1_k55:List ByteArray):Option ((List ByteArray) × Int) :=
 (BJ q (p_r50.1:Int)).bind fun g =>
 (FV n g).bind fun b =>
 if b.length≤1000000000 then
  (UT (fun (y:List Part)=>G3 n y b1_k55) b).bind fun h =>
  again_r50 h
 else none
def FP (n:Nat) (y:List Ty) (pm_k91:List ByteArray):Option ((List ByteArray) × Int) :=
 (BJ y 0).bind fun g =>
 (GA n g).bind fun q =>
 (JW n q).bind fun b =>
 if b.length≤1000000000 then
  (UT (fun (z:ByteArray)=>some (DN z pm_k91)) b).bind fun h =>
  some ((h,0))
 else none
def CP (n:Nat) (again_r50:(List (List Part))→Option ((List ByteArray) × Int)) (y:List Ty) (p_r50:Nat × List (ByteArray × Ex)) (b1_r50:List (List Part)):Nat→Int→(List ByteArray)→Option ((List ByteArray) × Int)
 | 0,_,_=>none
 | m+1,b,b1_l58 =>
  if decide (b<(p_r50.2.length:Int)) then
   (BJ p_r50.2 b).bind fun h =>
   (Df n h.1).bind fun q =>
   (Ba n b1_r50 (fun (x0:List Part)=>FK n x0 q.1)).bind fun z =>
   if z then
    (F4 n h.2).bind fun g =>
    if (b1_l58.length+g.length)*16≤140737488355328∧b1_l58.length+g.length≤4611686018427387904 then
     FC n (CP n again_r50 y p_r50 b1_r50 m) b (b1_l58++g)
    else none
   else
    FC n (CP n again_r50 y p_r50 b1_r50 m) b b1_l58
  else
   FT n again_r50 y p_r50 b1_l58
def CU (n:Nat) (q:List Ty) (g:(List ByteArray)):Nat→Int→(List ByteArray)→Option ((List ByteArray) × Int)
 | 0,_,_=>none
 | m+1,b,pm_l95 =>
  if decide (b<(g.length:Int)) then
   (BJ g b).bind fun h =>
   if A9 (b+1) then
    (CU n q g m) (b+1) (WB pm_l95 h)
   else none
  else
   FP n q pm_l95
def BB (n:Nat) (g:List Ty):List (Nat × List (ByteArray × Ex))→(List (List Part))→Option ((List ByteArray) × Int)
 | [],b1_r50 =>
  (Jb n b1_r50).bind fun b =>
  CU n g b n 0 ([])
 | p_r50::rest,b1_r50 =>
  CP n (BB n g rest) g p_r50 b1_r50 n 0 ([])
def G9 (n:Nat) (h:List (List (ByteArray × Ex))) (q:List Ty):Option ((List ByteArray) × Int) :=
 (BJ q (h.length:Int)).bind fun b =>
 (FV n b).bind fun g =>
 if h.length≤1000000000 then
  BB n q (OE h) g
 else none
def Ez (n:Nat) (h:List (List (ByteArray × Ex))) (y:List Ty):Nat→Int→Option ((List ByteArray) × Int)
 | 0,_=>none
 | m+1,b =>
  if decide (b<(h.length:Int)) then
   (BJ h b).bind fun q =>
   (CS n q).bind fun g =>
   if !(decide (g=0)) then
    some (([],g))
   else
    if A9 (b+1) then
     (Ez n h y m) (b+1)
    else none
  else
   G9 n h y 
def HZ (n:Nat) (g:List (List (ByteArray × Ex))) (b:List Ty):Option ((List ByteArray) × Int) :=
 Ez n g b n 0
def EA (n:Nat) (y:List (List (ByteArray × Ex))) (h:List Ty):Nat→Int→Option ((List ByteArray) × Int)
 | 0,_=>none
 | m+1,b =>
  if decide (b<(h.length:Int)) then
   (BJ h b).bind fun q =>
   (EB n q).bind fun g =>
   if !(decide (g=0)) then
    some (([],g))
   else
    if A9 (b+1) then
     (EA n y h m) (b+1)
    else none
  else
   HZ n y h 
def I3 (n:Nat) (b:List (List (ByteArray × Ex))) (g:List Ty):Option ((List ByteArray) × Int) :=
 if A9 ((b.length:Int)+1) then
  if !(decide ((g.length:Int)=((b.length:Int)+1))) then
   some (([],5))
  else
   EA n b g n 0
 else none
theorem Wq (w0:World) (hB:O7 w0) (hE:JF w0) (hM:Jz w0) (hP:Pow10 w0) (hT:Lib.Utf8Tabs 2 3 w0) (n:Nat) (B:Aq) (Rw:Aw) (L:Av) (a0:List (List (ByteArray × Ex))) (a1:List Ty) (r:(List ByteArray) × Int) (h:I3 n a0 a1=some r) :
  ACalls Tryz.prog w0 35 [.list (a0.map HT) .none,.list (a1.map Dj) .none] ⟨B,Rw,L⟩ fun x st=>x = .tup [.list (r.1.map BE) .none,Am r.2]∧st=⟨B,Rw,L⟩:=by
 unfold I3 at h
 refine hd [.tmp 4,.tmp 5] Tryz.func35 Tryz.ntmps35 fun M0 W0 hN hNR hNL hcalm hu a hs=>?_
 simp only [AB]
 refine rg [0,3] hs ?_
 apply An;intro K2 bx
 obtain ⟨dr,h⟩:=Au h
 refine rg [0,3,28] hs ?_
 refine BL h hs ?_ ?_<;>intro hs h
 ·have G:=hs.1
  refine rg [4,5] hs ?_
  exact rt h hs hcalm a
 have G:=hs.1
 refine sk [0,3] hs bx ?_
 clear bx
 refine AA (fun e st=>Ck e st B Rw L [(0,true,.list (a0.map HT) .none),(3,true,.box B.length 0)] [[.list (a1.map Dj) .none]] [] (HZ n a0 a1  = some r)) ?_ ?_
 ·intro K9 c4
  refine rg [0,3,29,30,31] hs ?_
  apply Ar
  refine Az (fun m e st=>∃ (u:Int),Ck e st B Rw L [(0,true,.list (a0.map HT) .none),(3,true,.box B.length 0),(29,true,.list (a1.map Dj) .none),(30,true,Am (a1.length:Int)),(31,true,Am u)] [[.list (a1.map Dj) .none]] [] (EA n a0 a1 m u=some r)) n ⟨0,([]),Rw,ef hs,ef hs,a,h⟩ ?_
  rintro ml11 e st ⟨u,Xl11,Rl11,rfl,rfl,a,h⟩ Ul11 Vl11
  cases ml11 with
  | zero=>cases h
  | succ ml11 =>
  rw [EA] at h
  refine td hN hNR hNL hcalm a ?_
  refine rg [0,3,29,30,31,32] hs ?_
  apply An;intro K13 au
  refine BL h hs ?_ ?_<;>intro hs h
  rotate_left
  ·refine sx [0,3] hs c4 ?_
   exact ⟨([]),Rl11,ef hs,ef hs,a,h⟩
  refine sk [0,3,29,30,31] hs au ?_
  clear au
  apply An;intro K15 ah
  apply Ar
  obtain ⟨bo,bp,h⟩:=bind_some h
  obtain ⟨c0,cr,bh⟩:=AY bp
  have a7:=AO (f:=Dj) bh
  have hs:=Ae a7 hs
  refine rg [0,3,7,29,30,31] hs ?_
  obtain ⟨dp,b2,h⟩:=bind_some h
  refine rc 2 [0,3,8,29,30,31] hs ?_;intro K18 aw
  refine Ax _ (KT w0 hT n _ _ _ bo _ b2) (hv hs) ?_
  refine ne hs aw ?_
  clear aw
  refine rg [0,3,8,29,30,31,38] hs ?_
  refine BL h hs ?_ ?_<;>intro hs h
  ·refine rg [4,5] hs ?_
   exact rt h hs hcalm a
  refine sk [0,3,29,30,31] hs ah ?_
  clear ah
  obtain ⟨dm,h⟩:=Au h
  refine rl [0,3,29,30,31] hs (fun e s=>Vl11 ml11 e s (Nat.lt_succ_self _)) ?_
  exact ⟨(u+1),([bo.cs]),Rl11,ef hs,ef hs,a,h⟩
 ·clear h;rintro e st ⟨Xk8,Rk8,rfl,rfl,a,h⟩
  rw [HZ] at h
  refine td hN hNR hNL hcalm a ?_
  refine AA (fun e st=>Ck e st B Rw L [(0,true,.list (a0.map HT) .none),(3,true,.box B.length 0)] [[.list (a1.map Dj) .none]] [] (G9 n a0 a1  = some r)) ?_ ?_
  ·intro K26 bt
   refine rg [0,3,41,42,43] hs ?_
   apply Ar
   refine Az (fun m e st=>∃ (w:Int),Ck e st B Rw L [(0,true,.list (a0.map HT) .none),(3,true,.box B.length 0),(41,true,.list (a0.map HT) .none),(42,true,Am (a0.length:Int)),(43,true,Am w)] [[.list (a1.map Dj) .none]] [] (Ez n a0 a1 m w=some r)) n ⟨0,([]),Rk8,ef hs,ef hs,a,h⟩ ?_
   rintro ml28 e st ⟨w,Xl28,Rl28,rfl,rfl,a,h⟩ Ul28 Vl28
   cases ml28 with
   | zero=>cases h
   | succ ml28 =>
   rw [Ez] at h
   refine td hN hNR hNL hcalm a ?_
   refine rg [0,3,41,42,43,44] hs ?_
   apply An;intro K30 a2
   refine BL h hs ?_ ?_<;>intro hs h
   rotate_left
   ·refine sx [0,3] hs bt ?_
    exact ⟨([]),Rl28,ef hs,ef hs,a,h⟩
   refine sk [0,3,41,42,43] hs a2 ?_
   clear a2
   apply An;intro K32 ao
   apply Ar
   obtain ⟨b9,bj,h⟩:=bind_some h
   obtain ⟨co,cq,a8⟩:=AY bj
   have a5:=AO (f:=HT) a8
   have hs:=Ae a5 hs
   refine rg [0,3,10,41,42,43] hs ?_
   obtain ⟨ds,bv,h⟩:=bind_some h
   refine rc 2 [0,3,11,41,42,43] hs ?_;intro K35 ap
   refine Ax _ (Gw w0 hE hM hP n _ _ _ b9 _ bv) (hv hs) ?_
   refine ne hs ap ?_
   clear ap
   refine rg [0,3,11,41,42,43,50] hs ?_
   refine BL h hs ?_ ?_<;>intro hs h
   ·refine rg [4,5] hs ?_
    exact rt h hs hcalm a
   refine sk [0,3,41,42,43] hs ao ?_
   clear ao
   obtain ⟨de,h⟩:=Au h
   refine rl [0,3,41,42,43] hs (fun e s=>Vl28 ml28 e s (Nat.lt_succ_self _)) ?_
   exact ⟨(w+1),([[.list (b9.map A7) .none]]),Rl28,ef hs,ef hs,a,h⟩
  ·clear h;rintro e st ⟨Xk25,Rk25,rfl,rfl,a,h⟩
   rw [G9] at h
   refine td hN hNR hNL hcalm a ?_
   obtain ⟨c6,bl,h⟩:=bind_some h
   obtain ⟨cw,cy,bb⟩:=AY bl
   have c:=AO (f:=Dj) bb
   have d:(a1.map Dj).getD (a0.length) .junk=_:=c
   obtain ⟨c2,b3,h⟩:=bind_some h
   have hs:=Ae c hs
   have hs:=Ae d hs
   refine rc 2 [0,3,12] hs ?_;intro K41 az
   refine DL _ (Ou w0 hT n _ _ _ c6 _ b3) (hv hs) ?_;rintro _ _ ⟨cv,Rv46,rfl,rfl,ad⟩
   have a:=a.callV ad
   refine ne hs az ?_
   clear az
   apply An;intro K47 ax
   refine rc 2 [3,12,60] hs ?_;intro K48 ag
   refine DL _ (Zej w0 _ _ _ a0) (hv hs) ?_;rintro _ _ ⟨rfl,rfl⟩
   refine ne hs ag ?_
   clear ag
   apply Ar
   obtain ⟨bw,h⟩:=Au h
   refine S5 (M9 a0) (fun st=>st.boxes[(B.length+2)]? = some [.list (a0.map HT) .none]) (fun i st=>∃ (b1_r50:List (List Part)) (p:VO) (Rr50:Aw),st=⟨B++([[.list (a1.map Dj) .none],[Ks p b1_r50.length],[.list (a0.map HT) .none]]),Rr50,L⟩∧Owns Rw Rr50 [] .none [(p,1,b1_r50.flatMap fun x=>((CJ AD) x).cells)]∧BB n a1 ((OE a0).drop i) b1_r50=some r) (fun _ _=>False) ev (ef hs) (Za8 w0 a0 bw _) (fun x hx=>Za3 a0 x hx) (by decide) ?_ ⟨c2,cv,Rv46,ef hs,Owns.eqV (a) Ze,h⟩ (fun _ _ h=>h.elim) ?_ ?_ ?_
   ·rintro i st la ⟨b1_r50,p,Rr50,rfl,a,h⟩ _ _;simp +decide [St.push]
   ·rintro i s1 ⟨XB,XR,XL⟩ x M1 W1 l la la' hX hI c9 ce hx bk K hK
    obtain ⟨b,cu,rfl,hi⟩:=ZaV a0 i x hx
    cases hX
    obtain ⟨b1_r50,p,Rr50,rfl,a,h⟩:=hI
    rw [Vb cu,BB] at h
    simp only [St.ext,St.push,List.append_assoc,List.append_nil]
    refine X2 (B.length+1) 0 (by first | rfl | (simp only [E3,Dx];rfl) | (simp +decide only [go_sem,Nat.reduceAdd];done)) (by first | rfl | (simp only [PS,List.length_set];rfl) | (simp only [List.length_append,List.length_cons,List.length_nil,Nat.zero_add];rfl)) a false (.inr rfl) (by decide) ((Gt (f:=(CJ AD)) (sz:=1) (fun _=>by simp +decide only [go_sem]) _)) (QR (f:=(CJ AD)) (fun _=>rfl) _) (fun rows51 a9 a=>?_)
    simp +decide only [go_sem,Nat.reduceAdd,List.set_cons_zero,List.set_cons_succ]
    refine rg [3,12,13,62] hs ?_
    apply Ap 1 [3,12,13,14]
    rw [Ao];simp +decide only [go_sem,Nat.reduceAdd,G,c,d]
    (repeat' apply Ae)<;>first | refine hK _ _ (by simp [St.ext,St.push]) (fun KQ br=>?_) | exact cl
    clear hK
    simp only [St.ext,St.push,List.append_assoc,List.append_nil]
    rw [show B++([[.list (a1.map Dj) .none],[.list (b1_r50.map (CJ AD)) .none],[.list (a0.map HT) .none],[.list (b.2.map A7) .none]]:Aq)=(B++([[.list (a1.map Dj) .none],[.list (b1_r50.map (CJ AD)) .none],[.list (a0.map HT) .none]]:Aq))++[[.list (b.2.map A7) .none]] by simp only [List.append_assoc,List.cons_append,List.nil_append]]
    (try rw [show B.length+3=(B++([[.list (a1.map Dj) .none],[.list (b1_r50.map (CJ AD)) .none],[.list (a0.map HT) .none]]:Aq)).length by simp only [List.length_append,List.length_cons,List.length_nil]])
    obtain ⟨hN,hNR,hNL,hcalm⟩:=ZeC (bs:=[[.list (a1.map Dj) .none],[.list (b1_r50.map (CJ AD)) .none],[.list (a0.map HT) .none]]) bk hcalm (a.sub (List.nil_sublist _)) rfl a9 ow
    have hend:∀ (z:List (List Part)) (oz:VO) (X:Aq) (rows:Aw) (e:Env),Owns rows51 rows [] .none [(oz,1,z.flatMap fun x=>((CJ AD) x).cells)]→BB n a1 ((OE a0).drop (i+1)) z=some r→KQ .normal e ⟨(B++([[.list (a1.map Dj) .none],[.list (b1_r50.map (CJ AD)) .none],[.list (a0.map HT) .none]]:Aq)).set (B.length+1) [Ks oz z.length]++X,rows,L++[la']⟩ :=
     fun z oz X rows e hz hf=>ZdC (k:=1) br rfl a9 hcalm hz (RD _ _ _ _) ⟨z,oz,rows,rfl,(a.sub (List.nil_sublist _)).callV hz,hf⟩
    have hlb0:(B++([[.list (a1.map Dj) .none],[.list (b1_r50.map (CJ AD)) .none],[.list (a0.map HT) .none]]:Aq))[B.length]? = some ([.list (a1.map Dj) .none]):=by rw [List.getElem?_append_right (by omega)];simp only [Nat.add_sub_cancel_left,Nat.sub_self];rfl
    have hlb1:(B++([[.list (a1.map Dj) .none],[.list (b1_r50.map (CJ AD)) .none],[.list (a0.map HT) .none]]:Aq))[B.length+1]? = some ([.list (b1_r50.map (CJ AD)) .none]):=by rw [List.getElem?_append_right (by omega)];simp only [Nat.add_sub_cancel_left,Nat.sub_self];rfl
    have hlb2:(B++([[.list (a1.map Dj) .none],[.list (b1_r50.map (CJ AD)) .none],[.list (a0.map HT) .none]]:Aq))[B.length+2]? = some ([.list (a0.map HT) .none]):=by rw [List.getElem?_append_right (by omega)];simp only [Nat.add_sub_cancel_left,Nat.sub_self];rfl
    have hne1_0:B.length+1≠B.length:=by omega
    have hne1_2:B.length+1≠B.length+2:=by omega
    clear bk br
    generalize L++[la']=L at hNL hcalm hend ⊢
    generalize B.length+2=lb2 at hlb0 hlb1 hlb2 hne1_0 hne1_2 hend ⊢
    generalize B.length+1=lb1 at hlb0 hlb1 hlb2 hne1_0 hne1_2 hend ⊢
    generalize B.length=lb0 at hlb0 hlb1 hlb2 hne1_0 hne1_2 hend ⊢
    generalize B++([[.list (a1.map Dj) .none],[.list (b1_r50.map (CJ AD)) .none],[.list (a0.map HT) .none]]:Aq)=B at hN hcalm hend hlb0 hlb1 hlb2 ⊢
    generalize rows51=Rw at hNR hcalm hend ⊢
    clear a a9
    have cn:=(Ak.1 hlb0).1
    have cf:=(Ak.1 hlb1).1
    have ci:=(Ak.1 hlb2).1
    have a:=Owns.none Rw
    have hs:=WY
    apply Ar
    have hs:=Ae G hs
    have hs:=Ae c hs
    have hs:=Ae d hs
    have hs:=Ae (As hlb0) hs
    have hs:=Ae (As hlb1) hs
    have hs:=Ae (As hlb2) hs
    have hs:=Ae (A6 hlb0 hne1_0) hs
    have hs:=Ae (A6 hlb2 hne1_2) hs
    refine rg [3,12,13,14,15] hs ?_
    refine AA (fun e st=>∃ (y:List ByteArray) (H:Ev.Own),Ck e st B Rw L [(3,true,.box lb0 0),(12,true,.box lb1 0),(13,true,Am (b.1:Int)),(15,true,.box (B.length+1) 0)] [[.list (b.2.map A7) .none],[.list (y.map BE) H]] [(1,y.length,H)] (FT n (BB n a1 ((OE a0).drop (i+1))) a1 b y=some r)) ?_ ?_
    ·intro K56 b4
     refine rg [3,12,13,15,64,65,66] hs ?_
     apply Ar
     refine Az (fun m e st=>∃ (q:Int) (o:List ByteArray) (t:Ev.Own),Ck e st B Rw L [(3,true,.box lb0 0),(12,true,.box lb1 0),(13,true,Am (b.1:Int)),(15,true,.box (B.length+1) 0),(64,true,.list (b.2.map A7) .none),(65,true,Am (b.2.length:Int)),(66,true,Am q)] [[.list (b.2.map A7) .none],[.list (o.map BE) t]] [(1,o.length,t)] (CP n (BB n a1 ((OE a0).drop (i+1))) a1 b b1_r50 m q o=some r)) n ⟨0,([]),.full,([]),Rw,ef hs,ef hs,Owns.of_eq ((a).full 1 0) Dk,h⟩ ?_
     rintro ml58 e st ⟨q,o,t,Xl58,Rl58,rfl,rfl,a,h⟩ Ul58 Vl58
     cases ml58 with
     | zero=>cases h
     | succ ml58 =>
     rw [CP] at h
     have hU:=a.unders
     simp only [List.mem_cons,List.not_mem_nil,or_false,forall_eq_or_imp,forall_eq] at hU
     refine td hN hNR hNL hcalm a ?_
     refine rg [3,12,13,15,64,65,66,67] hs ?_
     apply An;intro K60 aj
     refine BL h hs ?_ ?_<;>intro hs h
     rotate_left
     ·refine sx [3,12,13,15] hs b4 ?_
      exact ⟨o,t,([]),Rl58,ef hs,ef hs,Owns.of_eq (a) Dk,h⟩
     refine sk [3,12,13,15,64,65,66] hs aj ?_
     clear aj
     refine AA (fun e st=>∃ (D:List ByteArray) (E:Ev.Own),Ck e st B Rw L [(3,true,.box lb0 0),(12,true,.box lb1 0),(13,true,Am (b.1:Int)),(15,true,.box (B.length+1) 0),(64,true,.list (b.2.map A7) .none),(65,true,Am (b.2.length:Int)),(66,true,Am q)] [[.list (b.2.map A7) .none],[.list (D.map BE) E]] [(1,D.length,E)] (FC n (CP n (BB n a1 ((OE a0).drop (i+1))) a1 b b1_r50 ml58) q D=some r)) ?_ ?_
     ·intro K64 am
      apply Ar
      obtain ⟨O,bq,h⟩:=bind_some h
      obtain ⟨ct,c7,bc⟩:=AY bq
      have bi:=AO (f:=A7) bc
      have hs:=Ae bi hs
      refine rg [3,12,13,15,17,64,65,66] hs ?_
      obtain ⟨V,b6,h⟩:=bind_some h
      refine rc 2 [3,12,13,15,17,18,64,65,66] hs ?_;intro K67 av
      refine Ax _ (F7 w0 hE hM hP n _ _ _ O.1 _ b6) (hv hs) ?_
      refine ne hs av ?_
      clear av
      obtain ⟨dq,b1,h⟩:=bind_some h
      refine rc 2 [3,12,13,15,17,64,65,66,78] hs ?_;intro K69 ak
      refine Ax _ (E9 w0 n _ _ _ b1_r50 97 [.box (B.length+3) 0] (fun (x0:List Part)=>FK n x0 V.1) (fun x0 r hx B' rows' da dv=>by exact Uh w0 n _ _ _ x0 _ V.1 (D7 da (ef hs)) _ hx) _ b1) (hv hs) ?_
      refine ne hs ak ?_
      clear ak
      refine BL h hs ?_ ?_<;>intro hs h
      ·obtain ⟨bg,cb,h⟩:=bind_some h
       obtain ⟨aq,h⟩:=Au h
       obtain ⟨c8,Z,a,F⟩:=a.append (P:=Tryz.prog) M7 (by rw [JV];rfl) (by decide) bg.length aq.1 aq.2
       replace F:=fun (ys:List AV) B L o2=>F (o.map BE) ys B L o2 Dk
       replace F:=fun B L o2=>F (bg.map BE) B L o2 Dk ev
       try simp only [List.mem_singleton,List.mem_cons,List.not_mem_nil,or_false,forall_eq_or_imp,forall_eq,List.map_append,List.map_cons,List.map_nil,Fb,Ft,Fp,Ec,Ed,Fj,CG,Dp,Fq,BX,BW,Du,Dv,Dq,E8,Dt,Fa] at F
       have hs:=Ae F hs
       refine dk 4 2 1 [3,12,13,15,64,65,66] hs QQ ?_
       refine Ax _ (MX w0 hE hM hP hT n _ _ _ O.2 _ cb) (hv hs) ?_
       refine dn hs am ?_
       exact ⟨(o++bg),c8,([.val (.string O.1)::(O.2.cs),[.list (V.1.map AD) .none]]),Z,ef hs,ef hs,Owns.of_eq (a) Dk,h⟩
      refine sk [3,12,13,15,64,65,66] hs am ?_
      exact ⟨o,t,([.val (.string O.1)::(O.2.cs),[.list (V.1.map AD) .none]]),Rl58,ef hs,ef hs,Owns.of_eq (a) Dk,h⟩
     ·clear h;rintro e st ⟨D,E,Xk63,Rk63,rfl,rfl,a,h⟩
      rw [FC] at h
      have hU:=a.unders
      simp only [List.mem_cons,List.not_mem_nil,or_false,forall_eq_or_imp,forall_eq] at hU
      refine td hN hNR hNL hcalm a ?_
      obtain ⟨dh,h⟩:=Au h
      refine rl [3,12,13,15,64,65,66] hs (fun e s=>Vl58 ml58 e s (Nat.lt_succ_self _)) ?_
      exact ⟨(q+1),D,E,([]),Rk63,ef hs,ef hs,Owns.of_eq (a) Dk,h⟩
    ·clear h;rintro e st ⟨y,H,Xk55,Rk55,rfl,rfl,a,h⟩
     rw [FT] at h
     have hU:=a.unders
     simp only [List.mem_cons,List.not_mem_nil,or_false,forall_eq_or_imp,forall_eq] at hU
     refine td hN hNR hNL hcalm a ?_
     obtain ⟨db,c5,cp,J,h⟩:=ix Dj h
     have N:(a1.map Dj).getD (b.1) .junk=_:=J
     obtain ⟨dt,bn,h⟩:=bind_some h
     obtain ⟨b7,h⟩:=Au h
     refine HE (B.length+1) 0 (by first | rfl | (simp only [E3,Dx,Eu,C7];rfl)) rfl rfl ?_;simp +decide only [go_sem,Nat.reduceAdd,List.set_cons_zero,List.set_cons_succ]
     obtain ⟨c1,bu,h⟩:=bind_some h
     refine Ns 0 (by decide) ?_
     apply Ap 3 [3,12]
     rw [Ao];simp +decide only [go_sem,Nat.reduceAdd,G,c,d,As hlb0,As hlb1,As hlb2,A6 hlb0 hne1_0,A6 hlb2 hne1_2,J,N]
     have hs:=Ae J hs
     have hs:=Ae N hs
     (repeat' apply Ae)<;>first | (refine DL _ (Ou w0 hT n _ _ _ db _ bn) (hv hs) ?_;rintro _ _ ⟨du,Rv82,rfl,rfl,af⟩) | exact cl
     have a:=a.callV af
     obtain ⟨c3,ch,a,a4⟩:=Zi7 w0 a bu b7
     rw [Ao];simp +decide only [go_sem,Nat.reduceAdd,G,c,d,As hlb0,As hlb1,As hlb2,A6 hlb0 hne1_0,A6 hlb2 hne1_2,J,N]
     (repeat' apply Ae)<;>first | (refine LD [false,true] _ (a4 _ _ 100 [.box (B.length+1) 0] (fun x0 r hx R'=>by exact TY w0 hB hE hM hP n _ _ _ x0 _ y (ef hs) _ hx)) (hv hs) ?_;rintro _ _ ⟨rfl,rfl⟩) | exact cl
     rw [Ao];simp +decide only [go_sem,Nat.reduceAdd,G,c,d,As hlb0,As hlb1,As hlb2,A6 hlb0 hne1_0,A6 hlb2 hne1_2,J,N]
     (repeat' apply Ae)<;>first | refine hend c1 c3 _ _ _ (Owns.eqV (a.sub (List.nil_sublist _)) Ze) h | exact cl
   ·rintro s la ⟨XB,XR,XL⟩ hXR ⟨b1_r50,p,Rr50,rfl,a,h⟩ _ _
    simp only at hXR
    subst hXR
    rw [List.drop_eq_nil_of_le (by rw [P7];exact Nat.le_refl _),BB] at h
    simp only [St.ext,St.push,List.append_assoc,List.append_nil]
    (repeat' apply Ae)<;>first | refine ax _ _ ?_ | exact cl
    clear ax
    have cz:=a.underV
    simp only [List.mem_cons,List.not_mem_nil,or_false,forall_eq_or_imp,forall_eq] at cz
    refine Su (bs:=[[.list (a1.map Dj) .none],[Ks p b1_r50.length],[.list (a0.map HT) .none]]) hN hNR hNL rfl hcalm a ow ow ?_ (vu @RD)
    refine TJ (B.length+1) 0 (by first | rfl | (simp only [E3,Dx];rfl) | (simp +decide only [go_sem,Nat.reduceAdd];done)) (by first | rfl | (simp only [PS,List.length_set];rfl) | (simp only [List.length_append,List.length_cons,List.length_nil,Nat.zero_add];rfl)) a false (.inr rfl) (by decide) ((Gt (f:=(CJ AD)) (sz:=1) (fun _=>by simp +decide only [go_sem]) _)) (QR (f:=(CJ AD)) (fun _=>rfl) _) (fun Y a=>?_)
    simp +decide only [go_sem,Nat.reduceAdd,List.set_cons_zero,List.set_cons_succ]
    refine rg [3,12,20] hs ?_
    refine AA (fun e st=>∃ (pm_k91:List ByteArray) (Xk91:Aq) (Rk91:Aw),e=[(3,true,.box B.length 0),(20,true,.box (B.length+3) 0)]∧st=⟨B++([[.list (a1.map Dj) .none],[.list (b1_r50.map (CJ AD)) .none],[.list (a0.map HT) .none],[.mp L.length]]++Xk91),Rk91,(L++[RS pm_k91])⟩∧Owns Rw Rk91 []∧FP n a1 pm_k91=some r) ?_ ?_
    ·intro K92 bz
     obtain ⟨bd,b0,h⟩:=bind_some h
     refine rc 2 [3,20,94,95,96] hs ?_;intro K93 ar
     refine Ax _ (WR w0 hP n _ _ _ b1_r50 _ b0) (hv hs) ?_
     refine ne hs ar ?_
     clear ar
     apply Ar
     refine Az (fun m e st=>∃ (v:Int) (C:List ByteArray) (Xl95:Aq) (Rl95:Aw),e=[(3,true,.box B.length 0),(20,true,.box (B.length+3) 0),(94,true,.list (bd.map BE) .none),(95,true,Am (bd.length:Int)),(96,true,Am v)]∧st=⟨B++([[.list (a1.map Dj) .none],[.list (b1_r50.map (CJ AD)) .none],[.list (a0.map HT) .none],[.mp L.length]]++Xl95),Rl95,(L++[RS C])⟩∧Owns Rw Rl95 []∧CU n a1 bd m v C=some r) n ⟨0,([]),([]),Y,ef hs,ef hs,a,h⟩ ?_
     rintro ml95 e st ⟨v,C,Xl95,Rl95,rfl,rfl,a,h⟩ Ul95 Vl95
     cases ml95 with
     | zero=>cases h
     | succ ml95 =>
     rw [CU] at h
     refine Xp hN hNR hNL rfl hcalm a ow ow ?_
     refine rg [3,20,94,95,96,97] hs ?_
     apply An;intro K97 ay
     refine BL h hs ?_ ?_<;>intro hs h
     rotate_left
     ·refine sx [3,20] hs bz ?_
      exact ⟨C,([]),Rl95,ef hs,ef hs,a,h⟩
     refine sk [3,20,94,95,96] hs ay ?_
     clear ay
     apply An;intro K99 ai
     apply Ar
     obtain ⟨b5,a3,h⟩:=bind_some h
     obtain ⟨cj,ck,ae⟩:=AY a3
     have aa:=AO (f:=BE) ae
     have hs:=Ae aa hs
     refine rg [3,20,22,94,95,96] hs ?_
     refine rl [3,20,94,95,96] hs ai ?_
     clear ai
     obtain ⟨cx,h⟩:=Au h
     refine rl [3,20,94,95,96] hs (fun e s=>Vl95 ml95 e s (Nat.lt_succ_self _)) ?_
     exact ⟨(v+1),(WB C b5),([]),Rl95,ef hs,ef hs,a,h⟩
    ·clear h;rintro e st ⟨pm_k91,Xk91,Rk91,rfl,rfl,a,h⟩
     rw [FP] at h
     refine Xp hN hNR hNL rfl hcalm a ow ow ?_
     apply An;intro K103 U
     obtain ⟨bm,cd,cg,g,h⟩:=ix Dj h
     have j:(a1.map Dj).getD 0 .junk=_:=g
     obtain ⟨ca,be,h⟩:=bind_some h
     obtain ⟨dd,ba,h⟩:=bind_some h
     obtain ⟨bf,h⟩:=Au h
     obtain ⟨dc,a6,h⟩:=bind_some h
     refine Ns 0 (by decide) ?_
     apply Ap 4 [4,5]
     rw [Ao];simp +decide only [go_sem,Nat.reduceAdd,G,c,d,g,j]
     have hs:=Ae g hs
     have hs:=Ae j hs
     (repeat' apply Ae)<;>first | refine Ax _ (OM w0 hT n _ _ _ bm _ be) (hv hs) ?_ | exact cl
     rw [Ao];simp +decide only [go_sem,Nat.reduceAdd,G,c,d,g,j]
     (repeat' apply Ae)<;>first | (refine DL _ (Vq w0 hP n _ _ _ ca _ ba) (hv hs) ?_;rintro _ _ ⟨di,Rv109,rfl,rfl,Q⟩) | exact cl
     have a:=a.callV Q
     obtain ⟨df,b8,a,ab⟩:=Zjc w0 a a6 bf
     rw [Ao];simp +decide only [go_sem,Nat.reduceAdd,G,c,d,g,j]
     (repeat' apply Ae)<;>first | (refine LD [false,true] _ (ab _ _ 103 [.box (B.length+3) 0] (fun x0 r hx R'=>by cases hx;exact SV w0 _ _ _ x0 _ _ pm_k91 (ef hs) (fun _ _=>ZbP _ _ _ _))) (hv hs) ?_;rintro _ _ ⟨rfl,rfl⟩) | exact cl
     rw [Ao];simp +decide only [go_sem,Nat.reduceAdd,G,c,d,g,j]
     (repeat' apply Ae)<;>first | refine U _ _ ?_ | exact cl
     clear U
     refine Yz 4 (by first | rfl | (simp only [PS,List.length_set];rfl)) a false (.inr rfl) (by decide) ((Gt (f:=BE) (sz:=1) (fun _=>by simp +decide only [go_sem]) _)) (QR (f:=BE) (fun _=>rfl) _) (fun cc a=>?_)
     simp +decide only [go_sem,Nat.reduceAdd,List.set_cons_zero,List.set_cons_succ]
     apply AM;simp +decide only [go_sem,Nat.reduceAdd,G,c,d,g,j]
     have hgt:=Option.some.inj h;subst hgt
     refine ZiI hcalm rfl a.pre ev ⟨?_,rfl⟩
     first | rfl | (simp +decide only [go_sem,Nat.reduceAdd,G,c,d,g,j];done) | (simp +decide only [go_sem,Nat.reduceAdd,Vl.cs,Ty.cs,G,c,d,g,j];done)
   ·rintro ex s la X hX h;exact h.elim
def Iy (n:Nat) (g:List Part):Option ByteArray :=
 (Hi n g).bind fun b =>
 some (b.1)
theorem TS (w0:World) (hP:Pow10 w0) (n:Nat) (B:Aq) (Rw:Aw) (L:Av) (a0:List Part) (r:ByteArray) (h:Iy n a0=some r) :
  ACalls Tryz.prog w0 70 [.list (a0.map AD) .none] ⟨B,Rw,L⟩ fun x st=>x = .val (.string r)∧st=⟨B,Rw,L⟩:=by
 rw [Iy] at h
 refine hd [.tmp 2] Tryz.func70 Tryz.ntmps70 fun M0 W0 f d c b g e hs=>?_
 simp only [AB]
 exact go (tg (a:=([0],[3],[2],()))) h hs f d c b e (q1 (Nx w0 hP n)) trivial
def J2 (n:Nat) (g:Ty):Option Int :=
 (IK n g).bind fun b =>
 if !(decide (b=0)) then
  some (b)
 else
  if !(decide (g.kind=9)) then
   some (11)
  else
   some (0)
theorem YL (w0:World) (hT:Lib.Utf8Tabs 2 3 w0) (n:Nat) (B:Aq) (Rw:Aw) (L:Av) (a0:Ty) (r:Int) (h:J2 n a0=some r) :
  ACalls Tryz.prog w0 65 [.agg (a0.cs)] ⟨B,Rw,L⟩ fun x st=>x=Am r∧st=⟨B,Rw,L⟩:=by
 rw [J2] at h
 refine hd [.tmp 2] Tryz.func65 Tryz.ntmps65 fun M0 W0 f d c b g e hs=>?_
 simp only [AB]
 exact go (tg (a:=([1],[1,3],[1,3,7],([2],()),[1],[11],([2],()),[],[2],()))) h hs f d c b e (q1 (Ql w0 hT n)) trivial
def GF (n:Nat) (g:(List ByteArray)→Int→Option ((List ByteArray) × Int)) (b:Int) (h:List ByteArray):Option ((List ByteArray) × Int) :=
 if A9 (b+1) then
  g h (b+1)
 else none
def FN (n:Nat) (g:(List (List Part))→(List ByteArray)→Int→Option ((List ByteArray) × Int)) (b:Int) (h:List (List Part)) (q:List ByteArray):Option ((List ByteArray) × Int) :=
 if A9 (b+1) then
  g h q (b+1)
 else none
def H6 (n:Nat) (g:(List (List Part))→Int→Option ((List ByteArray) × Int)) (b:Int) (h:List (List Part)):Option ((List ByteArray) × Int) :=
 if A9 (b-1) then
  g h (b-1)
 else none
def FH (n:Nat) (g:(List ByteArray)→Int→Option ((List ByteArray) × Int)) (b:Int) (h:List ByteArray):Option ((List ByteArray) × Int) :=
 if A9 (b+1) then
  g h (b+1)
 else none
def I5 (n:Nat)  (b:List ByteArray):Option ((List ByteArray) × Int) :=
 some ((b,0))
def H7 (n:Nat) (g:(List ByteArray)→Int→Option ((List ByteArray) × Int)) (h:Int) (z:ByteArray × Ex) (b:List ByteArray) (q:Bool):Option ((List ByteArray) × Int) :=
 if q then
  (F4 n z.2).bind fun y =>
  if (b.length+y.length)*16≤140737488355328∧b.length+y.length≤4611686018427387904 then
   GF n g h (b++y)
  else none
 else
  GF n g h b
def B8 (n:Nat) (h:(List (List Part))→Int→Option ((List ByteArray) × Int)) (y:Int) (z:(List (List Part))):Nat→(List (List Part))→(List ByteArray)→Int→Option ((List ByteArray) × Int)
 | 0,_,_,_=>none
 | m+1,b,q,g =>
  if decide (g<(z.length:Int)) then
   (BJ z g).bind fun x108 =>
   (H2 n q ([Part.mk 1 0 ((⟨#[98,111,100,121]⟩:ByteArray))]) x108).bind fun y110 =>
   if y110 then
    if (b.length+1)*24≤140737488355328∧b.length+1≤4611686018427387904 then
     FN n (B8 n h y z m) g (b++([x108])) q
    else none
   else
    FN n (B8 n h y z m) g b q
  else
   H6 n h y b
def Ha (n:Nat) (g:(List ByteArray)→Int→Option ((List ByteArray) × Int)) (h:Int) (y:List Part) (b:List ByteArray) (q:Bool):Option ((List ByteArray) × Int) :=
 if !q then
  (Iy n y).bind fun z =>
  if (b.length+1)*16≤140737488355328∧b.length+1≤4611686018427387904 then
   FH n g h (b++([z]))
  else none
 else
  FH n g h b
def Dl (n:Nat) (g:(List ByteArray)→Int→Option ((List ByteArray) × Int)) (h:List (List Part)) (q:Int) (x69:ByteArray × Ex) (y71:((List Part) × Int)):Nat→(List ByteArray)→Bool→Int→Option ((List ByteArray) × Int)
 | 0,_,_,_=>none
 | m+1,y,z,b =>
  if decide (b<(h.length:Int)) then
   (BJ h b).bind fun x83 =>
   if z then
    if A9 (b+1) then
     (Dl n g h q x69 y71 m) y true (b+1)
    else none
   else
    (Kr n y71.1 x83).bind fun y86 =>
    if A9 (b+1) then
     (Dl n g h q x69 y71 m) y y86 (b+1)
    else none
  else
   H7 n g q x69 y z
def GH (n:Nat) (g:(List (List Part))→Int→Option ((List ByteArray) × Int)) (z:List Ty) (b:Int) (h:List ByteArray):Option ((List ByteArray) × Int) :=
 (BJ z b).bind fun y =>
 (D6 n y).bind fun q =>
 B8 n g b q n ([]) h 0
def DK (n:Nat) (g:(List ByteArray)→Int→Option ((List ByteArray) × Int)) (q:List (List Part)) (h:Int) (x133:List Part):Nat→(List ByteArray)→Bool→Int→Option ((List ByteArray) × Int)
 | 0,_,_,_=>none
 | m+1,y,z,b =>
  if decide (b<(q.length:Int)) then
   (BJ q b).bind fun x145 =>
   if z then
    if A9 (b+1) then
     (DK n g q h x133 m) y true (b+1)
    else none
   else
    (Iy n x145).bind fun y148 =>
    (Iy n x133).bind fun y149 =>
    if A9 (b+1) then
     (DK n g q h x133 m) y (Fv y148 y149) (b+1)
    else none
  else
   Ha n g h x133 y z
def BQ (n:Nat) (b:(List (List Part))→Int→Option ((List ByteArray) × Int)) (a1:List Ty) (h:List (List Part)) (q:Int) (z:List (ByteArray × Ex)):Nat→(List ByteArray)→Int→Option ((List ByteArray) × Int)
 | 0,_,_=>none
 | m+1,y,g =>
  if decide (g<(z.length:Int)) then
   (BJ z g).bind fun x69 =>
   (Df n x69.1).bind fun y71 =>
   Dl n (BQ n b a1 h q z m) h g x69 y71 n y false 0
  else
   GH n b a1 q y
def BC (n:Nat) (h:List (List Part)) (q:(List (List Part))):Nat→(List ByteArray)→Int→Option ((List ByteArray) × Int)
 | 0,_,_=>none
 | m+1,g,b =>
  if decide (b<(q.length:Int)) then
   (BJ q b).bind fun y =>
   DK n (BC n h q m) h b y n g false 0
  else
   I5 n g
def H4 (n:Nat) (q:List Ty) (b:List (List Part)):Option ((List ByteArray) × Int) :=
 (BJ q 0).bind fun h =>
 (D6 n h).bind fun g =>
 BC n b g n ([]) 0
def Bd (n:Nat) (y:List (List (ByteArray × Ex))) (q:List Ty):Nat→(List (List Part))→Int→Option ((List ByteArray) × Int)
 | 0,_,_=>none
 | m+1,g,b =>
  if decide (0≤b) then
   (BJ y b).bind fun h =>
   BQ n (Bd n y q m) q g b h n ([]) 0
  else
   H4 n q g
def HU (n:Nat) (b:List (List (ByteArray × Ex))) (q:List Ty):Option ((List ByteArray) × Int) :=
 (BJ q (b.length:Int)).bind fun g =>
 (D6 n g).bind fun h =>
 if A9 ((b.length:Int)-1) then
  Bd n b q n h ((b.length:Int)-1)
 else none
def Fo (n:Nat) (h:List (List (ByteArray × Ex))) (y:List Ty):Nat→Int→Option ((List ByteArray) × Int)
 | 0,_=>none
 | m+1,b =>
  if decide (b<(h.length:Int)) then
   (BJ h b).bind fun q =>
   (CS n q).bind fun g =>
   if !(decide (g=0)) then
    some (([],g))
   else
    if A9 (b+1) then
     (Fo n h y m) (b+1)
    else none
  else
   HU n h y 
def IZ (n:Nat) (g:List (List (ByteArray × Ex))) (b:List Ty):Option ((List ByteArray) × Int) :=
 Fo n g b n 0
def Fh (n:Nat) (y:List (List (ByteArray × Ex))) (h:List Ty):Nat→Int→Option ((List ByteArray) × Int)
 | 0,_=>none
 | m+1,b =>
  if decide (b<(h.length:Int)) then
   (BJ h b).bind fun q =>
   (J2 n q).bind fun g =>
   if !(decide (g=0)) then
    some (([],g))
   else
    if A9 (b+1) then
     (Fh n y h m) (b+1)
    else none
  else
   IZ n y h 
def J4 (n:Nat) (b:List (List (ByteArray × Ex))) (g:List Ty):Option ((List ByteArray) × Int) :=
 if A9 ((b.length:Int)+1) then
  if !(decide ((g.length:Int)=((b.length:Int)+1))) then
   some (([],5))
  else
   Fh n b g n 0
 else none
theorem Yj (w0:World) (hE:JF w0) (hM:Jz w0) (hP:Pow10 w0) (hT:Lib.Utf8Tabs 2 3 w0) (n:Nat) (B:Aq) (Rw:Aw) (L:Av) (a0:List (List (ByteArray × Ex))) (a1:List Ty) (r:(List ByteArray) × Int) (h:J4 n a0 a1=some r) :
  ACalls Tryz.prog w0 36 [.list (a0.map HT) .none,.list (a1.map Dj) .none] ⟨B,Rw,L⟩ fun x st=>x = .tup [.list (r.1.map BE) .none,Am r.2]∧st=⟨B,Rw,L⟩:=by
 unfold J4 at h
 refine hd [.tmp 4,.tmp 5] Tryz.func36 Tryz.ntmps36 fun M0 W0 hN u v c hu j hs=>?_
 simp only [AB]
 refine rg [0,1] hs ?_
 apply An;intro K2 cy
 obtain ⟨d6,h⟩:=Au h
 refine rg [0,1,34] hs ?_
 refine BL h hs ?_ ?_<;>intro hs h
 ·refine rg [4,5] hs ?_
  exact rt h hs c j
 refine sk [0,1] hs cy ?_
 clear cy
 refine AA (fun e st=>Ck e st B Rw L [(0,true,.list (a0.map HT) .none),(1,true,.list (a1.map Dj) .none)] [] [] (IZ n a0 a1  = some r)) ?_ ?_
 ·intro K9 dh
  refine rg [0,1,6] hs ?_
  apply Ar
  refine Az (fun m e st=>∃ (a3:Int),Ck e st B Rw L [(0,true,.list (a0.map HT) .none),(1,true,.list (a1.map Dj) .none),(6,true,Am a3)] [] [] (Fh n a0 a1 m a3=some r)) n ⟨0,([]),Rw,ef hs,ef hs,j,h⟩ ?_
  rintro ml11 e st ⟨a3,Xl11,Rl11,rfl,rfl,j,h⟩ Ul11 Vl11
  cases ml11 with
  | zero=>cases h
  | succ ml11 =>
  rw [Fh] at h
  exact go (tg (a:=([0,1,6,38],([0,1,6],[0,1,6,7],[0,1,6,7,47],([4,5],()),[0,1,6],[0,1,6],()),[0,1],()))) h hs hN u v c j (q1 (YL w0 hT n)) (q2 dh (fun e s=>Vl11 ml11 e s (Nat.lt_succ_self _)))
 ·clear h;rintro e st ⟨Xk8,Rk8,rfl,rfl,j,h⟩
  rw [IZ] at h
  refine td hN u v c j ?_
  refine AA (fun e st=>Ck e st B Rw L [(0,true,.list (a0.map HT) .none),(1,true,.list (a1.map Dj) .none)] [] [] (HU n a0 a1  = some r)) ?_ ?_
  ·intro K25 ch
   refine rg [0,1,8] hs ?_
   apply Ar
   refine Az (fun m e st=>∃ (a4:Int),Ck e st B Rw L [(0,true,.list (a0.map HT) .none),(1,true,.list (a1.map Dj) .none),(8,true,Am a4)] [] [] (Fo n a0 a1 m a4=some r)) n ⟨0,([]),Rk8,ef hs,ef hs,j,h⟩ ?_
   rintro ml27 e st ⟨a4,Xl27,Rl27,rfl,rfl,j,h⟩ Ul27 Vl27
   cases ml27 with
   | zero=>cases h
   | succ ml27 =>
   rw [Fo] at h
   refine td hN u v c j ?_
   apply An;intro K28 bv
   refine rg [0,1,8,52] hs ?_
   refine BL h hs ?_ ?_<;>intro hs h
   rotate_left
   ·refine sx [0,1] hs ch ?_
    exact ⟨([]),Rl27,ef hs,ef hs,j,h⟩
   refine sk [0,1,8] hs bv ?_
   clear bv
   apply An;intro K31 cn
   apply Ar
   obtain ⟨ds,cg,h⟩:=bind_some h
   obtain ⟨dz,dc,cb⟩:=AY cg
   have b0:=AO (f:=HT) cb
   obtain ⟨d5,co,h⟩:=bind_some h
   have hs:=Ae b0 hs
   refine rc 2 [0,1,8,9] hs ?_;intro K32 ct
   refine Ax _ (Gw w0 hE hM hP n _ _ _ ds _ co) (hv hs) ?_
   exact go (tg (a:=([0,1,8,9,61],([4,5],()),[0,1,8],[0,1,8],()))) h hs hN u v c j trivial (q3 ct cn (fun e s=>Vl27 ml27 e s (Nat.lt_succ_self _)))
  ·clear h;rintro e st ⟨Xk24,Rk24,rfl,rfl,j,h⟩
   rw [HU] at h
   refine td hN u v c j ?_
   obtain ⟨d0,c1,h⟩:=bind_some h
   obtain ⟨dm,dp,b6⟩:=AY c1
   have ba:=AO (f:=Dj) b6
   have bz:(a1.map Dj).getD (a0.length) .junk=_:=ba
   obtain ⟨de,c3,h⟩:=bind_some h
   have hs:=Ae ba hs
   have hs:=Ae bz hs
   refine rc 2 [0,1,10] hs ?_;intro K39 bu
   refine Ax _ (Kw w0 hT n _ _ _ d0 _ c3) (hv hs) ?_
   refine ne hs bu ?_
   clear bu
   refine rg [0,1,10,11] hs ?_
   refine AA (fun e st=>∃ (g:List (List Part)) (aw:AV),Ck e st B Rw L [(1,true,.list (a1.map Dj) .none),(10,true,aw)] [] [] (aw.pub = .list (g.map (CJ AD)) .none∧H4 n a1 g=some r)) ?_ ?_
   ·intro K45 c2
    obtain ⟨d2,h⟩:=Au h
    refine rg [0,1,10,11,12] hs ?_
    apply Ar
    refine Az (fun m e st=>∃ (d:List (List Part)) (b:Int) (ar:AV),Ck e st B Rw L [(0,true,.list (a0.map HT) .none),(1,true,.list (a1.map Dj) .none),(10,true,ar),(11,true,.list (([Part.mk 1 0 ((⟨#[98,111,100,121]⟩:ByteArray))]).map AD) .full),(12,true,Am b)] [] [] (ar.pub = .list (d.map (CJ AD)) .none∧Bd n a0 a1 m d b=some r)) n ⟨de,((a0.length:Int)-1),_,([]),Rk24,ef hs,ef hs,j,ef hs,h⟩ ?_
    rintro ml48 e st ⟨d,b,ar,Xl48,Rl48,rfl,rfl,j,b2,h⟩ Ul48 Vl48
    cases ml48 with
    | zero=>cases h
    | succ ml48 =>
    rw [Bd] at h
    refine X1 10 rfl ?_
    rw [b2]
    refine Lh (Ea [0,1,10,11,12] _) ?_ (DV _ _);simp +decide only [go_sem,Nat.reduceAdd]
    show Eb _ _ _ _ _ _ _ _ [(0,true,.list (a0.map HT) .none),(1,true,.list (a1.map Dj) .none),(10,true,.list (d.map (CJ AD)) .none),(11,true,.list (([Part.mk 1 0 ((⟨#[98,111,100,121]⟩:ByteArray))]).map AD) .full),(12,true,Am b)] ⟨B++([]++Xl48),Rl48,L⟩
    refine td hN u v c j ?_
    apply An;intro K49 bt
    refine rg [0,1,10,11,12,75] hs ?_
    refine BL h hs ?_ ?_<;>intro hs h
    rotate_left
    ·refine sx [1,10] hs c2 ?_
     exact ⟨d,_,([]),Rl48,ef hs,ef hs,j,ef hs,h⟩
    refine sk [0,1,10,11,12] hs bt ?_
    clear bt
    refine AA (fun e st=>∃ (D:List (List Part)) (Y:Ev.Own),Ck e st B Rw L [(0,true,.list (a0.map HT) .none),(1,true,.list (a1.map Dj) .none),(10,true,.list (D.map (CJ AD)) Y),(11,true,.list (([Part.mk 1 0 ((⟨#[98,111,100,121]⟩:ByteArray))]).map AD) .full),(12,true,Am b)] [] [(1,D.length,Y)] (H6 n (Bd n a0 a1 ml48) b D=some r)) ?_ ?_
    ·intro K54 c4
     apply Ar
     refine rg [0,1,10,11,12,13] hs ?_
     refine AA (fun e st=>∃ (K:List ByteArray) (ab:Ev.Own),Ck e st B Rw L [(0,true,.list (a0.map HT) .none),(1,true,.list (a1.map Dj) .none),(11,true,.list (([Part.mk 1 0 ((⟨#[98,111,100,121]⟩:ByteArray))]).map AD) .full),(12,true,Am b),(13,true,.list (K.map BE) ab)] [] [(1,K.length,ab)] (GH n (Bd n a0 a1 ml48) a1 b K=some r)) ?_ ?_
     ·intro K58 ck
      obtain ⟨ax,cp,h⟩:=bind_some h
      obtain ⟨df,dy,cd⟩:=AY cp
      have b8:=AO (f:=HT) cd
      have hs:=Ae b8 hs
      refine rg [0,1,10,11,12,13,82,83,84] hs ?_
      apply Ar
      refine Az (fun m e st=>∃ (J:List ByteArray) (o:Int) (Q:Ev.Own),Ck e st B Rw L [(0,true,.list (a0.map HT) .none),(1,true,.list (a1.map Dj) .none),(10,true,.list (d.map (CJ AD)) .none),(11,true,.list (([Part.mk 1 0 ((⟨#[98,111,100,121]⟩:ByteArray))]).map AD) .full),(12,true,Am b),(13,true,.list (J.map BE) Q),(82,true,.list (ax.map A7) .none),(83,true,Am (ax.length:Int)),(84,true,Am o)] [] [(1,J.length,Q)] (BQ n (Bd n a0 a1 ml48) a1 d b ax m J o=some r)) n ⟨([]),0,.full,([]),Rl48,ef hs,ef hs,Owns.of_eq ((j).full 1 0) Dk,h⟩ ?_
      rintro ml61 e st ⟨J,o,Q,Xl61,Rl61,rfl,rfl,j,h⟩ Ul61 Vl61
      cases ml61 with
      | zero=>cases h
      | succ ml61 =>
      rw [BQ] at h
      have hU:=j.unders
      simp only [List.mem_cons,List.not_mem_nil,or_false,forall_eq_or_imp,forall_eq] at hU
      refine td hN u v c j ?_
      refine rg [0,1,10,11,12,13,82,83,84,85] hs ?_
      apply An;intro K63 bs
      refine BL h hs ?_ ?_<;>intro hs h
      rotate_left
      ·exact go (tg (a:=([0,1,11,12,13],()))) h hs hN u v c j trivial (q1 ck)
      refine sk [0,1,10,11,12,13,82,83,84] hs bs ?_
      clear bs
      refine AA (fun e st=>∃ (aj:List ByteArray) (am:Ev.Own),Ck e st B Rw L [(0,true,.list (a0.map HT) .none),(1,true,.list (a1.map Dj) .none),(10,true,.list (d.map (CJ AD)) .none),(11,true,.list (([Part.mk 1 0 ((⟨#[98,111,100,121]⟩:ByteArray))]).map AD) .full),(12,true,Am b),(13,true,.list (aj.map BE) am),(82,true,.list (ax.map A7) .none),(83,true,Am (ax.length:Int)),(84,true,Am o)] [] [(1,aj.length,am)] (GF n (BQ n (Bd n a0 a1 ml48) a1 d b ax ml61) o aj=some r)) ?_ ?_
      ·intro K67 bn
       apply Ar
       obtain ⟨a5,ci,h⟩:=bind_some h
       obtain ⟨dq,dw,b3⟩:=AY ci
       have ce:=AO (f:=A7) b3
       have hs:=Ae ce hs
       refine rg [0,1,10,11,12,13,15,82,83,84] hs ?_
       obtain ⟨cq,cr,h⟩:=bind_some h
       refine rc 2 [0,1,10,11,12,13,15,16,82,83,84] hs ?_;intro K70 bp
       refine Ax _ (F7 w0 hE hM hP n _ _ _ a5.1 _ cr) (hv hs) ?_
       refine ne hs bp ?_
       clear bp
       refine rg [0,1,10,11,12,13,15,16,18,82,83,84] hs ?_
       refine AA (fun e st=>∃ (N:List ByteArray) (ay:Bool) (ao:Ev.Own),Ck e st B Rw L [(0,true,.list (a0.map HT) .none),(1,true,.list (a1.map Dj) .none),(10,true,.list (d.map (CJ AD)) .none),(11,true,.list (([Part.mk 1 0 ((⟨#[98,111,100,121]⟩:ByteArray))]).map AD) .full),(12,true,Am b),(13,true,.list (N.map BE) ao),(15,true,.box B.length 0),(18,true,.val (.bool ay)),(82,true,.list (ax.map A7) .none),(83,true,Am (ax.length:Int)),(84,true,Am o)] [.val (.string a5.1)::(a5.2.cs)] [(1,N.length,ao)] (H7 n (BQ n (Bd n a0 a1 ml48) a1 d b ax ml61) o a5 N ay=some r)) ?_ ?_
       ·intro K75 c0
        refine rg [0,1,10,11,12,13,15,16,18,82,83,84,94,95,96] hs ?_
        apply Ar
        refine Az (fun m e st=>∃ (ak:List ByteArray) (az:Bool) (a2:Int) (aq:Ev.Own),Ck e st B Rw L [(0,true,.list (a0.map HT) .none),(1,true,.list (a1.map Dj) .none),(10,true,.list (d.map (CJ AD)) .none),(11,true,.list (([Part.mk 1 0 ((⟨#[98,111,100,121]⟩:ByteArray))]).map AD) .full),(12,true,Am b),(13,true,.list (ak.map BE) aq),(15,true,.box B.length 0),(16,true,.list (cq.1.map AD) .none),(18,true,.val (.bool az)),(82,true,.list (ax.map A7) .none),(83,true,Am (ax.length:Int)),(84,true,Am o),(94,true,.list (d.map (CJ AD)) .none),(95,true,Am (d.length:Int)),(96,true,Am a2)] [.val (.string a5.1)::(a5.2.cs)] [(1,ak.length,aq)] (Dl n (BQ n (Bd n a0 a1 ml48) a1 d b ax ml61) d o a5 cq m ak az a2=some r)) n ⟨J,false,0,Q,([]),Rl61,ef hs,ef hs,Owns.of_eq (j) Dk,h⟩ ?_
        rintro ml77 e st ⟨ak,az,a2,aq,Xl77,Rl77,rfl,rfl,j,h⟩ Ul77 Vl77
        cases ml77 with
        | zero=>cases h
        | succ ml77 =>
        rw [Dl] at h
        exact go (tg (a:=([0,1,10,11,12,13,15,16,18,82,83,84,94,95,96,97],([0,1,10,11,12,13,15,16,18,82,83,84,94,95,96],[0,1,10,11,12,13,15,16,18,20,82,83,84,94,95,96],([0,1,10,11,12,13,15,16,18,82,83,84,94,95,96],[0,1,10,11,12,13,15,16,18,82,83,84,94,95,96],()),[0,1,10,11,12,13,15,16,18,82,83,84,94,95,96],[0,1,10,11,12,13,15,16,18,82,83,84,94,95,96],()),[0,1,10,11,12,13,15,18,82,83,84],()))) h hs hN u v c j (q1 (Rt w0 n)) (q2 c0 (fun e s=>Vl77 ml77 e s (Nat.lt_succ_self _)))
       ·clear h;rintro e st ⟨N,ay,ao,Xk74,Rk74,rfl,rfl,j,h⟩
        rw [H7] at h
        have hU:=j.unders
        simp only [List.mem_cons,List.not_mem_nil,or_false,forall_eq_or_imp,forall_eq] at hU
        refine td hN u v c j ?_
        refine rg [0,1,10,11,12,13,15,82,83,84,107] hs ?_
        refine BL h hs ?_ ?_<;>intro hs h
        ·obtain ⟨cv,cz,h⟩:=bind_some h
         obtain ⟨bq,h⟩:=Au h
         obtain ⟨d4,c5,j,au⟩:=j.append (P:=Tryz.prog) M7 (by rw [JV];rfl) (by decide) cv.length bq.1 bq.2
         replace au:=fun (ys:List AV) B L o2=>au (N.map BE) ys B L o2 Dk
         replace au:=fun B L o2=>au (cv.map BE) B L o2 Dk ev
         try simp only [List.mem_singleton,List.mem_cons,List.not_mem_nil,or_false,forall_eq_or_imp,forall_eq,List.map_append,List.map_cons,List.map_nil,Fb,Ft,Fp,Ec,Ed,Fj,CG,Dp,Fq,BX,BW,Du,Dv,Dq,E8,Dt,Fa] at au
         have hs:=Ae au hs
         refine rk 2 [0,1,10,11,12,13,82,83,84] hs ?_
         refine Ax _ (MX w0 hE hM hP hT n _ _ _ a5.2 _ cz) (hv hs) ?_
         exact go (tg (a:=((),()))) h hs hN u v c j trivial (q1 bn)
        exact go (tg (a:=([0,1,10,11,12,13,82,83,84],()))) h hs hN u v c j trivial (q1 bn)
      ·clear h;rintro e st ⟨aj,am,Xk66,Rk66,rfl,rfl,j,h⟩
       rw [GF] at h
       exact go (tg (a:=([0,1,10,11,12,13,82,83,84],()))) h hs hN u v c j trivial (q1 (fun e s=>Vl61 ml61 e s (Nat.lt_succ_self _)))
     ·clear h;rintro e st ⟨K,ab,Xk57,Rk57,rfl,rfl,j,h⟩
      rw [GH] at h
      have hU:=j.unders
      simp only [List.mem_cons,List.not_mem_nil,or_false,forall_eq_or_imp,forall_eq] at hU
      refine td hN u v c j ?_
      refine rg [0,1,10,11,12,13] hs ?_
      obtain ⟨di,cj,h⟩:=bind_some h
      obtain ⟨dr,dd,b5⟩:=AY cj
      have bx:=AO (f:=Dj) b5
      obtain ⟨a8,cw,h⟩:=bind_some h
      have hs:=Ae bx hs
      refine rc 2 [0,1,10,11,12,13,118,119,120] hs ?_;intro K97 br
      refine Ax _ (Kw w0 hT n _ _ _ di _ cw) (hv hs) ?_
      refine ne hs br ?_
      clear br
      apply Ar
      refine Az (fun m e st=>∃ (k:List (List Part)) (l:List ByteArray) (t:Int) (p:Ev.Own) (q:Ev.Own),Ck e st B Rw L [(0,true,.list (a0.map HT) .none),(1,true,.list (a1.map Dj) .none),(10,true,.list (k.map (CJ AD)) p),(11,true,.list (([Part.mk 1 0 ((⟨#[98,111,100,121]⟩:ByteArray))]).map AD) .full),(12,true,Am b),(13,true,.list (l.map BE) q),(118,true,.list (a8.map (CJ AD)) .none),(119,true,Am (a8.length:Int)),(120,true,Am t)] [] [(1,k.length,p),(1,l.length,q)] (B8 n (Bd n a0 a1 ml48) b a8 m k l t=some r)) n ⟨([]),K,0,.full,ab,([]),Rk57,ef hs,ef hs,Owns.of_eq ((j).full 1 0) Dk,h⟩ ?_
      rintro ml100 e st ⟨k,l,t,p,q,Xl100,Rl100,rfl,rfl,j,h⟩ Ul100 Vl100
      cases ml100 with
      | zero=>cases h
      | succ ml100 =>
      rw [B8] at h
      have hU:=j.unders
      simp only [List.mem_cons,List.not_mem_nil,or_false,forall_eq_or_imp,forall_eq] at hU
      obtain ⟨dv,dt⟩:=hU
      refine td hN u v c j ?_
      refine rg [0,1,10,11,12,13,118,119,120,121] hs ?_
      apply An;intro K102 a9
      refine BL h hs ?_ ?_<;>intro hs h
      rotate_left
      ·refine sx [0,1,10,11,12] hs c4 ?_
       exact ⟨k,p,([]),Rl100,ef hs,ef hs,Owns.of_eq ((j).sub (List.sublist_append_left [(1,k.length,p)] [(1,l.length,q)])) Dk,h⟩
      refine sk [0,1,10,11,12,13,118,119,120] hs a9 ?_
      clear a9
      refine AA (fun e st=>∃ (z:List (List Part)) (C:List ByteArray) (G:Ev.Own) (F:Ev.Own),Ck e st B Rw L [(0,true,.list (a0.map HT) .none),(1,true,.list (a1.map Dj) .none),(10,true,.list (z.map (CJ AD)) G),(11,true,.list (([Part.mk 1 0 ((⟨#[98,111,100,121]⟩:ByteArray))]).map AD) .full),(12,true,Am b),(13,true,.list (C.map BE) F),(118,true,.list (a8.map (CJ AD)) .none),(119,true,Am (a8.length:Int)),(120,true,Am t)] [] [(1,z.length,G),(1,C.length,F)] (FN n (B8 n (Bd n a0 a1 ml48) b a8 ml100) t z C=some r)) ?_ ?_
      ·intro K106 bb
       apply Ar
       obtain ⟨bo,b1,h⟩:=bind_some h
       obtain ⟨c6,c8,bk⟩:=AY b1
       have bj:=AO (f:=(CJ AD)) bk
       have hs:=Ae bj hs
       refine rg [0,1,10,11,12,13,22,118,119,120] hs ?_
       obtain ⟨d3,b9,h⟩:=bind_some h
       refine rc 2 [0,1,10,11,12,13,22,118,119,120,127] hs ?_;intro K109 bc
       refine Ax _ (UK w0 hE hM hP n _ _ _ l ([Part.mk 1 0 ((⟨#[98,111,100,121]⟩:ByteArray))]) bo _ b9) (hv hs) ?_
       refine ne hs bc ?_
       clear bc
       refine BL h hs ?_ ?_<;>intro hs h
       ·obtain ⟨bg,h⟩:=Au h
        obtain ⟨cu,bf,j,O⟩:=j.append (P:=Tryz.prog) SA (by rw [LA];rfl) (by decide) 1 bg.1 bg.2
        replace O:=fun (ys:List AV) B L o2=>O (k.map (CJ AD)) ys B L o2 Dk
        replace O:=fun (y:AV) B L o2=>O [y] B L o2 Dk ev
        try simp only [List.mem_singleton,List.mem_cons,List.not_mem_nil,or_false,forall_eq_or_imp,forall_eq,List.map_append,List.map_cons,List.map_nil,Fb,Ft,Fp,Ec,Ed,Fj,CG,Dp,Fq,BX,BW,Du,Dv,Dq,E8,Dt,Fa] at O
        have hs:=Ae O hs
        refine rl [0,1,10,11,12,13,118,119,120] hs bb ?_
        exact ⟨(k++([bo])),l,cu,q,([]),bf,ef hs,ef hs,Owns.of_eq (((j).swap (List.Perm.swap _ _ _)).swap (List.Perm.swap _ _ _)) Dk,h⟩
       refine sk [0,1,10,11,12,13,118,119,120] hs bb ?_
       exact ⟨k,l,p,q,([]),Rl100,ef hs,ef hs,Owns.of_eq (((j).swap (List.Perm.swap _ _ _)).swap (List.Perm.swap _ _ _)) Dk,h⟩
      ·clear h;rintro e st ⟨z,C,G,F,Xk105,Rk105,rfl,rfl,j,h⟩
       rw [FN] at h
       have hU:=j.unders
       simp only [List.mem_cons,List.not_mem_nil,or_false,forall_eq_or_imp,forall_eq] at hU
       obtain ⟨dv,dt⟩:=hU
       refine td hN u v c j ?_
       obtain ⟨d1,h⟩:=Au h
       refine rl [0,1,10,11,12,13,118,119,120] hs (fun e s=>Vl100 ml100 e s (Nat.lt_succ_self _)) ?_
       exact ⟨z,C,(t+1),G,F,([]),Rk105,ef hs,ef hs,Owns.of_eq (((j).swap (List.Perm.swap _ _ _)).swap (List.Perm.swap _ _ _)) Dk,h⟩
    ·clear h;rintro e st ⟨D,Y,Xk53,Rk53,rfl,rfl,j,h⟩
     rw [H6] at h
     have hU:=j.unders
     simp only [List.mem_cons,List.not_mem_nil,or_false,forall_eq_or_imp,forall_eq] at hU
     refine td hN u v c j ?_
     obtain ⟨du,h⟩:=Au h
     refine rl [0,1,10,11,12] hs (fun e s=>Vl48 ml48 e s (Nat.lt_succ_self _)) ?_
     exact ⟨D,(b-1),_,([]),Rk53,ef hs,ef hs,(j).sub (List.sublist_append_left [] [(1,D.length,Y)]),ef hs,h⟩
   ·clear h;rintro e st ⟨g,aw,Xk44,Rk44,rfl,rfl,j,b2,h⟩
    rw [H4] at h
    refine X1 10 rfl ?_
    rw [b2]
    refine Lh (Ea [1,10] _) ?_ (DV _ _);simp +decide only [go_sem,Nat.reduceAdd]
    show Eb _ _ _ _ _ _ _ _ [(1,true,.list (a1.map Dj) .none),(10,true,.list (g.map (CJ AD)) .none)] ⟨B++([]++Xk44),Rk44,L⟩
    refine td hN u v c j ?_
    refine rg [1,10,23] hs ?_
    refine AA (fun e st=>∃ (Z:List ByteArray) (ai:Ev.Own),Ck e st B Rw L [(23,true,.list (Z.map BE) ai)] [] [(1,Z.length,ai)] (I5 n Z=some r)) ?_ ?_
    ·intro K121 b4
     obtain ⟨cx,cc,h⟩:=bind_some h
     obtain ⟨da,c7,bm⟩:=AY cc
     have a7:=AO (f:=Dj) bm
     have bi:(a1.map Dj).getD 0 .junk=_:=a7
     obtain ⟨H,cf,h⟩:=bind_some h
     have hs:=Ae a7 hs
     have hs:=Ae bi hs
     refine rc 2 [10,23,136,137,138] hs ?_;intro K122 bd
     refine Ax _ (Kw w0 hT n _ _ _ cx _ cf) (hv hs) ?_
     refine ne hs bd ?_
     clear bd
     apply Ar
     refine Az (fun m e st=>∃ (w:List ByteArray) (i:Int) (E:Ev.Own),Ck e st B Rw L [(10,true,.list (g.map (CJ AD)) .none),(23,true,.list (w.map BE) E),(136,true,.list (H.map (CJ AD)) .none),(137,true,Am (H.length:Int)),(138,true,Am i)] [] [(1,w.length,E)] (BC n g H m w i=some r)) n ⟨([]),0,.full,([]),Rk44,ef hs,ef hs,Owns.of_eq ((j).full 1 0) Dk,h⟩ ?_
     rintro ml125 e st ⟨w,i,E,Xl125,Rl125,rfl,rfl,j,h⟩ Ul125 Vl125
     cases ml125 with
     | zero=>cases h
     | succ ml125 =>
     rw [BC] at h
     have hU:=j.unders
     simp only [List.mem_cons,List.not_mem_nil,or_false,forall_eq_or_imp,forall_eq] at hU
     refine td hN u v c j ?_
     refine rg [10,23,136,137,138,139] hs ?_
     apply An;intro K127 be
     refine BL h hs ?_ ?_<;>intro hs h
     rotate_left
     ·exact go (tg (a:=([23],()))) h hs hN u v c j trivial (q1 b4)
     refine sk [10,23,136,137,138] hs be ?_
     clear be
     refine AA (fun e st=>∃ (aa:List ByteArray) (af:Ev.Own),Ck e st B Rw L [(10,true,.list (g.map (CJ AD)) .none),(23,true,.list (aa.map BE) af),(136,true,.list (H.map (CJ AD)) .none),(137,true,Am (H.length:Int)),(138,true,Am i)] [] [(1,aa.length,af)] (FH n (BC n g H ml125) i aa=some r)) ?_ ?_
     ·intro K131 ca
      apply Ar
      obtain ⟨a6,bw,h⟩:=bind_some h
      obtain ⟨c9,db,bl⟩:=AY bw
      have bh:=AO (f:=(CJ AD)) bl
      have hs:=Ae bh hs
      refine rg [10,23,25,136,137,138] hs ?_
      refine rg [10,23,25,26,136,137,138] hs ?_
      refine AA (fun e st=>∃ (V:List ByteArray) (ap:Bool) (ad:Ev.Own),Ck e st B Rw L [(10,true,.list (g.map (CJ AD)) .none),(23,true,.list (V.map BE) ad),(25,true,.list (a6.map AD) .none),(26,true,.val (.bool ap)),(136,true,.list (H.map (CJ AD)) .none),(137,true,Am (H.length:Int)),(138,true,Am i)] [] [(1,V.length,ad)] (Ha n (BC n g H ml125) i a6 V ap=some r)) ?_ ?_
      ·intro K137 b7
       refine rg [10,23,25,26,136,137,138,142,143,144] hs ?_
       apply Ar
       refine Az (fun m e st=>∃ (U:List ByteArray) (av:Bool) (ag:Int) (ah:Ev.Own),Ck e st B Rw L [(10,true,.list (g.map (CJ AD)) .none),(23,true,.list (U.map BE) ah),(25,true,.list (a6.map AD) .none),(26,true,.val (.bool av)),(136,true,.list (H.map (CJ AD)) .none),(137,true,Am (H.length:Int)),(138,true,Am i),(142,true,.list (g.map (CJ AD)) .none),(143,true,Am (g.length:Int)),(144,true,Am ag)] [] [(1,U.length,ah)] (DK n (BC n g H ml125) g i a6 m U av ag=some r)) n ⟨w,false,0,E,([]),Rl125,ef hs,ef hs,Owns.of_eq (j) Dk,h⟩ ?_
       rintro ml139 e st ⟨U,av,ag,ah,Xl139,Rl139,rfl,rfl,j,h⟩ Ul139 Vl139
       cases ml139 with
       | zero=>cases h
       | succ ml139 =>
       rw [DK] at h
       exact go (tg (a:=([10,23,25,26,136,137,138,142,143,144,145],([10,23,25,26,136,137,138,142,143,144],[10,23,25,26,28,136,137,138,142,143,144],([10,23,25,26,136,137,138,142,143,144],[10,23,25,26,136,137,138,142,143,144],()),[10,23,25,26,136,137,138,142,143,144],[10,23,25,26,136,137,138,142,143,144],()),[10,23,25,26,136,137,138],()))) h hs hN u v c j (q1 (TS w0 hP n)) (q2 b7 (fun e s=>Vl139 ml139 e s (Nat.lt_succ_self _)))
      ·clear h;rintro e st ⟨V,ap,ad,Xk136,Rk136,rfl,rfl,j,h⟩
       rw [Ha] at h
       exact go (tg (a:=([10,23,25,136,137,138,158],([10,23,136,137,138],()),[10,23,136,137,138],()))) h hs hN u v c j (q2 (ae M7 JV) (TS w0 hP n)) (q1 ca)
     ·clear h;rintro e st ⟨aa,af,Xk130,Rk130,rfl,rfl,j,h⟩
      rw [FH] at h
      exact go (tg (a:=([10,23,136,137,138],()))) h hs hN u v c j trivial (q1 (fun e s=>Vl125 ml125 e s (Nat.lt_succ_self _)))
    ·clear h;rintro e st ⟨Z,ai,Xk120,Rk120,rfl,rfl,j,h⟩
     rw [I5] at h
     exact go (tg (a:=([4,5],()))) h hs hN u v c j trivial trivial
def ChR (A Z:Option (List ByteArray × Int)):Prop:=∃ (r:List ByteArray) (e:Int),A=some (r,e)∧Z=some (r,e)∧r.length≤1000
theorem TU (n:Nat) (y:List (List Part)) (hl:y.length≤1000000):∀ (k m i:Nat),i+k=y.length→k<m→D1 n y m (y.take i) i=some y
 | k,0,i,_,h=>absurd h (Nat.not_lt_zero _)
 | 0,m+1,i,hi,_=>by
  rw [D1,AH,Ac,Aj (by decide),Ij,List.take_of_length_le (by omega)]
 | k+1,m+1,i,hi,hm=>by
  have a:i<y.length:=by omega
  rw [D1,AH,Ah a,Ai rfl,AK a,Af,Ai (by rw [List.length_take];omega),Ai (AG (by omega))]
  have e:y.take i++[y[i]]=y.take (i+1):=by rw [List.take_succ_eq_append_getElem a]
  rw [e]
  exact TU n y hl k m (i+1) (by omega) (by omega)
theorem TV (n:Nat) (t:Ty) (ls:List (List Part)) (h:D6 n t=some ls) (hl:ls.length≤1000000) (hn:ls.length<n):FV n t=some ls:=by
 rw [FV,h,Af]
 have:=TU n ls hl ls.length n 0 (by omega) hn
 rw [List.take_zero] at this
 exact this
abbrev Ub (n:Nat) (l:List Part):ByteArray:=(ZjG n l).1
theorem ZL (n:Nat) (hn:25≤n) (ls:List (List Part)) (hl:LeavesOk ls):∀ (k m i:Nat) (a:List ByteArray),i+k=ls.length→k<m→a.length=i→Fe n ls m a i=some (a++(ls.drop i).map (Ub n))
 | k,0,i,_,_,h,_=>absurd h (Nat.not_lt_zero _)
 | 0,m+1,i,a,hi,_,_=>by
  rw [Fe,AH,Ac,Aj (by decide),JK,List.drop_eq_nil_of_le (by omega),List.map_nil,List.append_nil]
 | k+1,m+1,i,a,hi,hm,ha=>by
  have b:i<ls.length:=by omega
  have c:=hl.1
  obtain ⟨q1,q2⟩:=hl.2 _ (List.getElem_mem b)
  rw [Fe,AH,Ah b,Ai rfl,AK b,Af,YK n hn _ q2 q1,Af,Ab,Ai (AG (by omega)),List.drop_eq_getElem_cons b,List.map_cons]
  have ih:=ZL n hn ls hl k m (i+1) (a++[Ub n ls[i]]) (by omega) (by omega) (by rw [E6];omega)
  refine Eq.trans ih ?_
  rw [List.append_assoc,List.singleton_append]
theorem Zeo (n:Nat) (hn:1100≤n) (ls:List (List Part)) (hl:LeavesOk ls):Jb n ls=some (ls.map (Ub n)):=by
 have a:=hl.1
 exact ZL n (by omega) ls hl ls.length n 0 [] (by omega) (by omega) rfl
theorem XG (n:Nat) (hn:25≤n) (ls:List (List Part)) (hl:LeavesOk ls):∀ (k m i:Nat) (a:List ByteArray),i+k=ls.length→k<m→a.length=i→EE n ls m a i=some (a++(ls.drop i).map (Ub n))
 | k,0,i,_,_,h,_=>absurd h (Nat.not_lt_zero _)
 | 0,m+1,i,a,hi,_,_=>by
  rw [EE,AH,Ac,Aj (by decide),I9,List.drop_eq_nil_of_le (by omega),List.map_nil,List.append_nil]
 | k+1,m+1,i,a,hi,hm,ha=>by
  have b:i<ls.length:=by omega
  have c:=hl.1
  obtain ⟨q1,q2⟩:=hl.2 _ (List.getElem_mem b)
  rw [EE,AH,Ah b,Ai rfl,AK b,Af,YK n hn _ q2 q1,Af,Ab,Ai (AG (by omega)),List.drop_eq_getElem_cons b,List.map_cons]
  have ih:=XG n hn ls hl k m (i+1) (a++[Ub n ls[i]]) (by omega) (by omega) (by rw [E6];omega)
  refine Eq.trans ih ?_
  rw [List.append_assoc,List.singleton_append]
theorem ZcU (n:Nat) (hn:1100≤n) (ls:List (List Part)) (hl:LeavesOk ls):JW n ls=some (ls.map (Ub n)):=by
 have a:=hl.1
 exact XG n (by omega) ls hl ls.length n 0 [] (by omega) (by omega) rfl
theorem QF (n:Nat) (hn:25≤n) (l:List Part) (h1:l.length≤20) (h2:∀ p∈l,p.wf∧pOk p=true):Iy n l=some (Ub n l):=by
 rw [Iy,YK n hn l h2 h1,Af]
theorem YJ {α:Type} (f:α→Option Bool) (p:α→Bool):∀ (l:List α),(∀ x∈l,f x=some (p x))→UT f l=some (l.filter fun x => !p x)
 | [],_=>rfl
 | x::r,h=>by
  rw [UT,h x (List.mem_cons_self ..),Af,YJ f p r (fun y a=>h y (List.mem_cons_of_mem _ a)),Option.map_some,List.filter_cons]
  cases p x<;>rfl
theorem LeavesOk.filter {ls:List (List Part)} (h:LeavesOk ls) (p:List Part→Bool):LeavesOk (ls.filter p):=⟨Nat.le_trans (List.length_filter_le _ _) h.1,fun l a=>h.2 l (List.mem_filter.1 a).1⟩
theorem ZcI (ks:List ByteArray) (s x:ByteArray):QG (WB ks s) x=(QG ks x||Fv s x):=by
 unfold WB
 by_cases h:QG ks s=true
 ·rw [Ai h]
  by_cases e:Fv s x=true
  ·obtain rfl:=(PR _ _).1 e
   rw [h,e];rfl
  ·rw [Bool.eq_false_iff.2 e,Bool.or_false]
 ·rw [Aj h]
  simp [QG]
theorem Zcb (n:Nat) (ts:List Ty) (y:List ByteArray) (hy:y.length≤1000):∀ (k m i:Nat) (ks:List ByteArray),i+k=y.length→k<m→∃ ks',(∀ x,QG ks' x=(QG ks x||(y.drop i).any fun s=>Fv s x))∧CU n ts y m i ks=FP n ts ks'
 | k,0,i,_,_,h=>absurd h (Nat.not_lt_zero _)
 | 0,m+1,i,ks,hi,_=>by
  refine ⟨ks,fun x=>?_,?_⟩
  ·rw [List.drop_eq_nil_of_le (by omega),List.any_nil,Bool.or_false]
  ·rw [CU,AH,Ac,Aj (by decide)]
 | k+1,m+1,i,ks,hi,hm=>by
  have a:i<y.length:=by omega
  obtain ⟨ks',b,c⟩:=Zcb n ts y hy k m (i+1) (WB ks y[i]) (by omega) (by omega)
  refine ⟨ks',fun x=>?_,?_⟩
  ·rw [b,ZcI,List.drop_eq_getElem_cons a,List.any_cons,Bool.or_assoc]
  ·rw [CU,AH,Ah a,Ai rfl,AK a,Af,Ai (AG (by omega))]
   exact c
def TA (n:Nat) (need ls:List (List Part)):List ByteArray:=(ls.map (Ub n)).filter fun s => !(need.map (Ub n)).any fun x=>Fv x s
theorem S8 (n:Nat) (hn:25≤n) (ag:List ByteArray→Int→Option (List ByteArray × Int)) (ls:List (List Part)) (hl:LeavesOk ls) (x:Int) (z:List Part) (z1:z.length≤20) (z2:∀ p∈z,p.wf∧pOk p=true) (a:List ByteArray):∀ (k m i:Nat) (b:Bool),i+k=ls.length→k<m →
  DK n ag ls x z m a b i=Ha n ag x z a (b||(ls.drop i).any fun l=>Fv (Ub n l) (Ub n z))
 | k,0,i,_,_,h=>absurd h (Nat.not_lt_zero _)
 | 0,m+1,i,b,hi,_=>by
  rw [DK,AH,Ac,Aj (by decide),List.drop_eq_nil_of_le (by omega),List.any_nil,Bool.or_false]
 | k+1,m+1,i,b,hi,hm=>by
  have c:i<ls.length:=by omega
  have d:=hl.1
  obtain ⟨q1,q2⟩:=hl.2 _ (List.getElem_mem c)
  rw [DK,AH,Ah c,Ai rfl,AK c,Af,List.drop_eq_getElem_cons c,List.any_cons]
  cases b with
  | true =>
   have ih:=S8 n hn ag ls hl x z z1 z2 a k m (i+1) true (by omega) (by omega)
   rw [Ai rfl,Ai (AG (by omega))]
   exact ih
  | false =>
   have ih:=S8 n hn ag ls hl x z z1 z2 a k m (i+1) (Fv (Ub n ls[i]) (Ub n z)) (by omega) (by omega)
   rw [Aj (by decide),QF n hn _ q1 q2,Af,QF n hn _ z1 z2,Af,Ai (AG (by omega)),Bool.false_or]
   exact ih
theorem Vg (n:Nat) (hn:1100≤n) (need ls:List (List Part)) (h0:LeavesOk need) (hl:LeavesOk ls):∀ (k m i:Nat) (a:List ByteArray),i+k=ls.length→k<m→a.length≤i →
  BC n need ls m a i=some (a++TA n need (ls.drop i),0)
 | k,0,i,_,_,h,_=>absurd h (Nat.not_lt_zero _)
 | 0,m+1,i,a,hi,_,_=>by
  rw [BC,AH,Ac,Aj (by decide),I5,List.drop_eq_nil_of_le (by omega)]
  simp [TA]
 | k+1,m+1,i,a,hi,hm,ha=>by
  have b:i<ls.length:=by omega
  have f:=hl.1
  have g:=h0.1
  obtain ⟨q1,q2⟩:=hl.2 _ (List.getElem_mem b)
  have c:=S8 n (by omega) (BC n need ls m) need h0 i ls[i] q1 q2 a need.length n 0 false (by omega) (by omega)
  rw [List.drop_zero,Bool.false_or] at c
  have d:((need.map (Ub n)).any fun x=>Fv x (Ub n ls[i]))=need.any fun l=>Fv (Ub n l) (Ub n ls[i]):=by rw [List.any_map];rfl
  have e:TA n need (ls.drop i)=(if (!(need.any fun l=>Fv (Ub n l) (Ub n ls[i])))=true then [Ub n ls[i]] else [])++TA n need (ls.drop (i+1)):=by
   rw [TA,List.drop_eq_getElem_cons b,List.map_cons,List.filter_cons,d]
   split<;>rfl
  rw [BC,AH,Ah b,Ai rfl,AK b,Af]
  refine Eq.trans c ?_
  rw [Ha,e]
  cases need.any fun l=>Fv (Ub n l) (Ub n ls[i]) with
  | true =>
   rw [Aj (by decide),Aj (by decide),List.nil_append,FH,Ai (AG (by omega))]
   exact Vg n hn need ls h0 hl k m (i+1) a (by omega) (by omega) (by omega)
  | false =>
   rw [Ai (by decide),Ai (by decide),QF n (by omega) _ q1 q2,Af,Ab,FH,Ai (AG (by omega)),←List.append_assoc]
   exact Vg n hn need ls h0 hl k m (i+1) (a++[Ub n ls[i]]) (by omega) (by omega) (by rw [E6];omega)
theorem ZjA (n:Nat) (hn:3000000≤n) (ts:List Ty) (h:0<ts.length) (ht:∀ t∈ts,t.small) (need:List (List Part)) (h0:LeavesOk need):ChR ((Jb n need).bind fun y=>CU n ts y n 0 []) (H4 n ts need):=by
 obtain ⟨c,a,_,q3,d⟩:=NH n hn ts[0] (ht _ (List.getElem_mem h))
 have i:=d.1
 have l:=h0.1
 have g:BJ ts 0=some ts[0]:=AK h
 have et:=Zeo n (by omega) need h0
 generalize hY:need.map (Ub n)=Y at et
 have j:Y.length=need.length:=by rw [←hY,List.length_map]
 obtain ⟨b,k,f⟩:=Zcb n ts Y (by omega) Y.length n 0 [] (by omega) (by omega)
 have f:CU n ts Y n 0 []=FP n ts b:=f
 have o:=Vg n (by omega) need a h0 d a.length n 0 [] (by omega) (by omega) (Nat.le_refl _)
 rw [List.drop_zero,List.nil_append] at o
 have o:BC n need a n [] 0=_:=o
 have hd:UT (fun (e:ByteArray)=>some (DN e b)) (a.map (Ub n))=some (TA n need a):=by
  rw [YJ _ (fun e=>DN e b) _ (fun x _=>rfl),TA,hY]
  congr 1
  refine List.filter_congr fun x _=>?_
  show (!DN x b)=(!Y.any fun s=>Fv s x)
  rw [DN,k,List.drop_zero]
  rfl
 refine ⟨TA n need a,0,?_,?_,?_⟩
 ·rw [et,Af,f,FP,g,Af,Zbn n _ a q3 (by omega) (by omega),Af,ZcU n (by omega) a d,Af,Ai (by rw [List.length_map];omega),hd,Af]
 ·rw [H4,g,Af,q3,Af,o]
 ·refine Nat.le_trans (List.length_filter_le _ _) ?_
  rw [List.length_map];exact i
theorem YQ (n:Nat) (ag:List ByteArray→Int→Option (List ByteArray × Int)) (need:List (List Part)) (h0:LeavesOk need) (x:Int) (r:ByteArray × Ex) (y:List Part × Int) (hy:Vw y.1) (hn:20<n) (a:List ByteArray):∀ (k m i:Nat) (b:Bool),i+k=need.length→k<m →
  Dl n ag need x r y m a b i=H7 n ag x r a (b||(need.drop i).any fun l=>Ip AU y.1 l)
 | k,0,i,_,_,h=>absurd h (Nat.not_lt_zero _)
 | 0,m+1,i,b,hi,_=>by
  rw [Dl,AH,Ac,Aj (by decide),List.drop_eq_nil_of_le (by omega),List.any_nil,Bool.or_false]
 | k+1,m+1,i,b,hi,hm=>by
  have c:i<need.length:=by omega
  have e:=h0.1
  have f:=hy.1
  obtain ⟨q1,q2⟩:=h0.2 _ (List.getElem_mem c)
  rw [Dl,AH,Ah c,Ai rfl,AK c,Af,List.drop_eq_getElem_cons c,List.any_cons]
  cases b with
  | true =>
   have ih:=YQ n ag need h0 x r y hy hn a k m (i+1) true (by omega) (by omega)
   rw [Ai rfl,Ai (AG (by omega))]
   exact ih
  | false =>
   have ih:=YQ n ag need h0 x r y hy hn a k m (i+1) (Ip AU y.1 need[i]) (by omega) (by omega)
   rw [Aj (by decide),TK n _ _ (fun p d=>Pi (hy.2 p d).2) (fun p d=>Pi (q2 p d).2) (by omega) (by omega),Af,Ai (AG (by omega)),Bool.false_or]
   exact ih
theorem Vm (n:Nat) (hn:3000000≤n) (ts:List Ty) (A:List (List Part)→Option (List ByteArray × Int)) (Z:List (List Part)→Int→Option (List ByteArray × Int)) (need:List (List Part)) (h0:LeavesOk need) (p:Nat × List (ByteArray × Ex)) (hp:M4 p.2) (x:Int)
  (HK:∀ ss:List ByteArray,ss.length≤1000→ChR (FT n A ts p ss) (GH n Z ts x ss)):∀ (k m i:Nat) (ss:List ByteArray),i+k=p.2.length→k<m→ss.length≤i*85 →
  ChR (CP n A ts p need m i ss) (BQ n Z ts need x p.2 m ss i)
 | k,0,i,_,_,h,_=>absurd h (Nat.not_lt_zero _)
 | 0,m+1,i,ss,hi,_,hs=>by
  have c:=hp.1
  rw [CP,BQ,AH,Ac,Aj (by decide),Aj (by decide)]
  exact HK ss (by omega)
 | k+1,m+1,i,ss,hi,hm,hs=>by
  have c:=hp.1
  have a:i<p.2.length:=by omega
  have f:=h0.1
  obtain ⟨e,ok⟩:=UA n (by omega) p.2[i].1
  have g:=ok.1
  obtain ⟨w,d,j⟩:=ZcX n (by omega) p.2[i].2 (hp.2 _ (List.getElem_mem a)).2
  have b:Ba n need (fun (x0:List Part)=>FK n x0 (prs n p.2[i].1).1)=some (need.any fun l=>Ip AU (prs n p.2[i].1).1 l):=Q7 n need _ _ (fun l _=>by rw [FK,Zam n _ _ (by omega) (by omega),Af]) (by omega) (by omega)
  have an:=YQ n (BQ n Z ts need x p.2 m) need h0 i p.2[i] (prs n p.2[i].1) ok (by omega) ss need.length n 0 false (by omega) (by omega)
  rw [List.drop_zero,Bool.false_or] at an
  have an:Dl n (BQ n Z ts need x p.2 m) need i p.2[i] (prs n p.2[i].1) n ss false 0=_:=an
  rw [CP,BQ,AH,Ah a,Ai rfl,Ai rfl,AK a,Af,Af,e,Af,Af,b,Af,an,H7]
  cases need.any fun l=>Ip AU (prs n p.2[i].1).1 l with
  | true =>
   rw [Ai rfl,Ai rfl,d,Af,Af,Ab,Ab,FC,GF,Ai (AG (by omega)),Ai (AG (by omega))]
   exact Vm n hn ts A Z need h0 p hp x HK k m (i+1) (ss++w) (by omega) (by omega) (by rw [List.length_append];omega)
  | false =>
   rw [Aj (by decide),Aj (by decide),FC,GF,Ai (AG (by omega)),Ai (AG (by omega))]
   exact Vm n hn ts A Z need h0 p hp x HK k m (i+1) ss (by omega) (by omega) (by omega)
theorem S0 (n:Nat) (hn:1100≤n) (Z:List (List Part)→Int→Option (List ByteArray × Int)) (x:Int) (ls:List (List Part)) (hl:LeavesOk ls) (ss:List ByteArray) (hs:ss.length≤1000):∀ (k m i:Nat) (a:List (List Part)),i+k=ls.length→k<m→a.length≤i →
  B8 n Z x ls m a ss i=H6 n Z x (a++(ls.drop i).filter fun l=>ss.any (QZ n [bodyP] l))
 | k,0,i,_,_,h,_=>absurd h (Nat.not_lt_zero _)
 | 0,m+1,i,a,hi,_,_=>by
  rw [B8,AH,Ac,Aj (by decide),List.drop_eq_nil_of_le (by omega),List.filter_nil,List.append_nil]
 | k+1,m+1,i,a,hi,hm,ha=>by
  have b:i<ls.length:=by omega
  have d:=hl.1
  obtain ⟨q1,q2⟩:=hl.2 _ (List.getElem_mem b)
  have hd:H2 n ss [Part.mk 1 0 (⟨#[98,111,100,121]⟩:ByteArray)] ls[i]=some (ss.any (QZ n [bodyP] ls[i])):=Zc6 n hn ss hs _ _ (by simp) (fun p c=>Pi (q2 p c).2)
  rw [B8,AH,Ah b,Ai rfl,AK b,Af,hd,Af,List.drop_eq_getElem_cons b,List.filter_cons]
  cases ss.any (QZ n [bodyP] ls[i]) with
  | true =>
   rw [Ai rfl,Ai rfl,Ab,FN,Ai (AG (by omega))]
   refine Eq.trans (S0 n hn Z x ls hl ss hs k m (i+1) (a++[ls[i]]) (by omega) (by omega) (by rw [E6];omega)) ?_
   rw [List.append_assoc,List.singleton_append]
  | false =>
   rw [Aj (by decide),Aj (by decide),FN,Ai (AG (by omega))]
   exact S0 n hn Z x ls hl ss hs k m (i+1) a (by omega) (by omega) (by omega)
theorem Ze7 (n:Nat) (hn:3000000≤n) (ts:List Ty) (ht:∀ t∈ts,t.small) (A:List (List Part)→Option (List ByteArray × Int)) (Z:List (List Part)→Int→Option (List ByteArray × Int)) (q:Nat) (mp:List (ByteArray × Ex)) (hq:q<ts.length) (h9:q≤9)
  (HA:∀ l,LeavesOk l→ChR (A l) (Z l ((q:Int)-1))) (ss:List ByteArray) (hs:ss.length≤1000):ChR (FT n A ts (q,mp) ss) (GH n Z ts (q:Int) ss):=by
 obtain ⟨c,a,_,q3,d⟩:=NH n hn ts[q] (ht _ (List.getElem_mem hq))
 have g:=d.1
 have e:BJ ts (q:Int)=some ts[q]:=AK hq
 have hd:UT (fun (x0:List Part)=>G3 n x0 ss) a=some (a.filter fun l=>ss.any (QZ n [bodyP] l)):=by
  rw [YJ _ (fun l => !ss.any (QZ n [bodyP] l)) a (fun l f=>by rw [G3,Zja n (by omega) ss hs _ _ (by simp),Af])]
  simp only [Bool.not_not]
 have b:=S0 n (by omega) Z (q:Int) a d ss hs a.length n 0 [] (by omega) (by omega) (Nat.le_refl _)
 rw [List.drop_zero,List.nil_append] at b
 have b:B8 n Z (q:Int) a n [] ss 0=_:=b
 rw [FT,GH,e,Af,Af,TV n _ a q3 (by omega) (by omega),Af,Ab,hd,Af,q3,Af,b,H6,Ai (by unfold A9;omega)]
 exact HA _ (d.filter _)
theorem ZeN (l:List (List (ByteArray × Ex))) (k:Nat) (h:k<l.length):(OE l).drop (l.length-(k+1))=(k,l[k])::(OE l).drop (l.length-k):=by
 have c:l.length-(k+1)<(OE l).length:=by rw [O0];omega
 rw [List.drop_eq_getElem_cons c]
 have a:l.length-(k+1)+1=l.length-k:=by omega
 have b:l.length-1-(l.length-(k+1))=k:=by omega
 rw [a]
 congr 1
 simp only [OE,List.getElem_map,List.getElem_range,b]
 rw [List.getD_eq_getElem?_getD,List.getElem?_eq_getElem h,Option.getD_some]
theorem Zay (n:Nat) (hn:3000000≤n) (l:List (List (ByteArray × Ex))) (ts:List Ty) (hl:∀ m∈l,M4 m) (ht:∀ t∈ts,t.small) (h3:l.length≤3) (hlt:l.length<ts.length):∀ (k q:Nat) (need:List (List Part)),k≤l.length→k<q→LeavesOk need →
  ChR (BB n ts ((OE l).drop (l.length-k)) need) (Bd n l ts q need ((k:Int)-1))
 | k,0,_,_,h,_=>absurd h (Nat.not_lt_zero _)
 | 0,q+1,need,_,_,h0=>by
  rw [List.drop_eq_nil_of_le (by rw [O0];omega),BB,Bd,Ac,Aj (by decide)]
  exact ZjA n hn ts (by omega) ht need h0
 | k+1,q+1,need,hk,hq,h0=>by
  have a:k<l.length:=by omega
  have d:((k+1:Nat):Int)-1=(k:Int):=by omega
  have b:=hl _ (List.getElem_mem a)
  have f:=b.1
  rw [ZeN l k a,BB,Bd,d,Ad,Ai rfl,AK a,Af]
  exact Vm n hn ts _ _ need h0 (k,l[k]) b (k:Int) (fun c hs=>Ze7 n hn ts ht _ _ k l[k] (by omega) (by omega) (fun z e=>Zay n hn l ts hl ht h3 hlt k q z (by omega) (by omega) e) c hs) l[k].length n 0 [] (by simp) (by omega) (by simp)
theorem Zaw (n:Nat) (hn:3000000≤n) (l:List (List (ByteArray × Ex))) (ts:List Ty) (hl:∀ m∈l,M4 m) (h3:l.length≤3) (H:ChR (G9 n l ts) (HU n l ts)):∀ (k m i:Nat),i+k=l.length→k<m→ChR (Ez n l ts m i) (Fo n l ts m i)
 | k,0,i,_,h=>absurd h (Nat.not_lt_zero _)
 | 0,m+1,i,hi,_=>by
  rw [Ez,Fo,AH,Ac,Aj (by decide),Aj (by decide)]
  exact H
 | k+1,m+1,i,hi,hm=>by
  have a:i<l.length:=by omega
  obtain ⟨e,q⟩:=ZhD n (by omega) l[i] (hl _ (List.getElem_mem a))
  rw [Ez,Fo,AH,Ah a,Ai rfl,Ai rfl,AK a,Af,Af,q,Af,Af]
  by_cases z:e=0
  ·rw [Ah z,Aj (show ¬ (!true)=true by decide),Aj (show ¬ (!true)=true by decide),Ai (AG (by omega)),Ai (AG (by omega))]
   exact Zaw n hn l ts hl h3 H k m (i+1) (by omega) (by omega)
  ·rw [Ag z,Ai (by decide),Ai (by decide)]
   exact ⟨[],e,rfl,rfl,by simp⟩
theorem Zd4 (n:Nat) (hn:3000000≤n) (t:Ty) (ht:t.small):∃ e:Int,EB n t=some e∧J2 n t=some e:=by
 obtain ⟨c,b,q2,q3,a⟩:=NH n hn t ht
 refine ⟨if c=0 then (if t.kind=9 then 0 else 11) else c,?_,?_⟩
 ·rw [EB,q2,Af]
  by_cases h:c=0
  ·by_cases k:t.kind=9
   ·rw [Ah h,Ah k,Aj (by decide),Ai h,Ai k,D5,h]
   ·rw [Ah h,Ag k,Ai (by decide),Ai h,Aj k,D5]
  ·rw [Ag h,Bool.false_and,Aj (by decide),Aj h,D5]
 ·rw [J2,q2,Af]
  by_cases h:c=0
  ·rw [Ah h,Aj (by decide),Ai h]
   by_cases k:t.kind=9
   ·rw [Ah k,Aj (by decide),Ai k]
   ·rw [Ag k,Ai (by decide),Aj k]
  ·rw [Ag h,Ai (by decide),Aj h]
theorem Z4 (n:Nat) (hn:3000000≤n) (l:List (List (ByteArray × Ex))) (ts:List Ty) (ht:∀ t∈ts,t.small) (h4:ts.length≤4) (H:ChR (HZ n l ts) (IZ n l ts)):∀ (k m i:Nat),i+k=ts.length→k<m→ChR (EA n l ts m i) (Fh n l ts m i)
 | k,0,i,_,h=>absurd h (Nat.not_lt_zero _)
 | 0,m+1,i,hi,_=>by
  rw [EA,Fh,AH,Ac,Aj (by decide),Aj (by decide)]
  exact H
 | k+1,m+1,i,hi,hm=>by
  have a:i<ts.length:=by omega
  obtain ⟨e,q1,q2⟩:=Zd4 n hn ts[i] (ht _ (List.getElem_mem a))
  rw [EA,Fh,AH,Ah a,Ai rfl,Ai rfl,AK a,Af,Af,q1,q2,Af,Af]
  by_cases z:e=0
  ·rw [Ah z,Aj (show ¬ (!true)=true by decide),Aj (show ¬ (!true)=true by decide),Ai (AG (by omega)),Ai (AG (by omega))]
   exact Z4 n hn l ts ht h4 H k m (i+1) (by omega) (by omega)
  ·rw [Ag z,Ai (by decide),Ai (by decide)]
   exact ⟨[],e,rfl,rfl,by simp⟩
theorem Zlg (n:Nat) (hn:3000000≤n) (l:List (List (ByteArray × Ex))) (ts:List Ty) (hl:∀ m∈l,M4 m) (ht:∀ t∈ts,t.small) (h3:l.length≤3) (h4:ts.length≤4):ChR (I3 n l ts) (J4 n l ts):=by
 unfold I3 J4
 rw [Ai (AG (by omega)),Ai (AG (by omega))]
 by_cases h:(ts.length:Int)=(l.length:Int)+1
 rotate_left
 ·rw [Ag h,Ai (by decide),Ai (by decide)]
  exact ⟨[],5,rfl,rfl,by simp⟩
 rw [Ah h,Aj (show ¬ (!true)=true by decide),Aj (show ¬ (!true)=true by decide)]
 have a:l.length<ts.length:=by omega
 refine Z4 n hn l ts ht h4 ?_ ts.length n 0 (by omega) (by omega)
 rw [HZ,IZ]
 refine Zaw n hn l ts hl h3 ?_ l.length n 0 (by omega) (by omega)
 obtain ⟨c,d,_,q3,b⟩:=NH n hn ts[l.length] (ht _ (List.getElem_mem a))
 have f:=b.1
 have e:BJ ts (l.length:Int)=some ts[l.length]:=AK a
 rw [G9,HU,e,Af,Af,TV n _ d q3 (by omega) (by omega),Af,Ab,q3,Af,Ai (by unfold A9;omega)]
 have:=Zay n hn l ts hl ht h3 a l.length n d (Nat.le_refl _) (by omega) b
 rw [Nat.sub_self,List.drop_zero] at this
 exact this
def BU (b:ByteArray):Ex :=
 Ex.mk 2 0 b ([]) ([])
theorem Zbb (w0:World) (B:Aq) (Rw:Aw) (L:Av) (a0:ByteArray) (r:Ex) (h:BU a0=r) :
  ACalls Tryz.prog w0 31 [.val (.string a0)] ⟨B,Rw,L⟩ fun x st=>x = .agg (r.cs)∧st=⟨B,Rw,L⟩:=by
 rw [BU] at h
 refine hd [.cell 2 65] Tryz.func31 Tryz.ntmps31 fun M0 W0 e d c a f b hs=>?_
 simp only [AB]
 refine rg [0,2] hs ?_
 refine rg [2] hs ?_
 exact rT h hs a b
theorem MH (w0:World) (B:Aq) (Rw:Aw) (L:Av) (a0:ByteArray) :
  ACalls Tryz.prog w0 31 [.val (.string a0)] ⟨B,Rw,L⟩ fun x st=>x = .agg ((BU a0).cs)∧st=⟨B,Rw,L⟩:=Zbb w0 B Rw L a0 _ rfl
def LH (n:Nat)  (b1_k4_6:List (Int × ByteArray × Int × Ty × List Vl)):Option Ty :=
 some (Ty.mk 9 0 0 0 ([]) ([]) b1_k4_6)
def Ja (n:Nat) (h:List ByteArray) (q:Ty):Nat→Int→(List (Int × ByteArray × Int × Ty × List Vl))→Option Ty
 | 0,_,_=>none
 | m+1,b,b1_l7_6 =>
  if decide (b<(h.length:Int)) then
   if A9 (b+1) then
    (BJ h b).bind fun g =>
    if (b1_l7_6.length+1)*160≤140737488355328∧b1_l7_6.length+1≤4611686018427387904 then
     if A9 (b+1) then
      (Ja n h q m) (b+1) (b1_l7_6++([(b+1,g,1,q,[])]))
     else none
    else none
   else none
  else
   LH n b1_l7_6
def JU (n:Nat) (g:List ByteArray) (b:Ty):Option Ty :=
 Ja n g b n 0 ([])
theorem O2 (w0:World) (n:Nat) (B:Aq) (Rw:Aw) (L:Av) (a0:List ByteArray) (la1:Nat) (a1:Ty) (hla1:B[la1]? = some (a1.cs)) (r:Ty) (h:JU n a0 a1=some r) :
  ACalls Tryz.prog w0 71 [.list (a0.map BE) .none,.box la1 0] ⟨B,Rw,L⟩ fun x st=>x = .agg (r.cs)∧st=⟨B,Rw,L⟩:=by
 rw [JU] at h
 refine hd [.cell 3 26] Tryz.func71 Tryz.ntmps71 fun M0 W0 H u t i K j hs=>?_
 simp only [AB]
 have v:=(Ak.1 hla1).1
 have hs:=Ae (As hla1) hs
 refine rg [0,1,3] hs ?_
 refine rg [0,1,3,4] hs ?_
 refine AA (fun e st=>∃ (c:List (Int × ByteArray × Int × Ty × List Vl)) (f:Ev.Own),Ck e st B Rw L [(3,true,.box B.length 0),(4,true,.box (B.length+1) 0)] [[Am 0,Am 0,Am 0,Am 0,.list ([]) .full,.list ([]) .full,.list ([]) .full],[Am 9,Am 0,Am 0,Am 0,.list ([]) .full,.list ([]) .full,.list (c.map CH) f]] [(11,c.length,f)] (LH n c=some r)) ?_ ?_
 ·intro K5 E
  refine rg [0,1,3,4,5] hs ?_
  apply Ar
  refine Az (fun m e st=>∃ (g:Int) (a:List (Int × ByteArray × Int × Ty × List Vl)) (b:Ev.Own),Ck e st B Rw L [(0,true,.list (a0.map BE) .none),(1,true,.box la1 0),(3,true,.box B.length 0),(4,true,.box (B.length+1) 0),(5,true,Am g)] [[Am 0,Am 0,Am 0,Am 0,.list ([]) .full,.list ([]) .full,.list ([]) .full],[Am 9,Am 0,Am 0,Am 0,.list ([]) .full,.list ([]) .full,.list (a.map CH) b]] [(11,a.length,b)] (Ja n a0 a1 m g a=some r)) n ⟨0,([]),.full,([]),Rw,ef hs,ef hs,Owns.of_eq ((j).full 11 0) Dk,h⟩ ?_
  rintro ml7 e st ⟨g,a,b,Xl7,Rl7,rfl,rfl,j,h⟩ Ul7 Vl7
  cases ml7 with
  | zero=>cases h
  | succ ml7 =>
  rw [Ja] at h
  have D:=j.unders
  simp only [List.mem_cons,List.not_mem_nil,or_false,forall_eq_or_imp,forall_eq] at D
  refine td H u t i j ?_
  apply An;intro K8 q
  refine rg [0,1,3,4,5,10] hs ?_
  refine BL h hs ?_ ?_<;>intro hs h
  rotate_left
  ·refine sx [3,4] hs E ?_
   exact ⟨a,b,([]),Rl7,ef hs,ef hs,Owns.of_eq (j) Dk,h⟩
  refine sk [0,1,3,4,5] hs q ?_
  clear q
  apply An;intro K11 l
  apply Ar
  obtain ⟨J,h⟩:=Au h
  obtain ⟨z,F,w,p,h⟩:=ix BE h
  obtain ⟨o,h⟩:=Au h
  obtain ⟨C,k,j,d⟩:=j.append (P:=Tryz.prog) VM (by rw [OQ];rfl) (by decide) 1 o.1 o.2
  replace d:=fun (ys:List AV) B L o2=>d (a.map CH) ys B L o2 Dk
  replace d:=fun (y:AV) B L o2=>d [y] B L o2 Dk ev
  try simp only [List.mem_singleton,List.mem_cons,List.not_mem_nil,or_false,forall_eq_or_imp,forall_eq,List.map_append,List.map_cons,List.map_nil,Fb,Ft,Fp,Ec,Ed,Fj,CG,Dp,Fq,BX,BW,Du,Dv,Dq,E8,Dt,Fa] at d
  have hs:=Ae p hs
  have hs:=Ae (Ty.cs_eqs a1) hs
  have hs:=Ae d hs
  refine dl 11 1 1 [0,1,3,4,5] hs QQ l ?_
  clear l
  obtain ⟨G,h⟩:=Au h
  refine rl [0,1,3,4,5] hs (fun e s=>Vl7 ml7 e s (Nat.lt_succ_self _)) ?_
  exact ⟨(g+1),(a++([(g+1,z,1,a1,[])])),C,([]),k,ef hs,ef hs,Owns.of_eq (j) Dk,h⟩
 ·clear h;rintro e st ⟨c,f,Xk4,Rk4,rfl,rfl,j,h⟩
  rw [LH] at h
  have D:=j.unders
  simp only [List.mem_cons,List.not_mem_nil,or_false,forall_eq_or_imp,forall_eq] at D
  refine td H u t i j ?_
  refine rg [3] hs ?_
  exact rt h hs i j
def KH (n:Nat)  (b1_k4_6:List (Int × ByteArray × Int × Ty × List Vl)):Option Ty :=
 some (Ty.mk 9 0 0 0 ([]) ([]) b1_k4_6)
def Ie (n:Nat) (h:List ByteArray) (q:Ty):Nat→Int→(List (Int × ByteArray × Int × Ty × List Vl))→Option Ty
 | 0,_,_=>none
 | m+1,b,b1_l7_6 =>
  if decide (b<(h.length:Int)) then
   if A9 (b+1) then
    (BJ h b).bind fun g =>
    if (b1_l7_6.length+1)*160≤140737488355328∧b1_l7_6.length+1≤4611686018427387904 then
     if A9 (b+1) then
      (Ie n h q m) (b+1) (b1_l7_6++[(b+1,g,1,q,[])])
     else none
    else none
   else none
  else
   KH n b1_l7_6
def L1 (n:Nat) (g:List ByteArray) (b:Ty):Option Ty :=
 Ie n g b n 0 ([])
theorem Uf (w0:World) (n:Nat) (B:Aq) (Rw:Aw) (L:Av) (a0:List ByteArray) (la1:Nat) (a1:Ty) (hla1:B[la1]? = some (a1.cs)) (r:Ty) (h:L1 n a0 a1=some r) :
  ACalls Tryz.prog w0 71 [.list (a0.map BE) .none,.box la1 0] ⟨B,Rw,L⟩ fun x st=>∃ (o0:VO) (rows:Aw),x = .agg ([Am r.kind,Am r.min,Am r.max,Am r.scale,.list (r.words.map BE) .none,.list (r.elem.map Dj) .none,Ks o0 r.fields.length])∧st=⟨B,rows,L⟩∧Owns Rw rows [] .none [(o0,11,(r.fields).flatMap fun x=>(CH x).cells)]:=by
 rw [L1] at h
 refine ACalls.finV (L0 [true,true,true,true,true,true,false] (rs:=[.cell 3 26]) Tryz.func71 rfl rfl Tryz.ntmps71 (AL Tryz.func71 rfl (by decide)) (Nat.le_of_ble_eq_true rfl) ?_)
 intro M0 W0 F u t i K
 dsimp only at F u t i K
 simp only [AB]
 have j:=Owns.none Rw
 have hs:=WY
 have z:=(Ak.1 hla1).1
 have hs:=Ae (As hla1) hs
 refine rg [0,1,3] hs ?_
 refine rg [0,1,3,4] hs ?_
 refine AA (fun e st=>∃ (d:List (Int × ByteArray × Int × Ty × List Vl)) (g:VO) (Xk4:Aq) (Rk4:Aw),e=[(3,true,.box B.length 0),(4,true,.box (B.length+1) 0)]∧st=⟨B++([[Am 0,Am 0,Am 0,Am 0,.list ([]) .full,.list ([]) .full,.list ([]) .full],[Am 9,Am 0,Am 0,Am 0,.list ([]) .full,.list ([]) .full,Ks g d.length]]++Xk4),Rk4,L⟩∧Owns Rw Rk4 [] .none [(g,11,d.flatMap fun x=>(CH x).cells)]∧KH n d=some r) ?_ ?_
 ·intro K5 G
  refine rg [0,1,3,4,5] hs ?_
  apply Ar
  refine Q0 (B.length+1) 6 (by simp only [E3,Dx,Eu,C7];rfl) rfl ?_;simp +decide only [go_sem,Nat.reduceAdd,List.set_cons_zero,List.set_cons_succ]
  have j:=j.nilV 11
  refine Az (fun m e st=>∃ (c:Int) (a:List (Int × ByteArray × Int × Ty × List Vl)) (b:VO) (Xl7:Aq) (Rl7:Aw),e=[(0,true,.list (a0.map BE) .none),(1,true,.box la1 0),(3,true,.box B.length 0),(4,true,.box (B.length+1) 0),(5,true,Am c)]∧st=⟨B++([[Am 0,Am 0,Am 0,Am 0,.list ([]) .full,.list ([]) .full,.list ([]) .full],[Am 9,Am 0,Am 0,Am 0,.list ([]) .full,.list ([]) .full,Ks b a.length]]++Xl7),Rl7,L⟩∧Owns Rw Rl7 [] .none [(b,11,a.flatMap fun x=>(CH x).cells)]∧Ie n a0 a1 m c a=some r) n ⟨0,([]),.nil,([]),Rw,ef hs,ef hs,Owns.eqV (j) Ze,h⟩ ?_
  rintro ml7 e st ⟨c,a,b,Xl7,Rl7,rfl,rfl,j,h⟩ Ul7 Vl7
  cases ml7 with
  | zero=>cases h
  | succ ml7 =>
  rw [Ie] at h
  have l:=j.underV
  simp only [List.mem_cons,List.not_mem_nil,or_false,forall_eq_or_imp,forall_eq] at l
  refine A8 F u t rfl i j ow ow ?_ (vu @Yt)
  apply An;intro K9 y
  refine rg [0,1,3,4,5,10] hs ?_
  refine BL h hs ?_ ?_<;>intro hs h
  rotate_left
  ·refine sx [3,4] hs G ?_
   exact ⟨a,b,([]),Rl7,ef hs,ef hs,Owns.eqV (j) Ze,h⟩
  refine sk [0,1,3,4,5] hs y ?_
  clear y
  apply An;intro K12 q
  apply Ar
  obtain ⟨H,h⟩:=Au h
  obtain ⟨v,E,C,w,h⟩:=ix BE h
  obtain ⟨p,h⟩:=Au h
  obtain ⟨D,o,j,k⟩:=j.appendV (P:=Tryz.prog) (n:=a.length) (m:=1) VM (by rw [OQ];rfl) (by decide) ((Gt (f:=CH) (sz:=11) (fun _=>by simp +decide only [go_sem]) _)) p.1 p.2 [CH ((c+1,v,1,a1,[]))] rfl ((a++[(c+1,v,1,a1,[])]).flatMap fun x=>(CH x).cells) (by simp only [List.flatMap_append,List.flatMap_cons,List.flatMap_nil,List.append_nil,List.nil_append,Xk])
  simp only [List.mem_singleton,forall_eq,Fb,Ft,Fp,Ec,Ed,Fj,CG,Dp,Fq,BX,BW,Du,Dv,Dq,E8,Dt,Fa,Ty.cs_eqs a1,List.cons_append,List.nil_append,List.map_nil,List.map_cons] at k
  have hs:=Ae w hs
  have hs:=Ae (Ty.cs_eqs a1) hs
  have hs:=Ae k hs
  refine dl 11 1 1 [0,1,3,4,5] hs QQ q ?_
  clear q
  obtain ⟨J,h⟩:=Au h
  refine rl [0,1,3,4,5] hs (fun e s=>Vl7 ml7 e s (Nat.lt_succ_self _)) ?_
  exact ⟨(c+1),(a++[(c+1,v,1,a1,[])]),D,([]),o,ef hs,ef hs,Owns.eqV (j) Ze,h⟩
 ·clear h;rintro e st ⟨d,g,Xk4,Rk4,rfl,rfl,j,h⟩
  rw [KH] at h
  have l:=j.underV
  simp only [List.mem_cons,List.not_mem_nil,or_false,forall_eq_or_imp,forall_eq] at l
  refine A8 F u t rfl i j ow ow ?_ (vu @Yt)
  refine rg [3] hs ?_
  apply AM;simp +decide only [go_sem,Nat.reduceAdd,As hla1]
  have hgt:=Option.some.inj h;subst hgt
  have l:=j.underV
  simp only [List.mem_cons,List.not_mem_nil,or_false,forall_eq_or_imp,forall_eq] at l
  refine Zbl j i rfl (by (simp +decide only [go_sem,Nat.reduceAdd,As hla1])<;>(try (repeat' apply Ae))<;>first | omega | assumption) (vu @Yt) ⟨_,_,?_,rfl,j.sub (List.nil_sublist _)⟩
  first | rfl | (simp +decide only [go_sem,Nat.reduceAdd,As hla1];done) | (simp +decide only [go_sem,Nat.reduceAdd,Vl.cs,Ty.cs,As hla1];done)
def BZ (b:ByteArray) (g:Ex):((ByteArray × Ex)) :=
 (b,g)
theorem Zn (w0:World) (B:Aq) (Rw:Aw) (L:Av) (a0:ByteArray) (a1:Ex) (r:(ByteArray × Ex)) (h:BZ a0 a1=r) :
  ACalls Tryz.prog w0 30 [.val (.string a0),.agg (a1.cs)] ⟨B,Rw,L⟩ fun x st=>x = .agg (.val (.string r.1)::(r.2.cs))∧st=⟨B,Rw,L⟩:=by
 rw [BZ] at h
 refine hd [.cell 4 67] Tryz.func30 Tryz.ntmps30 fun M0 W0 e d c a f b hs=>?_
 simp only [AB]
 refine rg [0,3,4] hs ?_
 refine rg [4] hs ?_
 exact rT h hs a b
theorem Lo (w0:World) (B:Aq) (Rw:Aw) (L:Av) (a0:ByteArray) (a1:Ex) :
  ACalls Tryz.prog w0 30 [.val (.string a0),.agg (a1.cs)] ⟨B,Rw,L⟩ fun x st=>x = .agg (.val (.string (BZ a0 a1).1)::((BZ a0 a1).2.cs))∧st=⟨B,Rw,L⟩:=Zn w0 B Rw L a0 a1 _ rfl
end Go.Proofs.YtmcnjijeocmkgaaGreatDoor
